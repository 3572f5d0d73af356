/- The abstract machine: regions that draw their order around calls and appends, or run in all their orders; entries of maps, channels. Conditions: as each theorem says. -/
import Derived.Test.YtabidiilbgakoaaGreatDoorAmd
namespace Go.AM
open Go.RowKit
def FpOk (F : List Nat) (s : List (Nat × AV)) : Prop := ∀ t ∈ F, ∃ l, get s t = .fptr l
section
variable {F : List Nat} {P : Program} {ops : Array Oper}
end
theorem ac_fzbox [Vars] {P : Program} {fl : Nat} {code : Code} {Q : Exit → St → Prop} {st : St} {t m : Nat} {c : List AV} (hm : st.h m = some (.cells c)) (ht : get st.s t = .ptr m 0)
    (h : ACode P fl code Q { st with s := (t, .fptr c) :: st.s, h := st.h.upd m none }) : ACode P fl code Q st := by
  intro r w0 G a w hr S hf
  obtain ⟨rg, vs, hreg, ok⟩ := S.inv.obj m _ hm
  have hle := Gh.le_freeze S.inv hm hreg
  have hx : Ext fl G (G.freeze w rg) := ⟨fun _ _ => rfl, hle.imm, ⟨[], rfl⟩, rfl, fun _ e => e⟩
  refine wpIn_mono (h r w0 (G.freeze w rg) a w hr ⟨S.inv.freeze hm hreg, S.size, S.defers, fun t' => ?_, S.fresh⟩ hf) fun _ _ _ ⟨G', st', e1, e2⟩ => ⟨G', st', hx.trans e1, e2⟩
  simp only [get]
  by_cases e : t' = t
  · subst e
    rw [if_pos rfl]
    have hv := S.slots t'
    rw [ht] at hv
    simp only [Rv] at hv ⊢
    obtain ⟨b, lo, tt, h1, h2⟩ := hv
    rw [hreg] at h1; cases h1
    refine ⟨_, vs, h2, RvL.mono hle.v _ _ ok.rel, fun j v hj => ?_⟩
    have hjl := (List.getElem?_eq_some_iff.1 hj).1
    have hlen := ok.rel.length
    have hl2 := ok.len
    rw [addr_add_lit]
    have hin : InReg (b, lo, tt) ⟨b, lo + 0 + j, none⟩ := by
      refine ⟨rfl, ?_, ?_⟩ <;> simp only at * <;> omega
    simp only [Gh.freeze, if_pos hin]
    exact ok.val j v hj
  · rw [if_neg e]
    exact (S.slots t').mono hle.v _ _
end Go.AM
namespace Go.AM
open Go.RowKit
def isAp : Op → Bool
  | .call { callee := .builtin .append, .. } => true
  | _ => false
def isFA (F : List Nat) (o : Oper) : Bool := o.guard.isNone && match o.op with | .fieldAddr _ (.tmp f) _ => F.contains f | _ => false
def fpSlot (F : List Nat) (ops : Array Oper) (t : Nat) : Bool := F.contains t || ops.toList.any (fun o => isFA F o && o.dst == some t)
def ldSlot : Op → Option Nat
  | .load _ (.tmp t) => some t
  | _ => none
def isLd3 (F : List Nat) (ops : Array Oper) (op : Op) : Bool := match ldSlot op with | some t => fpSlot F ops t | none => false
def isD (P : Program) (op : Op) : Bool := match clOf P op with | .d => true | _ => false
def comm3 (F : List Nat) (P : Program) (ops : Array Oper) (p i : Oper) : Bool := p.apart ops i && (compat (clOf P p.op) (clOf P i.op) || isLd3 F ops p.op || isLd3 F ops i.op || (isAp p.op && isD P i.op))
def LdAt (op : Op) (s : List (Nat × AV)) : Prop := ∀ t, ldSlot op = some t → ∃ l, get s t = .fptr l
theorem f_ld3 [Vars] {P : Program} {ops : Array Oper} {F : List Nat} {o : Oper} {s : List (Nat × AV)} (hl : isLd3 F ops o.op = true) (hF : LdAt o.op s) : clOf P o.op ≠ .w ∧ clOf P o.op ≠ .a ∧ clOf P o.op ≠ .d ∧ ∃ X : Option AV, ∀ nm h, fVal P ops nm o s h = X.map (·, h) := by
  have hs : ∃ t, ldSlot o.op = some t := by
    unfold isLd3 at hl
    cases e : ldSlot o.op with
    | none => rw [e] at hl; cases hl
    | some t => exact ⟨t, rfl⟩
  obtain ⟨t, ht⟩ := hs
  obtain ⟨l, hg⟩ := hF t ht
  have ho : ∃ ty, o.op = .load ty (.tmp t) := by
    unfold ldSlot at ht
    split at ht
    · rename_i ty t' e; cases ht; exact ⟨ty, e⟩
    · cases ht
  obtain ⟨ty, ho⟩ := ho
  refine ⟨by rw [ho]; simp [clOf], by rw [ho]; simp [clOf], by rw [ho]; simp [clOf], ?_⟩
  unfold fVal
  cases aWanted ops s o.guard with
  | none => exact ⟨none, fun _ _ => rfl⟩
  | some b =>
    cases b with
    | false => exact ⟨some (.tup []), fun _ _ => rfl⟩
    | true =>
      rw [ho]
      simp only [aStep]
      cases lay P ty with
      | none => exact ⟨none, fun _ _ => rfl⟩
      | some sg =>
        refine ⟨loadC sg l, fun _ _ => ?_⟩
        simp only [ev, hg]
theorem src_upd {h : AHeap} {k size n : Nat} {x : AV} {xs : List AV} (hx : srcCells h size x = some (n, xs)) (hk : h k = none) (o : Option AObj) : srcCells (h.upd k o) size x = some (n, xs) := by
  cases x with
  | slc m off len s =>
    simp only [srcCells] at hx ⊢
    split at hx
    · rename_i e
      rw [if_pos e]
      by_cases hm : m = k
      · subst hm; rw [hk] at hx; cases hx
      · rw [upd_ne _ _ _ _ hm]; exact hx
    · cases hx
  | _ => exact hx
theorem upd_comm (h : AHeap) {a b : Nat} (hab : a ≠ b) (x y : Option AObj) : (h.upd a x).upd b y = (h.upd b y).upd a x := by
  funext k
  by_cases h1 : k = a
  · subst h1; rw [upd_ne _ _ _ _ hab, upd_same, upd_same]
  · by_cases h2 : k = b
    · subst h2; rw [upd_same, upd_ne _ _ _ _ (Ne.symm hab), upd_same]
    · rw [upd_ne _ _ _ _ h2, upd_ne _ _ _ _ h1, upd_ne _ _ _ _ h1, upd_ne _ _ _ _ h2]
theorem ap_upd [Vars] {P : Program} {nm t k : Nat} {d x r : AV} {h h' : AHeap} (he : aAppend P nm t d x h = some (r, h')) (hk : h k = none) (hkn : k ≠ nm) : h' k = none ∧ ∀ o, aAppend P nm t d x (h.upd k o) = some (r, h'.upd k o) := by
  unfold aAppend at he ⊢
  cases e1 : eltOf P t with
  | none => rw [e1] at he; cases he
  | some e =>
    rw [e1] at he
    simp only at he ⊢
    cases e2 : szOf P e <;> cases e3 : byOf P e <;> cases e4 : zerOf P e <;> rw [e2, e3, e4] at he <;> simp only at he ⊢ <;> try (cases he; done)
    rename_i s by_ z
    split at he
    · rename_i hc
      simp only [if_pos hc]
      cases hs : srcCells h s x with
      | none => rw [hs] at he; cases he
      | some nx =>
        obtain ⟨m, xs⟩ := nx
        rw [hs] at he
        have hs' := fun o => src_upd hs hk o
        simp only at he
        cases d with
        | fslc nl full s' l =>
          cases full with
          | false => simp at he
          | true =>
            simp only at he
            split at he
            · rename_i h1
              split at he
              · rename_i h2
                cases he
                exact ⟨hk, fun o => by rw [hs' o]; simp only [if_pos h1, if_pos h2]⟩
              · rename_i h2
                split at he
                · rename_i h3
                  cases he
                  exact ⟨by rw [upd_ne _ _ _ _ hkn]; exact hk, fun o => by rw [hs' o]; simp only [if_pos h1, if_neg h2, if_pos h3]; rw [upd_comm _ hkn]⟩
                · cases he
            · cases he
        | slc m' off len s' =>
          simp only at he
          split at he
          · rename_i h1
            cases hm : h m' with
            | none => rw [hm] at he; cases he
            | some ob =>
              have hmk : m' ≠ k := fun e => by subst e; rw [hk] at hm; cases hm
              cases ob with
              | cells c =>
                rw [hm] at he
                simp only at he
                split at he
                · rename_i h2
                  cases he
                  exact ⟨by rw [upd_ne _ _ _ _ (Ne.symm hmk)]; exact hk, fun o => by rw [hs' o]; simp only [if_pos h1, upd_ne _ _ _ _ hmk, hm, if_pos h2]; rw [upd_comm _ (Ne.symm hmk)]⟩
                · rename_i h2
                  split at he
                  · rename_i h3
                    cases he
                    exact ⟨by rw [upd_ne _ _ _ _ hkn, upd_ne _ _ _ _ (Ne.symm hmk)]; exact hk, fun o => by rw [hs' o]; simp only [if_pos h1, upd_ne _ _ _ _ hmk, hm, if_neg h2, if_pos h3]; rw [upd_comm _ (Ne.symm hmk), upd_comm _ hkn]⟩
                  · cases he
              | _ => rw [hm] at he; cases he
          · cases he
        | _ => cases he
    · cases he
theorem aps_upd [Vars] {P : Program} {nm k : Nat} {t u : TypeId} {d x : AV} {h h' : AHeap} {r : AV} (he : aAppStr P nm t u d x h = some (r, h')) (hk : h k = none) (hkn : k ≠ nm) : h' k = none ∧ ∀ o, aAppStr P nm t u d x (h.upd k o) = some (r, h'.upd k o) := by
  unfold aAppStr at he ⊢
  split at he
  · split at he
    · split at he
      · rename_i hc
        split at he
        · split at he
          · rename_i hl
            cases he
            exact ⟨by rw [upd_ne _ _ _ _ hkn]; exact hk, fun o => by rw [if_pos hc]; simp only [if_pos hl]; rw [upd_comm _ hkn]⟩
          · cases he
        · rename_i m len
          split at he
          · rename_i e' c hm
            have hmk : m ≠ k := fun e => by subst e; rw [hk] at hm; cases hm
            split at he
            · rename_i hl
              cases he
              exact ⟨by rw [upd_ne _ _ _ _ hkn, upd_ne _ _ _ _ (Ne.symm hmk)]; exact hk, fun o => by rw [if_pos hc]; simp only [upd_ne _ _ _ _ hmk, hm, if_pos hl]; rw [upd_comm _ (Ne.symm hmk), upd_comm _ hkn]⟩
            · cases he
          · cases he
        · cases he
      · cases he
    · cases he
  · cases he
theorem ap_bi [Vars] {P : Program} {nm k : Nat} {ts : List TypeId} {xs : List AV} {h h' : AHeap} {r : AV} (he : aBuiltin P nm .append ts xs h = some (r, h')) (hk : h k = none) (hkn : k ≠ nm) : h' k = none ∧ ∀ o, aBuiltin P nm .append ts xs (h.upd k o) = some (r, h'.upd k o) := by
  rcases ts with _ | ⟨t, _ | ⟨t', _ | ⟨t2, r2⟩⟩⟩ <;> rcases xs with _ | ⟨d, _ | ⟨x, _ | ⟨x2, q2⟩⟩⟩ <;> simp only [aBuiltin] at he ⊢ <;> try (cases he; done)
  split at he
  · rename_i e
    simp only [if_pos e]
    exact ap_upd he hk hkn
  · rename_i e
    simp only [if_neg e]
    exact aps_upd he hk hkn
theorem ap_step [Vars] {P : Program} {nm k : Nat} {op : Op} {s : List (Nat × AV)} {h h' : AHeap} {r : AV} (ha : isAp op = true) (he : aStep P nm op s h = some (r, h')) (hk : h k = none) (hkn : k ≠ nm) : h' k = none ∧ ∀ o, aStep P nm op s (h.upd k o) = some (r, h'.upd k o) := by
  unfold isAp at ha
  split at ha
  · simp only [aStep] at he ⊢
    exact ap_bi he hk hkn
  · cases ha
theorem ap_val [Vars] {P : Program} {ops : Array Oper} {nm k : Nat} {o : Oper} {s : List (Nat × AV)} {h h' : AHeap} {r : AV} (ha : isAp o.op = true) (he : fVal P ops nm o s h = some (r, h')) (hk : h k = none) (hkn : k ≠ nm) : h' k = none ∧ ∀ ob, fVal P ops nm o s (h.upd k ob) = some (r, h'.upd k ob) := by
  unfold fVal at he ⊢
  cases hw : aWanted ops s o.guard with
  | none => rw [hw] at he; cases he
  | some b =>
    rw [hw] at he
    cases b with
    | false => simp only [Option.some.injEq, Prod.mk.injEq] at he; obtain ⟨rfl, rfl⟩ := he; exact ⟨hk, fun _ => rfl⟩
    | true => exact ap_step ha he hk hkn
theorem ap_nc {op : Op} (ha : isAp op = true) : callOf op = none := by
  unfold isAp at ha
  split at ha
  · rfl
  · cases ha
theorem aVal_nc [Vars] {P : Program} {ops : Array Oper} {nm : Nat} {o : Oper} (hc : callOf o.op = none) {s : List (Nat × AV)} {h : AHeap} {n : Nat} {K : AV → AHeap → Nat → Prop} :
    aVal P ops nm o s h n K ↔ stepK (fVal P ops nm o s h) n K := by
  unfold aVal fVal
  rw [hc]
  cases aWanted ops s o.guard with
  | none => simp [stepK]
  | some b => cases b <;> simp [stepK]
structure Facts3 [Vars] (F : List Nat) (P : Program) (ops : Array Oper) (st : St) (nmp nmi : Nat) (p i : Oper) : Prop extends Facts P ops st nmp nmi p i where
  runsL : isLd3 F ops i.op = true → ∃ x, ∀ nm h, fVal P ops nm i st.s h = some (x, h)
  wL : isLd3 F ops i.op = true → clOf P i.op ≠ .w ∧ clOf P i.op ≠ .d
theorem swap_ok3 [Vars] {F : List Nat} {P : Program} {ops : Array Oper} {nmp nmi : Nat} {p i : Oper} {st : St} (hc : comm3 F P ops p i = true) (FF : Facts3 F P ops st nmp nmi p i) (hfp : isLd3 F ops p.op = true → LdAt p.op st.s) {K : St → Prop} (hK : ∀ a b, Eqv a b → K a → K b)
    (h : aOp P ops nmp p st (fun s1 => aOp P ops nmi i s1 K)) : aOp P ops nmi i st (fun s1 => aOp P ops nmp p s1 K) := by
  by_cases hcp : compat (clOf P p.op) (clOf P i.op) = true
  · refine swap_ok ?_ FF.toFacts hK h
    simp only [comm3, Bool.and_eq_true] at hc
    simp only [comm, Bool.and_eq_true]
    exact ⟨hc.1, hcp⟩
  simp only [comm3, Bool.and_eq_true, Bool.or_eq_true] at hc
  obtain ⟨hap, hcl⟩ := hc
  obtain ⟨ha1, ha2, ha3⟩ := Oper.apart_spec hap
  have hrl := FF.runsL
  have hwl := FF.wL
  have hdok := FF.dok
  have hfree := FF.free
  have hne := FF.ne
  obtain ⟨nt, s, hp, n⟩ := st
  obtain ⟨hdp, h⟩ := h
  simp only at hdp h hfp hrl hdok hfree ⊢
  have ag1 : ∀ x h1 n1, agreeOn (i.looksAt ops) (put ⟨nt, s, h1, n1⟩ p.dst x).s s := fun x h1 n1 t ht => get_put (fun e => ha1 t e ht)
  have ag2 : ∀ x h1 n1, agreeOn (p.looksAt ops) (put ⟨nt, s, h1, n1⟩ i.dst x).s s := fun x h1 n1 t ht => get_put (fun e => ha3 t e ht)
  have hh : aVal P ops nmp p s hp n fun x h1 n1 => aVal P ops nmi i s h1 n1 fun y h2 n2 => K (put ⟨nt, (put ⟨nt, s, h1, n1⟩ p.dst x).s, h2, n2⟩ i.dst y) := by
    refine aVal_mono h fun x h1 n1 hk => ?_
    obtain ⟨k1, k2⟩ := hk
    rw [put_nt.1, put_nt.2.1, put_nt.2.2] at k2
    exact (aVal_agree (ag1 x h1 n1)).1 k2
  have goal : (aVal P ops nmi i s hp n fun y h1 n1 => aVal P ops nmp p s h1 n1 fun x h2 n2 => K (put ⟨nt, (put ⟨nt, s, h1, n1⟩ p.dst x).s, h2, n2⟩ i.dst y)) → aOp P ops nmi i ⟨nt, s, hp, n⟩ (fun s1 => aOp P ops nmp p s1 K) := by
    intro g2
    refine ⟨hdok, aVal_mono g2 fun y h1 n1 hk => ⟨by rw [put_nt.1]; exact hdp, ?_⟩⟩
    rw [put_nt.1, put_nt.2.1, put_nt.2.2]
    refine (aVal_agree (ag2 y h1 n1)).2 (aVal_mono hk fun x h2 n2 hk => ?_)
    refine hK _ _ (put_swap (fun t e => ha2 t e) n2 h2) ?_
    exact hk
  refine goal ?_
  have hs : ∀ x h1 n1 h2 n2, (put ⟨nt, s, h1, n1⟩ p.dst x).s = (put ⟨nt, s, h2, n2⟩ p.dst x).s := fun x h1 n1 h2 n2 => by cases p.dst <;> rfl
  by_cases hia : isLd3 F ops i.op = true
  · obtain ⟨y, hy⟩ := hrl hia
    have hw := (hwl hia).1
    have e1 : ∀ h1 n1 K1, aVal P ops nmi i s h1 n1 K1 ↔ K1 y h1 n1 := fun h1 n1 K1 => by rw [aVal_f hw, hy]; rfl
    rw [e1]
    exact aVal_mono hh fun x h1 n1 hk => by rw [e1] at hk; rw [hs x hp n h1 n1]; exact hk
  by_cases hpa : isLd3 F ops p.op = true
  · obtain ⟨hw, _, _, X, hX⟩ := f_ld3 (P := P) (ops := ops) hpa (hfp hpa)
    have e1 : ∀ h1 n1 K1, aVal P ops nmp p s h1 n1 K1 ↔ stepK (X.map (·, h1)) n1 K1 := fun h1 n1 K1 => by rw [aVal_f hw, hX]
    rw [e1] at hh
    cases X with
    | none => exact hh.elim
    | some x =>
      simp only [Option.map_some, stepK] at hh
      refine aVal_mono hh fun y h1 n1 hk => ?_
      rw [e1]
      simp only [Option.map_some, stepK]
      rw [hs x h1 n1 hp n]; exact hk
  obtain ⟨hpp, hid⟩ : isAp p.op = true ∧ isD P i.op = true := by
    rcases hcl with ((h' | h') | h') | h'
    · exact absurd h' hcp
    · exact absurd h' hpa
    · exact absurd h' hia
    · exact h'
  have hcd : clOf P i.op = .d := by
    unfold isD at hid
    split at hid
    · assumption
    · cases hid
  have hiw : clOf P i.op ≠ .w := by rw [hcd]; simp
  obtain ⟨X, hX⟩ := f_d (ops := ops) hcd s nmi
  rw [aVal_nc (ap_nc hpp)] at hh
  cases hv : fVal P ops nmp p s hp with
  | none => rw [hv] at hh; exact hh.elim
  | some xh =>
    obtain ⟨x, h1⟩ := xh
    rw [hv] at hh
    simp only [stepK] at hh
    rw [aVal_f hiw, hX] at hh
    rw [aVal_f hiw, hX]
    cases X with
    | none => exact hh.elim
    | some yo =>
      obtain ⟨y, oo⟩ := yo
      simp only [Option.map_some, stepK] at hh ⊢
      rw [aVal_nc (ap_nc hpp)]
      cases oo with
      | none =>
        simp only at hh ⊢
        rw [hv]
        simp only [stepK]
        rw [hs x hp n h1 n]; exact hh
      | some ob =>
        simp only at hh ⊢
        rw [(ap_val hpp hv (hfree hcd) (Ne.symm hne)).2 (some ob)]
        simp only [stepK]
        rw [hs x _ n h1 n]; exact hh
end Go.AM
namespace Go.AM
open Go.RowKit
def WOk (F : List Nat) (ops : Array Oper) : Prop := ∀ (i : Nat) o, ops[i]? = some o → ∀ d, o.dst = some d → d ∉ F ∧ (fpSlot F ops d = true → isFA F o = true)
structure Psi (F : List Nat) (ops : Array Oper) (s : List (Nat × AV)) (L : List Nat) : Prop where
  fp : FpOk F s
  ld : ∀ p ∈ L, ∀ o, ops[p]? = some o → isLd3 F ops o.op = true → LdAt o.op s ∨ ∃ j ∈ L, j < p ∧ ∃ q, ops[j]? = some q ∧ isFA F q = true ∧ q.dst = ldSlot o.op
theorem Psi.head {F : List Nat} {ops : Array Oper} {s : List (Nat × AV)} {p : Nat} {r : List Nat} (h : Psi F ops s (p :: r)) (hs : (p :: r).Pairwise (· < ·)) {o : Oper} (ho : ops[p]? = some o) (hl : isLd3 F ops o.op = true) : LdAt o.op s := by
  rcases h.ld p (by simp) o ho hl with h' | ⟨j, hj, hlt, _⟩
  · exact h'
  · exfalso
    rcases List.mem_cons.1 hj with h' | h'
    · omega
    · have := (List.pairwise_cons.1 hs).1 j h'; omega
theorem Psi.step {F : List Nat} {ops : Array Oper} {s s1 : List (Nat × AV)} {L L' : List Nat} {p : Nat} {o : Oper} (h : Psi F ops s L) (hW : WOk F ops) (_ : p ∈ L) (ho : ops[p]? = some o) (hk : ∀ t, o.dst ≠ some t → get s1 t = get s t)
    (hfa : isFA F o = true → FpOk F s → ∀ d, o.dst = some d → ∃ l, get s1 d = .fptr l) (h1 : ∀ x ∈ L', x ∈ L) (h2 : ∀ x ∈ L, x ≠ p → x ∈ L') : Psi F ops s1 L' := by
  have hf : FpOk F s1 := fun t ht => by rw [hk t (fun e => (hW p o ho t e).1 ht)]; exact h.fp t ht
  have keep : ∀ (o' : Oper), isLd3 F ops o'.op = true → LdAt o'.op s → LdAt o'.op s1 := fun o' hl hd t ht => by
    by_cases e : o.dst = some t
    · refine hfa ((hW p o ho t e).2 ?_) h.fp t e
      unfold isLd3 at hl
      rw [ht] at hl; exact hl
    · rw [hk t e]; exact hd t ht
  refine ⟨hf, fun p' hp' o' ho' hl => ?_⟩
  rcases h.ld p' (h1 p' hp') o' ho' hl with h' | ⟨j, hj, hlt, q, hq, hqa, hqd⟩
  · exact .inl (keep o' hl h')
  · by_cases e : j = p
    · subst e
      rw [ho] at hq; cases hq
      exact .inl fun t ht => hfa hqa h.fp t (by rw [hqd, ht])
    · exact .inr ⟨j, h2 j hj e, hlt, q, hq, hqa, hqd⟩
theorem fa_val [Vars] {F : List Nat} {P : Program} {ops : Array Oper} {nm : Nat} {o : Oper} {s : List (Nat × AV)} {h h' : AHeap} {x : AV} (hf : isFA F o = true) (hF : FpOk F s) (he : fVal P ops nm o s h = some (x, h')) : ∃ l, x = .fptr l := by
  simp only [isFA, Bool.and_eq_true] at hf
  obtain ⟨hg, ho⟩ := hf
  have hg : o.guard = none := by simpa using hg
  split at ho
  · rename_i t f k hop
    obtain ⟨l, hl⟩ := hF f (by simpa using ho)
    unfold fVal at he
    rw [hg] at he
    simp only [aWanted, hop, aStep] at he
    split at he
    · split at he
      · cases he
      · simp only [ev, hl, Option.some.injEq, Prod.mk.injEq] at he
        exact ⟨_, he.1.symm⟩
    · cases he
  · cases ho
theorem fa_nc {F : List Nat} {o : Oper} (hf : isFA F o = true) : callOf o.op = none := by
  simp only [isFA, Bool.and_eq_true] at hf
  obtain ⟨_, ho⟩ := hf
  split at ho
  · rename_i hop; rw [hop]; rfl
  · cases ho
theorem aOp_keep3 [Vars] (F : List Nat) {P : Program} {ops : Array Oper} {nm : Nat} {o : Oper} {st : St} {K : St → Prop} (h : aOp P ops nm o st K) :
    aOp P ops nm o st fun s => K s ∧ s.nt = st.nt ∧ (∀ t, o.dst ≠ some t → get s.s t = get st.s t) ∧ (clOf P o.op ≠ .w → ∀ m, m ≠ nm → s.h m = st.h m) ∧ (isAp o.op = true → ∀ m, m ≠ nm → st.h m = none → s.h m = none) ∧ (isFA F o = true → FpOk F st.s → ∀ d, o.dst = some d → ∃ l, get s.s d = .fptr l) := by
  have h1 := aOp_keep h
  cases hc : callOf o.op with
  | some f =>
    refine aOp_mono h1 fun s ⟨a1, a2, a3, a4⟩ => ⟨a1, a2, a3, a4, fun e => ?_, fun e => ?_⟩
    · rw [ap_nc e] at hc; cases hc
    · rw [fa_nc e] at hc; cases hc
  | none =>
    obtain ⟨hd, h2⟩ := h1
    refine ⟨hd, ?_⟩
    rw [aVal_nc hc] at h2 ⊢
    cases hx : fVal P ops nm o st.s st.h with
    | none => rw [hx] at h2; exact h2.elim
    | some xh =>
      obtain ⟨x, h'⟩ := xh
      rw [hx] at h2
      simp only [stepK] at h2 ⊢
      obtain ⟨a1, a2, a3, a4⟩ := h2
      refine ⟨a1, a2, a3, a4, fun e m hm hn => ?_, fun e hF d hd => ?_⟩
      · rw [put_nt.2.1]; exact (ap_val e hx hn hm).1
      · obtain ⟨l, rfl⟩ := fa_val e hF hx
        rw [hd]
        exact ⟨l, by simp [put, get]⟩
theorem real_run3 [Vars] {F : List Nat} {P : Program} {w0 : World} {G0 : Gh} {fl base : Nat} {ops : Array Oper} (hW : WOk F ops) (hfl : fl ≤ base) {l2 : List Nat} {i : Nat} {K : St → Prop} {T : List Tmp} : ∀ (l1 : List Nat) {G : Gh} {st : St} {a : Act} {w : World}
    (_ : RSim w0 G0 fl base (l1 ++ i :: l2) G st a w) (_ : (l1 ++ i :: l2).Nodup) (_ : ∀ p ∈ l1, ∀ o, ops[p]? = some o → ∀ d, o.dst = some d → d ∉ T) (_ : Psi F ops st.s (l1 ++ i :: l2)) (_ : aOpsI P ops base K (l1 ++ i :: l2) st),
    ∃ st', st'.nt = st.nt ∧ (∀ t ∈ T, get st'.s t = get st.s t) ∧ Psi F ops st'.s (i :: l2) ∧ aOpsI P ops base K (i :: l2) st'
  | [], G, st, a, w, S, hn, hT, hp, h => ⟨st, rfl, fun _ _ => rfl, hp, h⟩
  | p :: l1, G, st, a, w, S, hn, hT, hp, h => by
    simp only [List.cons_append] at S hn hp h
    have hn' := List.nodup_cons.1 hn
    have h' := h
    simp only [aOpsI] at h'
    cases ho : ops[p]? with
    | none => rw [ho] at h'; exact h'.elim
    | some o =>
      rw [ho] at h'
      obtain ⟨G1, st1, a1, w1, S1, k1, k2, k3, _, _, k6⟩ := real_step S hfl hn'.1 (aOp_keep3 F h')
      have hp1 := hp.step hW (by simp) ho k3 k6 (L' := l1 ++ i :: l2) (fun x hx => by simp only [List.mem_cons]; exact .inr hx) (fun x hx hne => by simpa [hne] using hx)
      obtain ⟨st', e1, e2, e2p, e3⟩ := real_run3 hW hfl l1 S1 hn'.2 (fun q hq => hT q (by simp [hq])) hp1 k1
      exact ⟨st', e1.trans k2, fun t ht => (e2 t ht).trans (k3 t fun e => hT p (by simp) o ho t e ht), e2p, e3⟩
theorem front3 [Vars] {F : List Nat} {P : Program} {base : Nat} {ops : Array Oper} {i : Nat} {o : Oper} (hW : WOk F ops) (ho : ops[i]? = some o) {l2 : List Nat} {K : St → Prop} (hK : ∀ a b, Eqv a b → K a → K b) : ∀ (l1 : List Nat) (st : St)
    (_ : ∀ p ∈ l1, p ≠ i ∧ ∀ q, ops[p]? = some q → comm3 F P ops q o = true ∧ Facts3 F P ops st (base + p) (base + i) q o) (_ : (l1 ++ i :: l2).Pairwise (· < ·)) (_ : Psi F ops st.s (l1 ++ i :: l2)) (_ : aOpsI P ops base K (l1 ++ i :: l2) st),
    aOpsI P ops base K (i :: (l1 ++ l2)) st
  | [], st, _, _, _, h => h
  | p :: l1, st, hc, hsrt, hpsi, h => by
    simp only [List.cons_append] at h hsrt hpsi
    have h' := h
    simp only [aOpsI] at h'
    obtain ⟨hpi, hq⟩ := hc p (by simp)
    cases hp : ops[p]? with
    | none => rw [hp] at h'; exact h'.elim
    | some q =>
      rw [hp] at h'
      obtain ⟨hcm, hF⟩ := hq q hp
      have hap : q.apart ops o = true := by simp only [comm3, Bool.and_eq_true] at hcm; exact hcm.1
      obtain ⟨ha1, _, _⟩ := Oper.apart_spec hap
      have h1 : aOp P ops (base + p) q st (fun s1 => aOp P ops (base + i) o s1 (aOpsI P ops base K (l1 ++ l2))) := by
        refine aOp_mono (aOp_keep3 F h') fun s1 ⟨k1, k2, k3, k4, k5, k6⟩ => ?_
        have hpsi1 := hpsi.step hW (by simp) hp k3 k6 (L' := l1 ++ i :: l2) (fun x hx => by simp only [List.mem_cons]; exact .inr hx) (fun x hx hne => by simpa [hne] using hx)
        have ih := front3 hW ho hK l1 s1 (fun p' hp' => ⟨(hc p' (by simp [hp'])).1, fun q' hq' => ?_⟩) (List.pairwise_cons.1 hsrt).2 hpsi1 k1
        · simpa only [aOpsI, ho] using ih
        · obtain ⟨g1, g2⟩ := (hc p' (by simp [hp'])).2 q' hq'
          have hag : agreeOn (o.looksAt ops) s1.s st.s := fun t ht => k3 t fun e => ha1 t e ht
          refine ⟨g1, ⟨g2.ne, fun x hx hd off e => ?_, fun hd => ?_, fun hA => ?_, by rw [k2]; exact g2.dok⟩, fun hA => let ⟨x, hx⟩ := g2.runsL hA; ⟨x, fun nm h => by rw [fVal_agree hag]; exact hx nm h⟩, g2.wL⟩
          · refine g2.look x hx hd off ?_
            rw [← e]
            exact (ev_agree hag x (cl_b hx st.s).1).symm
          · by_cases hqa : isAp q.op = true
            · exact k5 hqa _ (fun e => hpi (by omega)) (g2.free hd)
            have hqw : clOf P q.op ≠ .w := by
              intro e
              simp only [comm3, Bool.and_eq_true, Bool.or_eq_true] at hcm
              rcases hcm.2 with ((h' | h') | h') | h'
              · rw [e, hd] at h'; simp [compat] at h'
              · exact (f_ld3 (P := P) (ops := ops) h' (hpsi.head hsrt hp h')).1 e
              · exact (g2.wL h').2 hd
              · exact hqa h'.1
            rw [k4 hqw _ (fun e => hpi (by omega))]
            exact g2.free hd
          · obtain ⟨x, hx⟩ := g2.runs hA
            exact ⟨x, fun nm h => by rw [fVal_agree hag]; exact hx nm h⟩
      have h2 := swap_ok3 hcm hF (fun e => hpsi.head hsrt hp e) (aOpsI_eqv hK (l1 ++ l2)) h1
      simp only [aOpsI, ho]
      refine aOp_mono h2 fun s1 k => ?_
      simp only [List.cons_append, aOpsI, hp]
      exact k
def drawOK3 (F : List Nat) (P : Program) (ops : Array Oper) : Bool :=
  let m := ancGo [] ops.toList
  (List.range ops.size).all fun i => match ops[i]? with
    | none => false
    | some o => (((match o.dst with | some d => !F.contains d && (!fpSlot F ops d || isFA F o) | none => true) && (match ldSlot o.op with | some t => !fpSlot F ops t || F.contains t || (List.range i).any (fun j => match ops[j]? with | some q => isFA F q && q.dst == some t | none => false) | none => true)) && (o.after.toList.all fun e => !Region.binds .any e || decide (e.on < i))) &&
      (List.range i).all fun p => (m.getD i 0).testBit p || (match ops[p]? with | some q => comm3 F P ops q o | none => false)
section
variable {F : List Nat} {P : Program} {ops : Array Oper}
theorem drawOK3_edge (h : drawOK3 F P ops = true) {i : Nat} {o : Oper} (ho : ops[i]? = some o) : ∀ e ∈ o.after, Region.binds .any e = true → e.on < i := by
  intro e he hb
  have hi : i < ops.size := (Array.getElem?_eq_some_iff.1 ho).1
  have := List.all_eq_true.1 h i (by simpa using hi)
  rw [ho] at this
  simp only [Bool.and_eq_true] at this
  have := List.all_eq_true.1 this.1.2 e (by simpa using he)
  simpa [hb] using this
theorem drawOK3_comm (h : drawOK3 F P ops = true) {i p : Nat} {o q : Oper} (ho : ops[i]? = some o) (hq : ops[p]? = some q) (hp : p < i) (hn : ((ancGo [] ops.toList).getD i 0).testBit p = false) : comm3 F P ops q o = true := by
  have hi : i < ops.size := (Array.getElem?_eq_some_iff.1 ho).1
  have := List.all_eq_true.1 h i (by simpa using hi)
  rw [ho] at this
  simp only [Bool.and_eq_true] at this
  have := List.all_eq_true.1 this.2 p (by simpa using hp)
  rw [hn, hq] at this
  simpa using this
theorem drawOK3_w (h : drawOK3 F P ops = true) : WOk F ops := fun i o ho d hd => by
  have hi : i < ops.size := (Array.getElem?_eq_some_iff.1 ho).1
  have := List.all_eq_true.1 h i (by simpa using hi)
  rw [ho] at this
  simp only [Bool.and_eq_true] at this
  have := this.1.1.1
  rw [hd] at this
  simp only [Bool.and_eq_true, Bool.or_eq_true, Bool.not_eq_true'] at this
  refine ⟨fun e => by have := this.1; simp [e] at this, fun e => ?_⟩
  rcases this.2 with h' | h'
  · rw [e] at h'; cases h'
  · exact h'
theorem drawOK3_psi (h : drawOK3 F P ops = true) {s : List (Nat × AV)} (hfp : FpOk F s) : Psi F ops s (List.range ops.size) := ⟨hfp, fun i _ o ho hl => by
  have hi : i < ops.size := (Array.getElem?_eq_some_iff.1 ho).1
  have := List.all_eq_true.1 h i (by simpa using hi)
  rw [ho] at this
  simp only [Bool.and_eq_true] at this
  have := this.1.1.2
  unfold isLd3 at hl
  cases e : ldSlot o.op with
  | none => rw [e] at hl; cases hl
  | some t =>
    rw [e] at hl this
    simp only [Bool.or_eq_true, Bool.not_eq_true', List.any_eq_true, List.mem_range] at this
    rcases this with (h' | h') | ⟨j, hj, h'⟩
    · simp only at hl; rw [hl] at h'; cases h'
    · exact .inl fun t' ht' => by rw [e] at ht'; cases ht'; exact hfp t (by simpa using h')
    · split at h'
      · rename_i q hq
        simp only [Bool.and_eq_true, beq_iff_eq] at h'
        exact .inr ⟨j, by simp; omega, hj, q, hq, h'.1, h'.2⟩
      · cases h'⟩
theorem any_ok3 [Vars] (r : Option Nat) (hok : drawOK3 F P ops = true) {w0 : World} {G0 : Gh} {fl base : Nat} (hfl : fl ≤ base) {K : St → Prop} (hK : ∀ a b, Eqv a b → K a → K b) {Q : Exit → Act → World → Prop}
    (hQ : ∀ G st a w, RSim w0 G0 fl base [] G st a w → K st → Q .normal a w) : ∀ (fuel : Nat) (rem : List Nat) (listed : Array Bool) (G : Gh) (st : St) (a : Act) (w : World),
    rem.length ≤ fuel → rem.Pairwise (· < ·) → listed.size = ops.size → (∀ j, j ∈ rem ↔ j < ops.size ∧ listed.getD j true = false) →
    (∀ (i : Nat) o, ops[i]? = some o → listed.getD i false = true → ∀ e ∈ o.after, Region.binds .any e = true → listed.getD e.on false = true) →
    RSim w0 G0 fl base rem G st a w → Psi F ops st.s rem → aOpsI P ops base K rem st → wpAnyIn (FR r) 0 P .any ops Q fuel listed a w := by
  intro fuel
  induction fuel with
  | zero =>
    intro rem listed G st a w hf hs hsz hr hd S hpsi h
    have : rem = [] := List.length_eq_zero_iff.1 (by omega)
    subst this
    refine ⟨?_, hQ G st a w S h⟩
    cases hrd : Region.ready .any ops listed with
    | nil => rfl
    | cons i r =>
      obtain ⟨h1, h2, _⟩ := ready_mem (by rw [hrd]; simp : i ∈ Region.ready .any ops listed)
      have := (hr i).2 ⟨h1, h2⟩
      simp at this
  | succ fuel ih =>
    intro rem listed G st a w hf hs hsz hr hd S hpsi h
    refine ⟨fun hnil => ?_, fun i hi => ?_⟩
    · cases rem with
      | nil => exact hQ G st a w S h
      | cons i r =>
        exfalso
        obtain ⟨hi1, hi2⟩ := (hr i).1 (by simp)
        have hready : i ∈ Region.ready .any ops listed := by
          simp only [Region.ready, List.mem_filter, List.mem_range, Bool.and_eq_true, Bool.not_eq_true']
          refine ⟨hi1, hi2, ?_⟩
          rw [Array.getElem?_eq_getElem hi1]
          simp only [Option.map_some, Option.getD_some]
          refine Array.all_eq_true_iff_forall_mem.2 fun e he => ?_
          by_cases hb : Region.binds .any e = true
          · have hlt := drawOK3_edge hok (Array.getElem?_eq_getElem hi1) e he hb
            have : listed.getD e.on false = true := by
              have hne : e.on ∉ i :: r := by
                intro hm
                rcases List.mem_cons.1 hm with h' | h'
                · omega
                · have := (List.pairwise_cons.1 hs).1 _ h'; omega
              have h3 : ¬ (e.on < ops.size ∧ listed.getD e.on true = false) := fun h' => hne ((hr _).2 h')
              have hlt2 : e.on < listed.size := by omega
              simp only [Array.getD_eq_getD_getElem?, Array.getElem?_eq_getElem hlt2, Option.getD_some] at h3 ⊢
              cases hv : listed[e.on] with
              | true => rfl
              | false => exact absurd ⟨by omega, hv⟩ h3
            simp [this]
          · simp [hb]
        rw [hnil] at hready
        cases hready
    · obtain ⟨h1, h2, o, ho, h3⟩ := ready_mem hi
      have hmem := (hr i).2 ⟨h1, h2⟩
      obtain ⟨l1, l2, hl⟩ := List.append_of_mem hmem
      subst hl
      have hnd : (l1 ++ i :: l2).Nodup := hs.imp (fun h => Nat.ne_of_lt h)
      have hpw := List.pairwise_append.1 hs
      have hcomm : ∀ p ∈ l1, ∀ q, ops[p]? = some q → comm3 F P ops q o = true := by
        intro p hp q hq
        have hpi : p < i := hpw.2.2 p hp i (by simp)
        refine drawOK3_comm hok ho hq hpi ?_
        have hgood := anc_good (ops := ops.toList) (listed := fun j => listed.getD j false = true) (fun j o' hj hl e he hb => hd j o' (by simpa using hj) hl e he hb) ops.toList [] rfl (by simp) (fun j m hm => by simp at hm)
        cases hb : ((ancGo [] ops.toList).getD i 0).testBit p with
        | false => rfl
        | true =>
          exfalso
          have hlen : i < (ancGo [] ops.toList).length := by rw [ancGo_length]; simpa using h1
          rw [List.getD_eq_getElem?_getD, List.getElem?_eq_getElem hlen] at hb
          have hlp := hgood i _ (List.getElem?_eq_getElem hlen) o (by simpa using ho) h3 p (by simpa using hb)
          obtain ⟨p1, p2⟩ := (hr p).1 (by simp [hp])
          have hps : p < listed.size := by omega
          simp only [Array.getD_eq_getD_getElem?, Array.getElem?_eq_getElem hps, Option.getD_some] at hlp p2
          rw [p2] at hlp; cases hlp
      have hTd : ∀ p ∈ l1, ∀ q, ops[p]? = some q → ∀ d, q.dst = some d → d ∉ o.looksAt ops := by
        intro p hp q hq d hd'
        have := hcomm p hp q hq
        simp only [comm3, Bool.and_eq_true] at this
        exact (Oper.apart_spec this.1).1 d hd'
      obtain ⟨st1, r1, r2, r2p, r3⟩ := real_run3 (drawOK3_w hok) hfl l1 S hnd hTd hpsi h
      simp only [aOpsI, ho] at r3
      have hfacts : ∀ p ∈ l1, p ≠ i ∧ ∀ q, ops[p]? = some q → comm3 F P ops q o = true ∧ Facts3 F P ops st (base + p) (base + i) q o := by
        intro p hp
        have hpi : p < i := hpw.2.2 p hp i (by simp)
        refine ⟨by omega, fun q hq => ⟨hcomm p hp q hq, ⟨by omega, fun x hx hcd off e => ?_, fun hcd => ?_, fun hca => ?_, by rw [← r1]; exact r3.1⟩, fun hca => ?_, fun hca => ?_⟩⟩
        · have := ev_ok S.sim.inv.oth.vars S.sim.slots x
          rw [e] at this
          simp only [Rv] at this
          obtain ⟨_, _, _, hreg, _⟩ := this
          rw [(S.names p (by simp [hp])).1] at hreg; cases hreg
        · cases hh : st.h (base + i) with
          | none => rfl
          | some ob =>
            obtain ⟨_, hreg⟩ := (S.sim.inv.obj _ _ hh).hasReg
            rw [(S.names i (by simp)).1] at hreg; cases hreg
        · obtain ⟨X, hX⟩ := f_a (ops := ops) hca st.s
          have hv := r3.2
          rw [aVal_f (by rw [hca]; simp), fVal_agree (s' := st.s) (fun t ht => r2 t ht), hX] at hv
          cases X with
          | none => exact hv.elim
          | some x => exact ⟨x, fun nm h => by rw [hX]; rfl⟩
        · obtain ⟨hw, _, _, X, hX⟩ := f_ld3 (P := P) (ops := ops) hca (r2p.head (List.pairwise_append.1 hs).2.1 ho hca)
          have hv := r3.2
          rw [aVal_f hw, hX] at hv
          cases X with
          | none => exact hv.elim
          | some x => exact ⟨x, fun nm h => by rw [← fVal_agree (s := st1.s) (fun t ht => r2 t ht), hX]; rfl⟩
        · obtain ⟨hw, _, hd2, _⟩ := f_ld3 (P := P) (ops := ops) hca (r2p.head (List.pairwise_append.1 hs).2.1 ho hca)
          exact ⟨hw, hd2⟩
      have hfr := front3 (drawOK3_w hok) ho hK l1 st hfacts hs hpsi h
      simp only [aOpsI, ho] at hfr
      have hmove : ∀ j, j ∈ i :: (l1 ++ l2) → j ∈ l1 ++ i :: l2 := by
        intro j hj
        simp only [List.mem_cons, List.mem_append] at hj ⊢
        rcases hj with rfl | hj | hj
        · exact .inr (.inl rfl)
        · exact .inl hj
        · exact .inr (.inr hj)
      have hnotin : i ∉ l1 ++ l2 := by
        intro hm
        have hnd2 := List.nodup_append.1 hnd
        rcases List.mem_append.1 hm with h' | h'
        · exact hnd2.2.2 i h' i (by simp) rfl
        · exact (List.nodup_cons.1 hnd2.2.1).1 h'
      have hres := op_ok (Q := Q) (S.sub hmove) hfl hnotin (aOp_keep3 F hfr) (next := wpAnyIn (FR r) 0 P .any ops Q fuel (listed.setIfInBounds i true)) ?_ r
      · unfold wpOpIn
        rw [ho]
        simp only
        split at hres
        · rename_i hw; rw [if_pos hw]; exact hres
        · rename_i hw; rw [if_neg hw]; exact hres
      · intro G' st' a' w' S' h'
        have hsize : (listed.setIfInBounds i true).size = listed.size := by simp
        have hget : ∀ (j : Nat) (d : Bool), (listed.setIfInBounds i true).getD j d = if j = i then (if i < listed.size then true else d) else listed.getD j d := by
          intro j d
          simp only [Array.getD_eq_getD_getElem?, Array.getElem?_setIfInBounds]
          by_cases hji : i = j
          · subst hji; by_cases hh : i < listed.size <;> simp [hh]
          · rw [if_neg hji, if_neg (Ne.symm hji)]
        have hil : i < listed.size := by omega
        refine ih (l1 ++ l2) _ G' st' a' w' ?_ ?_ ?_ (fun j => ?_) (fun j o' hj hl e he hb => ?_) S' (hpsi.step (drawOK3_w hok) (by simp) ho h'.2.2.1 h'.2.2.2.2.2 (fun x hx => by simp only [List.mem_append, List.mem_cons] at hx ⊢; rcases hx with h | h; exact .inl h; exact .inr (.inr h)) (fun x hx hne => by simp only [List.mem_append, List.mem_cons] at hx ⊢; rcases hx with h | h | h; exact .inl h; exact absurd h hne; exact .inr h)) h'.1
        · simp only [List.length_append, List.length_cons] at hf ⊢; omega
        · exact List.pairwise_append.2 ⟨hpw.1, (List.pairwise_cons.1 hpw.2.1).2, fun x hx y hy => hpw.2.2 x hx y (by simp [hy])⟩
        · rw [hsize]; exact hsz
        · rw [hget]
          have hrj := hr j
          by_cases hji : j = i
          · subst hji
            simp only [if_true, hil]
            constructor
            · intro hm; exact absurd hm hnotin
            · rintro ⟨_, hc⟩; cases hc
          · rw [if_neg hji, ← hrj]
            simp only [List.mem_append, List.mem_cons]
            constructor
            · rintro (h' | h')
              · exact .inl h'
              · exact .inr (.inr h')
            · rintro (h' | h' | h')
              · exact .inl h'
              · exact absurd h' hji
              · exact .inr h'
        · rw [hget] at hl ⊢
          by_cases hei : e.on = i
          · simp [hei, hil]
          · rw [if_neg hei]
            by_cases hji : j = i
            · subst hji
              rw [ho] at hj; cases hj
              exact h3 e he hb
            · rw [if_neg hji] at hl
              exact hd j o' hj hl e he hb
theorem ac_draw3 [Vars] {fl : Nat} {Q : Exit → St → Prop} {st : St} {id : Nat} (hm : P.follows .mixedOrders = true) (hok : drawOK3 F P ops = true) (hfp : FpOk F st.s) (h : aOpsI P ops st.n (Q .normal) (List.range ops.size) { st with n := st.n + ops.size }) : ACode P fl (.region id ops true) Q st := by
  intro r w0 G a w hr S hf
  have S' : Sim w0 G st a w.drew := ⟨S.inv.drew, S.size, S.defers, S.slots, S.fresh⟩
  have hQ : ∀ (G' : Gh) (s : St) (a' : Act) (w' : World), RSim w0 G fl st.n [] G' s a' w' → (∃ s0, Eqv s0 s ∧ Q .normal s0) → ∃ G'' st', Ext fl G G'' ∧ fl ≤ st'.n ∧ Sim w0 G'' st' a' w' ∧ Q .normal st' := by
    rintro G' s a' w' S1 ⟨s0, e1, e2⟩
    exact ⟨G', s0, S1.ext, by rw [e1.2.2.1]; exact S1.lim, ⟨by rw [e1.2.1]; exact S1.sim.inv, by rw [e1.1]; exact S1.sim.size, S1.sim.defers, fun t => by rw [e1.2.2.2]; exact S1.sim.slots t, by rw [e1.2.2.1]; exact S1.sim.fresh⟩, e2⟩
  refine wpIn_region_any hm (any_ok3 r hok (base := st.n) (G0 := G) (w0 := w0) hf (K := fun s => ∃ s0, Eqv s0 s ∧ Q .normal s0) (fun a b e ⟨s0, e1, e2⟩ => ⟨s0, e1.trans e, e2⟩) hQ ops.size (List.range ops.size) (Array.replicate ops.size false) G _ a w.drew
    (by simp) List.pairwise_lt_range (by simp) (fun j => ?_) (fun i o ho hl => ?_) (region_start S' hf ops.size _ (fun j hj => by simpa using hj)) (drawOK3_psi hok hfp) (aOpsI_mono (fun s hs => ⟨s, Eqv.refl s, hs⟩) _ _ h))
  · simp only [List.mem_range]
    constructor
    · intro hj; exact ⟨hj, by simp [Array.getD_eq_getD_getElem?, hj]⟩
    · exact fun h => h.1
  · exfalso
    have hi : i < ops.size := (Array.getElem?_eq_some_iff.1 ho).1
    simp [Array.getD_eq_getD_getElem?, hi] at hl
end
theorem ac_draw3_h [Vars] (F : List Nat) {P : Program} {fl : Nat} {Q : Exit → St → Prop} {st : St} {id : Nat} {ops : Array Oper} (hm : P.follows .mixedOrders = true) (hok : drawOK3 F P ops = true) (hfp : FpOk F st.s) (h : ∀ K : St → Prop, Hide (∀ s, Q .normal s → K s) → aOps P ops st.n K 0 ops.toList { st with n := st.n + ops.size }) : ACode P fl (.region id ops true) Q st := by
  refine ac_draw3 hm hok hfp ?_
  have := aOps_aOpsI ops.toList 0 rfl _ (h _ fun _ h => h)
  rwa [← List.range_eq_range', Array.length_toList] at this
end Go.AM
namespace Go.AM
open Go.RowKit
theorem ac_slot [Vars] {P : Program} {fl : Nat} {code : Code} {Q : Exit → St → Prop} {st : St} {t : Nat} {x : AV} (hw : ∀ G v, Rv G (get st.s t) v → Rv G x v)
    (h : ACode P fl code Q { st with s := (t, x) :: st.s }) : ACode P fl code Q st := by
  intro r w0 G a w hr S hf
  refine h r w0 G a w hr ⟨S.inv, S.size, S.defers, fun t' => ?_, S.fresh⟩ hf
  simp only [get]
  by_cases e : t' = t
  · subst e; rw [if_pos rfl]; exact hw _ _ (S.slots t')
  · rw [if_neg e]; exact S.slots t'
theorem ac_fzslc [Vars] {P : Program} {fl : Nat} {code : Code} {Q : Exit → St → Prop} {st : St} {t m len s : Nat} {c : List AV} (agg : Bool) (has : agg = false → s = 1) (hm : st.h m = some (.cells c)) (ht : get st.s t = .slc m 0 len s) (hl : len * s ≤ c.length)
    (h : ACode P fl code Q { st with s := (t, .fslc false false s (elems agg s len c)) :: st.s, h := st.h.upd m none }) : ACode P fl code Q st := by
  intro r w0 G a w hr S hf
  obtain ⟨rg, hreg⟩ := (S.inv.obj m _ hm).hasReg
  have hle := Gh.le_freeze S.inv hm hreg
  have hx : Ext fl G (G.freeze w rg) := ⟨fun _ _ => rfl, hle.imm, ⟨[], rfl⟩, rfl, fun _ e => e⟩
  refine wpIn_mono (h r w0 (G.freeze w rg) a w hr ⟨S.inv.freeze hm hreg, S.size, S.defers, fun t' => ?_, S.fresh⟩ hf) fun _ _ _ ⟨G', st', e1, e2⟩ => ⟨G', st', hx.trans e1, e2⟩
  simp only [get]
  by_cases e : t' = t
  · subst e
    rw [if_pos rfl]
    have hv := S.slots t'
    rw [ht] at hv
    have := freeze_slc S.inv hm hreg agg has (off := 0) (len := len) (by omega) hv
    simpa using this
  · rw [if_neg e]; exact (S.slots t').mono hle.v _ _
mutual
def fzD (m : Nat) (c : List AV) (agg : Bool) : AV → AV
  | .slc n off len s => if n = m ∧ off + len * s ≤ c.length ∧ (agg = false → s = 1) then .fslc false false s (elems agg s len (c.drop off)) else .slc n off len s
  | .agg l => .agg (fzDL m c agg l)
  | .tup l => .tup (fzDL m c agg l)
  | x => x
def fzDL (m : Nat) (c : List AV) (agg : Bool) : List AV → List AV
  | [] => []
  | x :: r => fzD m c agg x :: fzDL m c agg r
end
mutual
theorem fzD_ok [Vars] {w0 : World} {G : Gh} {h : AHeap} {w : World} (I : Inv w0 G h w) {m : Nat} {c : List AV} (hm : h m = some (.cells c)) {r : Nat × Nat × Nat} (hr : G.reg m = some r) (agg : Bool) : ∀ (x : AV) (v : Value), Rv G x v → Rv (G.freeze w r) (fzD m c agg x) v
  | .slc n off len s, v, hv => by
    simp only [fzD]
    split
    · rename_i hc
      obtain ⟨rfl, h1, h2⟩ := hc
      exact freeze_slc I hm hr agg h2 h1 hv
    · exact hv.mono (Gh.le_freeze I hm hr).v
  | .agg l, v, hv => by
    simp only [fzD, Rv] at hv ⊢
    obtain ⟨vs, e, h⟩ := hv
    exact ⟨vs, e, fzDL_ok I hm hr agg l _ h⟩
  | .tup l, v, hv => by
    simp only [fzD, Rv] at hv ⊢
    obtain ⟨vs, e, h⟩ := hv
    exact ⟨vs, e, fzDL_ok I hm hr agg l _ h⟩
  | .undef, v, hv | .c _, v, hv | .ptr _ _, v, hv | .fptr _, v, hv | .fslc _ _ _ _, v, hv | .map _, v, hv | .func _ _ _, v, hv | .iface _ _, v, hv | .chan _, v, hv | .yld _, v, hv => by
    simp only [fzD]; exact hv.mono (Gh.le_freeze I hm hr).v
theorem fzDL_ok [Vars] {w0 : World} {G : Gh} {h : AHeap} {w : World} (I : Inv w0 G h w) {m : Nat} {c : List AV} (hm : h m = some (.cells c)) {r : Nat × Nat × Nat} (hr : G.reg m = some r) (agg : Bool) : ∀ (l : List AV) (vs : List Value), RvL G l vs → RvL (G.freeze w r) (fzDL m c agg l) vs
  | [], vs, hv => by simpa [RvL, fzDL] using hv
  | x :: l, vs, hv => by
    simp only [RvL] at hv
    obtain ⟨v, vr, rfl, h1, h2⟩ := hv
    simp only [fzDL, RvL]
    exact ⟨v, vr, rfl, fzD_ok I hm hr agg x v h1, fzDL_ok I hm hr agg l vr h2⟩
end
theorem ret_fzD [Vars] {fl : Nat} {K : AV → AHeap → Nat → Prop} {x : AV} {h : AHeap} {n : Nat} {m : Nat} {c : List AV} (agg : Bool) (hm : h m = some (.cells c)) (hk : RetOk fl K (fzD m c agg x) (h.upd m none) n) : RetOk fl K x h n := by
  refine ret_step (fun w0 G w v I f hr hl => ?_) hk
  obtain ⟨r, hreg⟩ := (I.obj m _ hm).hasReg
  have hle := Gh.le_freeze I hm hreg
  exact ⟨G.freeze w r, ⟨⟨fun _ _ => rfl, hle.imm, ⟨[], rfl⟩, rfl, fun _ e => e⟩, rfl⟩, I.freeze hm hreg, f, fzD_ok I hm hreg agg _ _ hr, hl⟩
def acV (s m : Nat) (L : List AV) : AV := if L = [] then .fslc true true 0 [] else .slc m 0 L.length s
def acO (L : List AV) : Option AObj := if L = [] then none else some (.cells (flat L))
theorem ac_nil (s m : Nat) : acV s m [] = .fslc true true 0 [] := rfl
theorem acV_ne {s m : Nat} {L : List AV} (h : L ≠ []) : acV s m L = .slc m 0 L.length s := by rw [acV, if_neg h]
theorem acO_ne {L : List AV} (h : L ≠ []) : acO L = some (.cells (flat L)) := by rw [acO, if_neg h]
theorem upd_none_eq {h : AHeap} {m : Nat} (hm : h m = none) : h.upd m none = h := by
  funext k; by_cases e : k = m
  · subst e; rw [upd_same, hm]
  · rw [upd_ne _ _ _ _ e]
theorem flat_append (a b : List AV) : flat (a ++ b) = flat a ++ flat b := by simp [flat]
theorem flat_len {s : Nat} : ∀ {L : List AV}, (∀ x ∈ L, (cellsOf x).length = s) → (flat L).length = L.length * s
  | [], _ => by simp [flat]
  | x :: r, h => by
    have := flat_len (L := r) fun y hy => h y (by simp [hy])
    simp only [flat, List.map_cons, List.flatten_cons, List.length_append] at this ⊢
    rw [this, h x (by simp), List.length_cons, Nat.succ_mul]; omega
theorem ap_ac [Vars] {P : Program} {T e s by_ : Nat} {z : AV} (e1 : eltOf P T = some e) (e2 : szOf P e = some s) (e3 : byOf P e = some by_) (e4 : zerOf P e = some z) (hz : 0 < s ∧ (cellsOf z).length = s ∧ (cellsOf z).all AV.scalar = true ∧ by_ ≤ 2 ^ 20)
    {nm m : Nat} {L : List AV} {X : List AV} {nl full : Bool} {h : AHeap} (hm : h m = acO L) (hL : ∀ x ∈ L, (cellsOf x).length = s) (hX : X ≠ []) (hl : L.length + X.length ≤ 67108864) :
    aAppend P nm T (acV s m L) (.fslc nl full s X) h = some (acV s nm (L ++ X), (h.upd m none).upd nm (acO (L ++ X))) := by
  have hne : L ++ X ≠ [] := by simp [hX]
  have hX0 : X.length ≠ 0 := by simpa using hX
  have e26 : (2 : Nat) ^ 26 = 67108864 := by decide
  unfold aAppend
  rw [e1]; simp only [e2, e3, e4]
  rw [if_pos hz]
  simp only [srcCells, if_true]
  rw [acV_ne hne, acO_ne hne, flat_append]
  by_cases h0 : L = []
  · subst h0
    have hm' : h m = none := hm
    rw [upd_none_eq hm', ac_nil]
    have hnl : ¬ (X.length = 0) := hX0
    simp only [List.length_nil, Nat.zero_add] at hl
    have : X.length ≤ 2 ^ 26 := by rw [e26]; exact hl
    simp [hX, flat, this]
  · rw [acV_ne h0]
    rw [acO_ne h0] at hm
    have hfl := flat_len hL
    have : L.length + X.length ≤ 2 ^ 26 := by rw [e26]; exact hl
    have hnot : ¬ (0 + (L.length + X.length) * s ≤ (flat L).length) := by
      rw [hfl, Nat.add_mul]
      have := Nat.mul_pos (Nat.pos_of_ne_zero hX0) hz.1
      omega
    have hc : 0 + L.length * s = (flat L).length := by rw [hfl]; omega
    simp only [if_true, hm]
    rw [if_neg hnot, if_pos ⟨hc, this⟩]
    simp
theorem ac_fzac [Vars] {P : Program} {fl : Nat} {code : Code} {Q : Exit → St → Prop} {st : St} {t m s : Nat} {L : List AV} (agg : Bool) (has : agg = false → s = 1) (hm : st.h m = acO L) (ht : get st.s t = acV s m L) (hL : ∀ x ∈ L, (cellsOf x).length = s) (he : elems agg s L.length (flat L) = L)
    (h : ACode P fl code Q { st with s := (t, .fslc L.isEmpty false s L) :: st.s, h := st.h.upd m none }) : ACode P fl code Q st := by
  by_cases h0 : L = []
  · subst h0
    have e : st.h.upd m none = st.h := upd_none_eq hm
    rw [e] at h
    refine ac_slot (t := t) (fun G v hv => ?_) h
    rw [ht, ac_nil] at hv
    simp only [Rv] at hv ⊢
    obtain ⟨a, cap, k1, k2, k3, k4, k5⟩ := hv
    exact ⟨a, cap, k1, k2, by simp, fun _ => k4 trivial, by simp⟩
  · have hemp : L.isEmpty = false := by simpa using h0
    rw [acV_ne h0] at ht
    rw [acO_ne h0] at hm
    refine ac_fzslc agg has hm ht (by rw [flat_len hL]; omega) ?_
    rw [he]
    rw [hemp] at h
    exact h
end Go.AM
namespace Go.AM
open Go.RowKit
end Go.AM
namespace Go.AM
open Go.RowKit
section
variable {P : Program} {fl : Nat} {Q : Exit → St → Prop} {st : St}
theorem fenced_FR (r : Option Nat) (m : Machine) : m.fenced P (FR r) := by
  intro g _
  refine ⟨fun h => ?_, Or.inl trivial, fun _ _ => trivial, fun _ h => ?_⟩
  · simp [FR] at h
  · simp [FR] at h
theorem ac_head [Vars] {id : Nat} {ops : Array Oper} {o : Oper} {rest : List Oper} (ho : ops.toList = o :: rest) (hd : dstOk st.nt o.dst = true) (M : AV → AHeap → Prop)
    (hhead : ∀ w0 G a w, Sim w0 G st a w → ∃ cv w' x h', (∀ (b : Frame) k cs rs, step P (lone (b.atR a (.inRegion ops (0 :: rs) :: k)) cs w) = .next (lone (b.atR (a.put o.dst cv) (.inRegion ops rs :: k)) cs w')) ∧ Inv w0 G h' w' ∧ Rv G x cv ∧ M x h')
    (hrest : ∀ x h', M x h' → aOps P ops st.n (Q .normal) 1 rest (put ⟨st.nt, st.s, h', st.n + ops.size⟩ o.dst x)) : ACode P fl (.region id ops false) Q st := by
  intro r w0 G a w hr S hf b k cs hro hb hrm
  obtain ⟨cv, w', x, h', hstep, I', hv, hM⟩ := hhead w0 G a w S
  have hsz : ops.size = rest.length + 1 := by have := congrArg List.length ho; simpa using this
  have hR : RSim w0 G fl st.n (List.range' 1 rest.length) G (put ⟨st.nt, st.s, h', st.n + ops.size⟩ o.dst x) (a.put o.dst cv) w' := by
    refine ⟨⟨?_, ?_, ?_, ?_, ?_⟩, Ext.refl _ _, ?_, fun j hj => ?_⟩
    · rw [put_nt.2.1]; exact I'
    · rw [put_size, put_nt.1]; exact S.size
    · rw [put_defers]; exact S.defers
    · exact put_slots (st := ⟨st.nt, st.s, h', st.n + ops.size⟩) S.slots S.size hd hv
    · rw [put_nt.2.2]; intro j hj; simp only at hj; exact S.fresh j (by omega)
    · rw [put_nt.2.2]; simp only; omega
    · rw [put_nt.2.2]
      simp only [List.mem_range'] at hj
      obtain ⟨i, hi, rfl⟩ := hj
      exact ⟨S.fresh _ (by omega), by simp only; omega⟩
  have hlist := ops_ok (P := P) (r := r) (w0 := w0) (G0 := G) (base := st.n) (fl := fl) hf (ops := ops) (K := Q .normal) (Q' := fun e a' w' => ∃ G' st', Ext fl G G' ∧ fl ≤ st'.n ∧ Sim w0 G' st' a' w' ∧ Q e st')
    (fun G' s a' w' S' hq => ⟨G', s, S'.ext, S'.lim, S'.sim, hq⟩) rest 1 G _ _ w' hR (hrest x h' hM)
  rw [← wpOpsIn_eq_wpListIn (F := FR r) rest 1 (fun j => by rw [← Array.getElem?_toList, ho, Nat.add_comm]; simp)] at hlist
  obtain ⟨e, a', w'', hq, harr⟩ := wp_opsIn _ _ _ hlist b k cs hro hb hrm
  have hrange : List.range ops.size = 0 :: List.range' 1 rest.length := by rw [hsz, List.range_eq_range', List.range'_succ]
  refine ⟨e, a', w'', hq, ArrivesIn.of_steps (.head (fenced_FR r _) stepR_region (.one (fenced_FR r _) ?_)) harr⟩
  rw [hrange]
  exact hstep b k cs _
theorem step_value {ops : Array Oper} {o : Oper} {a : Act} {w w' : World} {cv : Value} (ho : ops[0]? = some o) (hg : o.guard = none) (hnd : ∀ c, o.op ≠ .defer c) (hr : (execOp a.eval o).run P w = .ok (.value cv) w') (b : Frame) (k : List Item) (cs : List Frame) (rs : List Nat) :
    step P (lone (b.atR a (.inRegion ops (0 :: rs) :: k)) cs w) = .next (lone (b.atR (a.put o.dst cv) (.inRegion ops rs :: k)) cs w') := by
  have hw : Region.wanted o (yielded ops a.tmps) = true := by simp [Region.wanted, hg]
  have hgo := stepGR_op (P := P) (b := b) (k := k) (cs := cs) (w := w) (rest := rs) ho hw
  have hfin : (b.atR a (.inRegion ops (0 :: rs) :: k)).finish cv = b.atR (a.put o.dst cv) (.inRegion ops rs :: k) := by
    rw [Frame.finish_atR, ho]; rfl
  refine step_lone_go ?_
  rw [hgo, ← hfin, Oper.semAt_eq _ _ _ hnd]
  simp [stepG.apply, hr]
theorem run_next_at {w : World} (ty : TypeId) {b bm since c0 : Nat} {sa : Array Nat} {es : Array MapEntry} {clock : Nat} (hb : w.heap[b]? = some (.mapIter (some bm) since sa c0)) (hm : w.heap[bm]? = some (.map es clock)) (hold : ∀ x ∈ es.toList, x.born < since) (hsc : since ≤ c0) :
    ((leftOf es sa).size = 0 ∧ (Instr.next (.pointer (some ⟨b, 0, none⟩)) false ty).run P w = .ok (.tuple #[.bool false]) w) ∨
    ∃ e ∈ (leftOf es sa).toList, ∃ w1 : World, (w1 = w ∨ w1 = w.drew) ∧ (Instr.next (.pointer (some ⟨b, 0, none⟩)) false ty).run P w = .ok (.tuple #[.bool true, e.key, e.val]) (w1.putObj b (.mapIter (some bm) since (sa.push e.born) clock)) := by
  simp only [Instr.next, getObj, Sem.run_bind, Sem.run, hb, hm, Result.andThen, next_test_false sa es since c0 hold hsc, Bool.false_eq_true, if_false]
  unfold leftOf
  have hmem : ∀ x ∈ (Array.filter (fun e => !sa.contains e.born) es).toList, x.born < since := fun x hx => hold x (by simp at hx ⊢; exact hx.1)
  generalize Array.filter (fun e => !sa.contains e.born) es = L at hmem ⊢
  have e1 : L.filter (fun x => decide (x.born < since)) = L := Array.filter_eq_self.2 (fun x hx => by simpa using hmem x (by simpa using hx))
  have e2 : L.filter (fun x => decide (x.born ≥ since)) = #[] := by
    rw [Array.filter_eq_empty_iff]
    intro x hx
    have := hmem x (by simpa using hx)
    simp
    omega
  simp only [e1, e2, Array.append_empty]
  by_cases h0 : L.size = 0
  · left
    have : L = #[] := Array.eq_empty_of_size_eq_zero h0
    subst this
    refine ⟨rfl, ?_⟩
    simp [choose, Sem.run, Question.forced]
  · right
    have hne : L.isEmpty = false := by simp [Array.isEmpty, h0]
    simp only [hne, Bool.false_eq_true, if_false, Array.empty_append, Array.size_map]
    have hch : ∃ (j : Nat) (w1 : World), j < L.size ∧ (w1 = w ∨ w1 = w.drew) ∧ (choose (Question.mapNext L.size)).run P w = .ok j w1 := by
      by_cases hf : L.size ≤ 1
      · exact ⟨0, w, by omega, .inl rfl, by simp [choose, Sem.run, Question.forced, hf]⟩
      · exact ⟨_, w.drew, Nat.mod_lt _ (by omega), .inr rfl, by
          simp only [choose, Sem.run, Question.forced, decide_eq_true_eq, hf, if_false, Question.cut]
          rfl⟩
    obtain ⟨j, w1, hj, hw1, hrun⟩ := hch
    refine ⟨L[j], by simp, w1, hw1, ?_⟩
    have hb1 : w1.heap[b]? = some (.mapIter (some bm) since sa c0) := by rcases hw1 with rfl | rfl <;> exact hb
    have hset : ∀ o', (setObj b o').run P w1 = .ok () (w1.putObj b o') := fun o' => by
      simp only [setObj, Sem.run, hb1]
      rfl
    simp only [hrun, Array.getElem?_map, Array.getElem?_eq_getElem hj, Option.map_some, Sem.run_bind, hset, Result.andThen]
    rfl
theorem ac_next [Vars] {id : Nat} {ops : Array Oper} {o : Oper} {rest : List Oper} {it : Operand} {n m since last clk : Nat} {seen bs : List Nat} {es : List (Value × AV)} (ho : ops.toList = o :: rest) (hop : o.op = .next it false) (hg : o.guard = none) (hd : dstOk st.nt o.dst = true)
    (hit : ev st.s it = .ptr n 0) (hn : st.h n = some (.iter m since last seen)) (hm : st.h m = some (.map clk bs es)) (hlt : ∀ b ∈ bs, b < since) (hle : since ≤ last)
    (hend : (∀ b ∈ bs, b ∈ seen) → aOps P ops st.n (Q .normal) 1 rest (put ⟨st.nt, st.s, st.h, st.n + ops.size⟩ o.dst (.tup [bv false])))
    (hnext : ∀ (j b : Nat) (k : Value) (v : AV), es[j]? = some (k, v) → bs[j]? = some b → b ∉ seen → aOps P ops st.n (Q .normal) 1 rest (put ⟨st.nt, st.s, st.h.upd n (some (.iter m since clk (seen ++ [b]))), st.n + ops.size⟩ o.dst (.tup [bv true, ofVal k, v]))) : ACode P fl (.region id ops false) Q st := by
  refine ac_head ho hd (fun x h' => (x = .tup [bv false] ∧ h' = st.h ∧ ∀ b ∈ bs, b ∈ seen) ∨ ∃ (j b : Nat) (k : Value) (v : AV), es[j]? = some (k, v) ∧ bs[j]? = some b ∧ b ∉ seen ∧ x = .tup [bv true, ofVal k, v] ∧ h' = st.h.upd n (some (.iter m since clk (seen ++ [b])))) ?_ ?_
  · intro w0 G a w S
    have hv := ev_ok S.inv.oth.vars S.slots it
    rw [hit] at hv
    simp only [Rv] at hv
    obtain ⟨b, lo, tt, hr, hve⟩ := hv
    obtain ⟨b', bm, sa, hr', hb, hrm, hblk, hsa⟩ := S.inv.obj n _ hn
    rw [hr] at hr'; cases hr'
    obtain ⟨bm', ents, hrm', M⟩ := S.inv.obj m _ hm
    rw [hrm] at hrm'; cases hrm'
    have hlen := M.len
    have hblen := M.blen
    have hold : ∀ x ∈ ents.toList, x.born < since := fun x hx => hlt _ (by rw [← M.born]; exact List.mem_map_of_mem hx)
    have ho0 : ops[0]? = some o := by rw [← Array.getElem?_toList, ho]; rfl
    have hnd : ∀ c, o.op ≠ .defer c := fun c e => by rw [hop] at e; cases e
    have hexec : ∀ cv w', (Instr.next (.pointer (some ⟨b, 0, none⟩)) false o.type).run P w = .ok cv w' → (execOp a.eval o).run P w = .ok (.value cv) w' := fun cv w' h1 => by
      have : execOp a.eval o = (do pure (.value (← Instr.next (a.eval it) false o.type))) := by
        obtain ⟨d, op, ty, ps, af, gd⟩ := o
        simp only at hop
        subst hop; rfl
      rw [this, hve]
      simp [h1]
    rcases run_next_at (P := P) o.type hblk M.blk hold hle with ⟨h0, h1⟩ | ⟨e, he, w1, hw1, h1⟩
    · refine ⟨_, w, .tup [bv false], st.h, step_value ho0 hg hnd (hexec _ _ h1), S.inv, by simp only [Rv, RvL]; exact ⟨_, rfl, _, _, rfl, by simp [Value.oneCell'], rfl⟩, .inl ⟨rfl, rfl, fun x hx => ?_⟩⟩
      rw [← hsa]
      apply Classical.byContradiction
      intro hns
      rw [← M.born] at hx
      obtain ⟨e, he, rfl⟩ := List.mem_map.1 hx
      have hin : e ∈ (leftOf ents sa).toList := by
        simp only [leftOf, Array.toList_filter, List.mem_filter]
        refine ⟨he, ?_⟩
        simpa using hns
      have : (leftOf ents sa).toList.length = 0 := by simpa using h0
      rw [List.length_eq_zero_iff.1 this] at hin
      cases hin
    · have hmem : e ∈ ents.toList ∧ ¬ e.born ∈ sa.toList := by
        simp only [leftOf, Array.toList_filter, List.mem_filter] at he
        exact ⟨he.1, by simpa using he.2⟩
      obtain ⟨j, hj⟩ := List.getElem?_of_mem hmem.1
      have hje : ents[j]? = some e := by simpa using hj
      have hbj : bs[j]? = some e.born := by rw [← M.born, List.getElem?_map, hj]; rfl
      have hjl : j < es.length := by rw [← hlen]; exact (Array.getElem?_eq_some_iff.1 hje).1
      obtain ⟨e', he1, he2, he3⟩ := M.at (j := j) (k := es[j].1) (x := es[j].2) (List.getElem?_eq_getElem hjl)
      rw [hje] at he1; cases he1
      have hI1 : Inv w0 G st.h w1 := by
        rcases hw1 with rfl | rfl
        · exact S.inv
        · exact S.inv.drew
      have hblk1 : w1.heap[b]? = some (.mapIter (some bm) since sa last) := by rcases hw1 with rfl | rfl <;> exact hblk
      have hlt1 : b < w1.heap.size := (Array.getElem?_eq_some_iff.1 hblk1).1
      refine ⟨_, _, .tup [bv true, ofVal es[j].1, es[j].2], _, step_value ho0 hg hnd (hexec _ _ h1), ?_, ?_, .inr ⟨j, e.born, es[j].1, es[j].2, List.getElem?_eq_getElem hjl, hbj, by rw [← hsa]; exact hmem.2, rfl, rfl⟩⟩
      · exact hI1.putObj hn hr hblk1 (by simp) (by simp) (by simp) (by simp) hb ⟨b, bm, sa.push e.born, hr, hb, hrm, World.putObj_heap_same hlt1, by simp [hsa]⟩
      · simp only [Rv, RvL]
        exact ⟨_, rfl, _, _, rfl, by simp [Value.oneCell'], _, _, rfl, by rw [← he2]; exact Rv_ofVal G _, _, _, rfl, he3, rfl⟩
  · rintro x h' (⟨rfl, rfl, h1⟩ | ⟨j, b, k, v, h1, h2, h3, rfl, rfl⟩)
    · exact hend h1
    · exact hnext j b k v h1 h2 h3
end
end Go.AM
namespace Go.AM
open Go.RowKit
section
variable {P : Program} {ops : Array Oper}
end
end Go.AM
namespace Go.AM
open Go.RowKit
section
variable {P : Program} {fl : Nat} {Q : Exit → St → Prop} {st : St}
end
end Go.AM
