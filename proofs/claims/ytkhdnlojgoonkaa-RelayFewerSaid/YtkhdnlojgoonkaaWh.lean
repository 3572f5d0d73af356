/- Regions that draw their order around calls and appends; rows that append made, frozen; nets with links closed or left out, as plain data; how slices and small numbers are read. Conditions: as each theorem says. -/
import Derived.Test.YtkhdnlojgoonkaaDoor
namespace Go.AM
open Go.RowKit
/-- a load through one of these slots -/
def isLd (F : List Nat) (op : Op) : Bool := match op with | .load _ (.tmp t) => F.contains t | _ => false
def comm2 (F : List Nat) (P : Program) (ops : Array Oper) (p i : Oper) : Bool := p.apart ops i && (compat (clOf P p.op) (clOf P i.op) || isLd F p.op || isLd F i.op)
def FpOk (F : List Nat) (s : List (Nat × AV)) : Prop := ∀ t ∈ F, ∃ l, get s t = .fptr l
theorem f_ld {P : Program} {ops : Array Oper} {F : List Nat} {o : Oper} {s : List (Nat × AV)} (hl : isLd F o.op = true) (hF : FpOk F s) : clOf P o.op ≠ .w ∧ clOf P o.op ≠ .a ∧ clOf P o.op ≠ .d ∧ ∃ X : Option AV, ∀ nm h, fVal P ops nm o s h = X.map (·, h) := by
  unfold isLd at hl
  split at hl
  · rename_i ty t ho
    obtain ⟨l, hg⟩ := hF t (by simpa using hl)
    refine ⟨by rw [ho]; simp [clOf], by rw [ho]; simp [clOf], by rw [ho]; simp [clOf], ?_⟩
    unfold fVal
    cases aWanted ops s o.guard with
    | none => exact ⟨none, fun _ _ => rfl⟩
    | some b =>
      cases b with
      | false => exact ⟨some (.tup []), fun _ _ => rfl⟩
      | true =>
        rw [ho]
        simp only [aStep]
        cases lay P ty with
        | none => exact ⟨none, fun _ _ => rfl⟩
        | some sg =>
          refine ⟨loadC sg l, fun _ _ => ?_⟩
          simp only [ev, hg]
  · cases hl
structure Facts2 (F : List Nat) (P : Program) (ops : Array Oper) (st : St) (nmp nmi : Nat) (p i : Oper) : Prop extends Facts P ops st nmp nmi p i where
  fp : FpOk F st.s
  runsL : isLd F i.op = true → ∃ x, ∀ nm h, fVal P ops nm i st.s h = some (x, h)
theorem swap_ok2 {F : List Nat} {P : Program} {ops : Array Oper} {nmp nmi : Nat} {p i : Oper} {st : St} (hc : comm2 F P ops p i = true) (FF : Facts2 F P ops st nmp nmi p i) {K : St → Prop} (hK : ∀ a b, Eqv a b → K a → K b)
    (h : aOp P ops nmp p st (fun s1 => aOp P ops nmi i s1 K)) : aOp P ops nmi i st (fun s1 => aOp P ops nmp p s1 K) := by
  by_cases hcp : compat (clOf P p.op) (clOf P i.op) = true
  · refine swap_ok ?_ FF.toFacts hK h
    simp only [comm2, Bool.and_eq_true] at hc
    simp only [comm, Bool.and_eq_true]
    exact ⟨hc.1, hcp⟩
  simp only [comm2, Bool.and_eq_true, Bool.or_eq_true] at hc
  obtain ⟨hap, hcl⟩ := hc
  obtain ⟨ha1, ha2, ha3⟩ := Oper.apart_spec hap
  have hfp := FF.fp
  have hrl := FF.runsL
  have hdok := FF.dok
  obtain ⟨nt, s, hp, n⟩ := st
  obtain ⟨hdp, h⟩ := h
  simp only at hdp h hfp hrl hdok ⊢
  have ag1 : ∀ x h1 n1, agreeOn (i.looksAt ops) (put ⟨nt, s, h1, n1⟩ p.dst x).s s := fun x h1 n1 t ht => get_put (fun e => ha1 t e ht)
  have ag2 : ∀ x h1 n1, agreeOn (p.looksAt ops) (put ⟨nt, s, h1, n1⟩ i.dst x).s s := fun x h1 n1 t ht => get_put (fun e => ha3 t e ht)
  have hh : aVal P ops nmp p s hp n fun x h1 n1 => aVal P ops nmi i s h1 n1 fun y h2 n2 => K (put ⟨nt, (put ⟨nt, s, h1, n1⟩ p.dst x).s, h2, n2⟩ i.dst y) := by
    refine aVal_mono h fun x h1 n1 hk => ?_
    obtain ⟨k1, k2⟩ := hk
    rw [put_nt.1, put_nt.2.1, put_nt.2.2] at k2
    exact (aVal_agree (ag1 x h1 n1)).1 k2
  have goal : (aVal P ops nmi i s hp n fun y h1 n1 => aVal P ops nmp p s h1 n1 fun x h2 n2 => K (put ⟨nt, (put ⟨nt, s, h1, n1⟩ p.dst x).s, h2, n2⟩ i.dst y)) → aOp P ops nmi i ⟨nt, s, hp, n⟩ (fun s1 => aOp P ops nmp p s1 K) := by
    intro g2
    refine ⟨hdok, aVal_mono g2 fun y h1 n1 hk => ⟨by rw [put_nt.1]; exact hdp, ?_⟩⟩
    rw [put_nt.1, put_nt.2.1, put_nt.2.2]
    refine (aVal_agree (ag2 y h1 n1)).2 (aVal_mono hk fun x h2 n2 hk => ?_)
    refine hK _ _ (put_swap (fun t e => ha2 t e) n2 h2) ?_
    exact hk
  refine goal ?_
  have hs : ∀ x h1 n1 h2 n2, (put ⟨nt, s, h1, n1⟩ p.dst x).s = (put ⟨nt, s, h2, n2⟩ p.dst x).s := fun x h1 n1 h2 n2 => by cases p.dst <;> rfl
  by_cases hia : isLd F i.op = true
  · obtain ⟨y, hy⟩ := hrl hia
    have hw := (f_ld (P := P) (ops := ops) hia hfp).1
    have e1 : ∀ h1 n1 K1, aVal P ops nmi i s h1 n1 K1 ↔ K1 y h1 n1 := fun h1 n1 K1 => by rw [aVal_f hw, hy]; rfl
    rw [e1]
    exact aVal_mono hh fun x h1 n1 hk => by rw [e1] at hk; rw [hs x hp n h1 n1]; exact hk
  have hpa : isLd F p.op = true := by
    rcases hcl with (h' | h') | h'
    · exact absurd h' hcp
    · exact h'
    · exact absurd h' hia
  obtain ⟨hw, _, _, X, hX⟩ := f_ld (P := P) (ops := ops) hpa hfp
  have e1 : ∀ h1 n1 K1, aVal P ops nmp p s h1 n1 K1 ↔ stepK (X.map (·, h1)) n1 K1 := fun h1 n1 K1 => by rw [aVal_f hw, hX]
  rw [e1] at hh
  cases X with
  | none => exact hh.elim
  | some x =>
    simp only [Option.map_some, stepK] at hh
    refine aVal_mono hh fun y h1 n1 hk => ?_
    rw [e1]
    simp only [Option.map_some, stepK]
    rw [hs x h1 n1 hp n]; exact hk
/-- i is taken to the front. -/
theorem front2 {F : List Nat} {P : Program} {base : Nat} {ops : Array Oper} {i : Nat} {o : Oper} (hFd : ∀ (p : Nat) q, ops[p]? = some q → ∀ d, q.dst = some d → d ∉ F) (ho : ops[i]? = some o) {l2 : List Nat} {K : St → Prop} (hK : ∀ a b, Eqv a b → K a → K b) : ∀ (l1 : List Nat) (st : St)
    (_ : ∀ p ∈ l1, p ≠ i ∧ ∀ q, ops[p]? = some q → comm2 F P ops q o = true ∧ Facts2 F P ops st (base + p) (base + i) q o) (_ : aOpsI P ops base K (l1 ++ i :: l2) st),
    aOpsI P ops base K (i :: (l1 ++ l2)) st
  | [], st, _, h => h
  | p :: l1, st, hc, h => by
    simp only [List.cons_append] at h
    have h' := h
    simp only [aOpsI] at h'
    obtain ⟨hpi, hq⟩ := hc p (by simp)
    cases hp : ops[p]? with
    | none => rw [hp] at h'; exact h'.elim
    | some q =>
      rw [hp] at h'
      obtain ⟨hcm, hF⟩ := hq q hp
      have hap : q.apart ops o = true := by simp only [comm2, Bool.and_eq_true] at hcm; exact hcm.1
      obtain ⟨ha1, _, _⟩ := Oper.apart_spec hap
      have h1 : aOp P ops (base + p) q st (fun s1 => aOp P ops (base + i) o s1 (aOpsI P ops base K (l1 ++ l2))) := by
        refine aOp_mono (aOp_keep h') fun s1 ⟨k1, k2, k3, k4⟩ => ?_
        have ih := front2 hFd ho hK l1 s1 (fun p' hp' => ⟨(hc p' (by simp [hp'])).1, fun q' hq' => ?_⟩) k1
        · simpa only [aOpsI, ho] using ih
        · obtain ⟨g1, g2⟩ := (hc p' (by simp [hp'])).2 q' hq'
          have hag : agreeOn (o.looksAt ops) s1.s st.s := fun t ht => k3 t fun e => ha1 t e ht
          refine ⟨g1, ⟨g2.ne, fun x hx hd off e => ?_, fun hd => ?_, fun hA => ?_, by rw [k2]; exact g2.dok⟩, fun t ht => by rw [k3 t (fun e => hFd p q hp t e ht)]; exact g2.fp t ht, fun hA => let ⟨x, hx⟩ := g2.runsL hA; ⟨x, fun nm h => by rw [fVal_agree hag]; exact hx nm h⟩⟩
          · refine g2.look x hx hd off ?_
            rw [← e]
            exact (ev_agree hag x (cl_b hx st.s).1).symm
          · have hqw : clOf P q.op ≠ .w := by
              intro e
              simp only [comm2, Bool.and_eq_true, Bool.or_eq_true] at hcm
              rcases hcm.2 with (h' | h') | h'
              · rw [e, hd] at h'; simp [compat] at h'
              · exact (f_ld (P := P) (ops := ops) h' hF.fp).1 e
              · exact (f_ld (P := P) (ops := ops) h' hF.fp).2.2.1 hd
            rw [k4 hqw _ (fun e => hpi (by omega))]
            exact g2.free hd
          · obtain ⟨x, hx⟩ := g2.runs hA
            exact ⟨x, fun nm h => by rw [fVal_agree hag]; exact hx nm h⟩
      have h2 := swap_ok2 hcm hF (aOpsI_eqv hK (l1 ++ l2)) h1
      simp only [aOpsI, ho]
      refine aOp_mono h2 fun s1 k => ?_
      simp only [List.cons_append, aOpsI, hp]
      exact k

/-- the check of a region: whatever is not bound to an order commutes -/
def drawOK2 (F : List Nat) (P : Program) (ops : Array Oper) : Bool :=
  let m := ancGo [] ops.toList
  (List.range ops.size).all fun i => match ops[i]? with
    | none => false
    | some o => ((match o.dst with | some d => !F.contains d | none => true) && (o.after.toList.all fun e => !Region.binds .any e || decide (e.on < i))) &&
      (List.range i).all fun p => (m.getD i 0).testBit p || (match ops[p]? with | some q => comm2 F P ops q o | none => false)

section
variable {F : List Nat} {P : Program} {ops : Array Oper}

theorem drawOK2_edge (h : drawOK2 F P ops = true) {i : Nat} {o : Oper} (ho : ops[i]? = some o) : ∀ e ∈ o.after, Region.binds .any e = true → e.on < i := by
  intro e he hb
  have hi : i < ops.size := (Array.getElem?_eq_some_iff.1 ho).1
  have := List.all_eq_true.1 h i (by simpa using hi)
  rw [ho] at this
  simp only [Bool.and_eq_true] at this
  have := List.all_eq_true.1 this.1.2 e (by simpa using he)
  simpa [hb] using this
theorem drawOK2_comm (h : drawOK2 F P ops = true) {i p : Nat} {o q : Oper} (ho : ops[i]? = some o) (hq : ops[p]? = some q) (hp : p < i) (hn : ((ancGo [] ops.toList).getD i 0).testBit p = false) : comm2 F P ops q o = true := by
  have hi : i < ops.size := (Array.getElem?_eq_some_iff.1 ho).1
  have := List.all_eq_true.1 h i (by simpa using hi)
  rw [ho] at this
  simp only [Bool.and_eq_true] at this
  have := List.all_eq_true.1 this.2 p (by simpa using hp)
  rw [hn, hq] at this
  simpa using this

theorem drawOK2_dst (h : drawOK2 F P ops = true) (i : Nat) (o : Oper) (ho : ops[i]? = some o) (d : Tmp) (hd : o.dst = some d) : d ∉ F := by
  have hi : i < ops.size := (Array.getElem?_eq_some_iff.1 ho).1
  have := List.all_eq_true.1 h i (by simpa using hi)
  rw [ho] at this
  simp only [Bool.and_eq_true] at this
  have := this.1.1
  rw [hd] at this
  simpa using this
theorem any_ok2 (r : Option Nat) (hok : drawOK2 F P ops = true) {w0 : World} {G0 : Gh} {fl base : Nat} (hfl : fl ≤ base) {K : St → Prop} (hK : ∀ a b, Eqv a b → K a → K b) {Q : Exit → Act → World → Prop}
    (hQ : ∀ G st a w, RSim w0 G0 fl base [] G st a w → K st → Q .normal a w) : ∀ (fuel : Nat) (rem : List Nat) (listed : Array Bool) (G : Gh) (st : St) (a : Act) (w : World),
    rem.length ≤ fuel → rem.Pairwise (· < ·) → listed.size = ops.size → (∀ j, j ∈ rem ↔ j < ops.size ∧ listed.getD j true = false) →
    (∀ (i : Nat) o, ops[i]? = some o → listed.getD i false = true → ∀ e ∈ o.after, Region.binds .any e = true → listed.getD e.on false = true) →
    RSim w0 G0 fl base rem G st a w → FpOk F st.s → aOpsI P ops base K rem st → wpAnyIn (FR r) 0 P .any ops Q fuel listed a w := by
  intro fuel
  induction fuel with
  | zero =>
    intro rem listed G st a w hf hs hsz hr hd S hfp h
    have : rem = [] := List.length_eq_zero_iff.1 (by omega)
    subst this
    refine ⟨?_, hQ G st a w S h⟩
    cases hrd : Region.ready .any ops listed with
    | nil => rfl
    | cons i r =>
      obtain ⟨h1, h2, _⟩ := ready_mem (by rw [hrd]; simp : i ∈ Region.ready .any ops listed)
      have := (hr i).2 ⟨h1, h2⟩
      simp at this
  | succ fuel ih =>
    intro rem listed G st a w hf hs hsz hr hd S hfp h
    refine ⟨fun hnil => ?_, fun i hi => ?_⟩
    · cases rem with
      | nil => exact hQ G st a w S h
      | cons i r =>
        -- the first of what remains is ready
        exfalso
        obtain ⟨hi1, hi2⟩ := (hr i).1 (by simp)
        have hready : i ∈ Region.ready .any ops listed := by
          simp only [Region.ready, List.mem_filter, List.mem_range, Bool.and_eq_true, Bool.not_eq_true']
          refine ⟨hi1, hi2, ?_⟩
          rw [Array.getElem?_eq_getElem hi1]
          simp only [Option.map_some, Option.getD_some]
          refine Array.all_eq_true_iff_forall_mem.2 fun e he => ?_
          by_cases hb : Region.binds .any e = true
          · have hlt := drawOK2_edge hok (Array.getElem?_eq_getElem hi1) e he hb
            have : listed.getD e.on false = true := by
              have hne : e.on ∉ i :: r := by
                intro hm
                rcases List.mem_cons.1 hm with h' | h'
                · omega
                · have := (List.pairwise_cons.1 hs).1 _ h'; omega
              have h3 : ¬ (e.on < ops.size ∧ listed.getD e.on true = false) := fun h' => hne ((hr _).2 h')
              have hlt2 : e.on < listed.size := by omega
              simp only [Array.getD_eq_getD_getElem?, Array.getElem?_eq_getElem hlt2, Option.getD_some] at h3 ⊢
              cases hv : listed[e.on] with
              | true => rfl
              | false => exact absurd ⟨by omega, hv⟩ h3
            simp [this]
          · simp [hb]
        rw [hnil] at hready
        cases hready
    · obtain ⟨h1, h2, o, ho, h3⟩ := ready_mem hi
      have hmem := (hr i).2 ⟨h1, h2⟩
      obtain ⟨l1, l2, hl⟩ := List.append_of_mem hmem
      subst hl
      have hnd : (l1 ++ i :: l2).Nodup := hs.imp (fun h => Nat.ne_of_lt h)
      have hpw := List.pairwise_append.1 hs
      -- what stands ahead of i commutes with it
      have hcomm : ∀ p ∈ l1, ∀ q, ops[p]? = some q → comm2 F P ops q o = true := by
        intro p hp q hq
        have hpi : p < i := hpw.2.2 p hp i (by simp)
        refine drawOK2_comm hok ho hq hpi ?_
        have hgood := anc_good (ops := ops.toList) (listed := fun j => listed.getD j false = true) (fun j o' hj hl e he hb => hd j o' (by simpa using hj) hl e he hb) ops.toList [] rfl (by simp) (fun j m hm => by simp at hm)
        cases hb : ((ancGo [] ops.toList).getD i 0).testBit p with
        | false => rfl
        | true =>
          exfalso
          have hlen : i < (ancGo [] ops.toList).length := by rw [ancGo_length]; simpa using h1
          rw [List.getD_eq_getElem?_getD, List.getElem?_eq_getElem hlen] at hb
          have hlp := hgood i _ (List.getElem?_eq_getElem hlen) o (by simpa using ho) h3 p (by simpa using hb)
          obtain ⟨p1, p2⟩ := (hr p).1 (by simp [hp])
          have hps : p < listed.size := by omega
          simp only [Array.getD_eq_getD_getElem?, Array.getElem?_eq_getElem hps, Option.getD_some] at hlp p2
          rw [p2] at hlp; cases hlp
      have hTd : ∀ p ∈ l1, ∀ q, ops[p]? = some q → ∀ d, q.dst = some d → d ∉ o.looksAt ops := by
        intro p hp q hq d hd'
        have := hcomm p hp q hq
        simp only [comm2, Bool.and_eq_true] at this
        exact (Oper.apart_spec this.1).1 d hd'
      obtain ⟨st1, r1, r2, r3⟩ := real_run hfl l1 S hnd hTd h
      simp only [aOpsI, ho] at r3
      have hfacts : ∀ p ∈ l1, p ≠ i ∧ ∀ q, ops[p]? = some q → comm2 F P ops q o = true ∧ Facts2 F P ops st (base + p) (base + i) q o := by
        intro p hp
        have hpi : p < i := hpw.2.2 p hp i (by simp)
        refine ⟨by omega, fun q hq => ⟨hcomm p hp q hq, ⟨by omega, fun x hx hcd off e => ?_, fun hcd => ?_, fun hca => ?_, by rw [← r1]; exact r3.1⟩, hfp, fun hca => ?_⟩⟩
        · have := ev_ok S.sim.slots x
          rw [e] at this
          simp only [Rv] at this
          obtain ⟨_, _, _, hreg, _⟩ := this
          rw [(S.names p (by simp [hp])).1] at hreg; cases hreg
        · cases hh : st.h (base + i) with
          | none => rfl
          | some ob =>
            obtain ⟨_, hreg⟩ := (S.sim.inv.obj _ _ hh).hasReg
            rw [(S.names i (by simp)).1] at hreg; cases hreg
        · obtain ⟨X, hX⟩ := f_a (ops := ops) hca st.s
          have hv := r3.2
          rw [aVal_f (by rw [hca]; simp), fVal_agree (s' := st.s) (fun t ht => r2 t ht), hX] at hv
          cases X with
          | none => exact hv.elim
          | some x => exact ⟨x, fun nm h => by rw [hX]; rfl⟩
        · obtain ⟨hw, _, _, X, hX⟩ := f_ld (P := P) (ops := ops) hca hfp
          have hv := r3.2
          rw [aVal_f hw, fVal_agree (s' := st.s) (fun t ht => r2 t ht), hX] at hv
          cases X with
          | none => exact hv.elim
          | some x => exact ⟨x, fun nm h => by rw [hX]; rfl⟩
      have hfr := front2 (drawOK2_dst hok) ho hK l1 st hfacts h
      simp only [aOpsI, ho] at hfr
      have hmove : ∀ j, j ∈ i :: (l1 ++ l2) → j ∈ l1 ++ i :: l2 := by
        intro j hj
        simp only [List.mem_cons, List.mem_append] at hj ⊢
        rcases hj with rfl | hj | hj
        · exact .inr (.inl rfl)
        · exact .inl hj
        · exact .inr (.inr hj)
      have hnotin : i ∉ l1 ++ l2 := by
        intro hm
        have hnd2 := List.nodup_append.1 hnd
        rcases List.mem_append.1 hm with h' | h'
        · exact hnd2.2.2 i h' i (by simp) rfl
        · exact (List.nodup_cons.1 hnd2.2.1).1 h'
      have hres := op_ok (Q := Q) (S.sub hmove) hfl hnotin (aOp_keep hfr) (next := wpAnyIn (FR r) 0 P .any ops Q fuel (listed.setIfInBounds i true)) ?_ r
      · unfold wpOpIn
        rw [ho]
        simp only
        split at hres
        · rename_i hw; rw [if_pos hw]; exact hres
        · rename_i hw; rw [if_neg hw]; exact hres
      · intro G' st' a' w' S' h'
        have hsize : (listed.setIfInBounds i true).size = listed.size := by simp
        have hget : ∀ (j : Nat) (d : Bool), (listed.setIfInBounds i true).getD j d = if j = i then (if i < listed.size then true else d) else listed.getD j d := by
          intro j d
          simp only [Array.getD_eq_getD_getElem?, Array.getElem?_setIfInBounds]
          by_cases hji : i = j
          · subst hji; by_cases hh : i < listed.size <;> simp [hh]
          · rw [if_neg hji, if_neg (Ne.symm hji)]
        have hil : i < listed.size := by omega
        refine ih (l1 ++ l2) _ G' st' a' w' ?_ ?_ ?_ (fun j => ?_) (fun j o' hj hl e he hb => ?_) S' (fun t ht => by rw [h'.2.2.1 t (fun e => drawOK2_dst hok i o ho t e ht)]; exact hfp t ht) h'.1
        · simp only [List.length_append, List.length_cons] at hf ⊢; omega
        · exact List.pairwise_append.2 ⟨hpw.1, (List.pairwise_cons.1 hpw.2.1).2, fun x hx y hy => hpw.2.2 x hx y (by simp [hy])⟩
        · rw [hsize]; exact hsz
        · rw [hget]
          have hrj := hr j
          by_cases hji : j = i
          · subst hji
            simp only [if_true, hil]
            constructor
            · intro hm; exact absurd hm hnotin
            · rintro ⟨_, hc⟩; cases hc
          · rw [if_neg hji, ← hrj]
            simp only [List.mem_append, List.mem_cons]
            constructor
            · rintro (h' | h')
              · exact .inl h'
              · exact .inr (.inr h')
            · rintro (h' | h' | h')
              · exact .inl h'
              · exact absurd h' hji
              · exact .inr h'
        · rw [hget] at hl ⊢
          by_cases hei : e.on = i
          · simp [hei, hil]
          · rw [if_neg hei]
            by_cases hji : j = i
            · subst hji
              rw [ho] at hj; cases hj
              exact h3 e he hb
            · rw [if_neg hji] at hl
              exact hd j o' hj hl e he hb

/-- A region that draws its order is run in the text's order. -/
theorem ac_draw2 {fl : Nat} {Q : Exit → St → Prop} {st : St} {id : Nat} (hm : P.follows .mixedOrders = true) (hok : drawOK2 F P ops = true) (hfp : FpOk F st.s) (h : aOpsI P ops st.n (Q .normal) (List.range ops.size) { st with n := st.n + ops.size }) : ACode P fl (.region id ops true) Q st := by
  intro r w0 G a w hr S hf
  have S' : Sim w0 G st a w.drew := ⟨S.inv.drew, S.size, S.defers, S.slots, S.fresh⟩
  have hQ : ∀ (G' : Gh) (s : St) (a' : Act) (w' : World), RSim w0 G fl st.n [] G' s a' w' → (∃ s0, Eqv s0 s ∧ Q .normal s0) → ∃ G'' st', Ext fl G G'' ∧ fl ≤ st'.n ∧ Sim w0 G'' st' a' w' ∧ Q .normal st' := by
    rintro G' s a' w' S1 ⟨s0, e1, e2⟩
    exact ⟨G', s0, S1.ext, by rw [e1.2.2.1]; exact S1.lim, ⟨by rw [e1.2.1]; exact S1.sim.inv, by rw [e1.1]; exact S1.sim.size, S1.sim.defers, fun t => by rw [e1.2.2.2]; exact S1.sim.slots t, by rw [e1.2.2.1]; exact S1.sim.fresh⟩, e2⟩
  refine wpIn_region_any hm (any_ok2 r hok (base := st.n) (G0 := G) (w0 := w0) hf (K := fun s => ∃ s0, Eqv s0 s ∧ Q .normal s0) (fun a b e ⟨s0, e1, e2⟩ => ⟨s0, e1.trans e, e2⟩) hQ ops.size (List.range ops.size) (Array.replicate ops.size false) G _ a w.drew
    (by simp) List.pairwise_lt_range (by simp) (fun j => ?_) (fun i o ho hl => ?_) (region_start S' hf ops.size _ (fun j hj => by simpa using hj)) hfp (aOpsI_mono (fun s hs => ⟨s, Eqv.refl s, hs⟩) _ _ h))
  · simp only [List.mem_range]
    constructor
    · intro hj; exact ⟨hj, by simp [Array.getD_eq_getD_getElem?, hj]⟩
    · exact fun h => h.1
  · exfalso
    have hi : i < ops.size := (Array.getElem?_eq_some_iff.1 ho).1
    simp [Array.getD_eq_getD_getElem?, hi] at hl
end

theorem ac_draw2_h {F : List Nat} {P : Program} {fl : Nat} {Q : Exit → St → Prop} {st : St} {id : Nat} {ops : Array Oper} (hm : P.follows .mixedOrders = true) (hok : drawOK2 F P ops = true) (hfp : FpOk F st.s) (h : ∀ K : St → Prop, Hide (∀ s, Q .normal s → K s) → aOps P ops st.n K 0 ops.toList { st with n := st.n + ops.size }) : ACode P fl (.region id ops true) Q st := by
  refine ac_draw2 hm hok hfp ?_
  have := aOps_aOpsI ops.toList 0 rfl _ (h _ fun _ h => h)
  rwa [← List.range_eq_range', Array.length_toList] at this
/-- a box is frozen: from there on its pointer points at what never turns -/
theorem ac_fzbox {P : Program} {fl : Nat} {code : Code} {Q : Exit → St → Prop} {st : St} {t m : Nat} {c : List AV} (hm : st.h m = some (.cells c)) (ht : get st.s t = .ptr m 0)
    (h : ACode P fl code Q { st with s := (t, .fptr c) :: st.s, h := st.h.upd m none }) : ACode P fl code Q st := by
  intro r w0 G a w hr S hf
  obtain ⟨rg, vs, hreg, ok⟩ := S.inv.obj m _ hm
  have hle := Gh.le_freeze S.inv hm hreg
  have hx : Ext fl G (G.freeze w rg) := ⟨fun _ _ => rfl, hle.imm, ⟨[], rfl⟩, rfl, fun _ e => e⟩
  refine wpIn_mono (h r w0 (G.freeze w rg) a w hr ⟨S.inv.freeze hm hreg, S.size, S.defers, fun t' => ?_, S.fresh⟩ hf) fun _ _ _ ⟨G', st', e1, e2⟩ => ⟨G', st', hx.trans e1, e2⟩
  simp only [get]
  by_cases e : t' = t
  · subst e
    rw [if_pos rfl]
    have hv := S.slots t'
    rw [ht] at hv
    simp only [Rv] at hv ⊢
    obtain ⟨b, lo, tt, h1, h2⟩ := hv
    rw [hreg] at h1; cases h1
    refine ⟨_, vs, h2, RvL.mono hle.v _ _ ok.rel, fun j v hj => ?_⟩
    have hjl := (List.getElem?_eq_some_iff.1 hj).1
    have hlen := ok.rel.length
    have hl2 := ok.len
    rw [addr_add_lit]
    have hin : InReg (b, lo, tt) ⟨b, lo + 0 + j, none⟩ := by
      refine ⟨rfl, ?_, ?_⟩ <;> simp only at * <;> omega
    simp only [Gh.freeze, if_pos hin]
    exact ok.val j v hj
  · rw [if_neg e]
    exact (S.slots t').mono hle.v _ _
end Go.AM

namespace Go.AM
open Go.RowKit
def isAp : Op → Bool
  | .call { callee := .builtin .append, .. } => true
  | _ => false
def isFA (F : List Nat) (o : Oper) : Bool := o.guard.isNone && match o.op with | .fieldAddr _ (.tmp f) _ => F.contains f | _ => false
/-- slots that hold a place in immutable memory: those of F, and those that a field's address of such a place goes to -/
def fpSlot (F : List Nat) (ops : Array Oper) (t : Nat) : Bool := F.contains t || ops.toList.any (fun o => isFA F o && o.dst == some t)
def ldSlot : Op → Option Nat
  | .load _ (.tmp t) => some t
  | _ => none
def isLd3 (F : List Nat) (ops : Array Oper) (op : Op) : Bool := match ldSlot op with | some t => fpSlot F ops t | none => false
def isD (P : Program) (op : Op) : Bool := match clOf P op with | .d => true | _ => false
def comm3 (F : List Nat) (P : Program) (ops : Array Oper) (p i : Oper) : Bool := p.apart ops i && (compat (clOf P p.op) (clOf P i.op) || isLd3 F ops p.op || isLd3 F ops i.op || (isAp p.op && isD P i.op))
def LdAt (op : Op) (s : List (Nat × AV)) : Prop := ∀ t, ldSlot op = some t → ∃ l, get s t = .fptr l
theorem f_ld3 {P : Program} {ops : Array Oper} {F : List Nat} {o : Oper} {s : List (Nat × AV)} (hl : isLd3 F ops o.op = true) (hF : LdAt o.op s) : clOf P o.op ≠ .w ∧ clOf P o.op ≠ .a ∧ clOf P o.op ≠ .d ∧ ∃ X : Option AV, ∀ nm h, fVal P ops nm o s h = X.map (·, h) := by
  have hs : ∃ t, ldSlot o.op = some t := by
    unfold isLd3 at hl
    cases e : ldSlot o.op with
    | none => rw [e] at hl; cases hl
    | some t => exact ⟨t, rfl⟩
  obtain ⟨t, ht⟩ := hs
  obtain ⟨l, hg⟩ := hF t ht
  have ho : ∃ ty, o.op = .load ty (.tmp t) := by
    unfold ldSlot at ht
    split at ht
    · rename_i ty t' e; cases ht; exact ⟨ty, e⟩
    · cases ht
  obtain ⟨ty, ho⟩ := ho
  refine ⟨by rw [ho]; simp [clOf], by rw [ho]; simp [clOf], by rw [ho]; simp [clOf], ?_⟩
  unfold fVal
  cases aWanted ops s o.guard with
  | none => exact ⟨none, fun _ _ => rfl⟩
  | some b =>
    cases b with
    | false => exact ⟨some (.tup []), fun _ _ => rfl⟩
    | true =>
      rw [ho]
      simp only [aStep]
      cases lay P ty with
      | none => exact ⟨none, fun _ _ => rfl⟩
      | some sg =>
        refine ⟨loadC sg l, fun _ _ => ?_⟩
        simp only [ev, hg]
theorem src_upd {h : AHeap} {k size n : Nat} {x : AV} {xs : List AV} (hx : srcCells h size x = some (n, xs)) (hk : h k = none) (o : Option AObj) : srcCells (h.upd k o) size x = some (n, xs) := by
  cases x with
  | slc m off len s =>
    simp only [srcCells] at hx ⊢
    split at hx
    · rename_i e
      rw [if_pos e]
      by_cases hm : m = k
      · subst hm; rw [hk] at hx; cases hx
      · rw [upd_ne _ _ _ _ hm]; exact hx
    · cases hx
  | _ => exact hx
theorem upd_comm (h : AHeap) {a b : Nat} (hab : a ≠ b) (x y : Option AObj) : (h.upd a x).upd b y = (h.upd b y).upd a x := by
  funext k
  by_cases h1 : k = a
  · subst h1; rw [upd_ne _ _ _ _ hab, upd_same, upd_same]
  · by_cases h2 : k = b
    · subst h2; rw [upd_same, upd_ne _ _ _ _ (Ne.symm hab), upd_same]
    · rw [upd_ne _ _ _ _ h2, upd_ne _ _ _ _ h1, upd_ne _ _ _ _ h1, upd_ne _ _ _ _ h2]
/-- an append ahead of a new object, or behind it -/
theorem ap_upd {P : Program} {nm t k : Nat} {d x r : AV} {h h' : AHeap} (he : aAppend P nm t d x h = some (r, h')) (hk : h k = none) (hkn : k ≠ nm) : h' k = none ∧ ∀ o, aAppend P nm t d x (h.upd k o) = some (r, h'.upd k o) := by
  unfold aAppend at he ⊢
  cases e1 : eltOf P t with
  | none => rw [e1] at he; cases he
  | some e =>
    rw [e1] at he
    simp only at he ⊢
    cases e2 : szOf P e <;> cases e3 : byOf P e <;> cases e4 : zerOf P e <;> rw [e2, e3, e4] at he <;> simp only at he ⊢ <;> try (cases he; done)
    rename_i s by_ z
    split at he
    · rename_i hc
      simp only [if_pos hc]
      cases hs : srcCells h s x with
      | none => rw [hs] at he; cases he
      | some nx =>
        obtain ⟨m, xs⟩ := nx
        rw [hs] at he
        have hs' := fun o => src_upd hs hk o
        simp only at he
        cases d with
        | fslc nl full s' l =>
          cases full with
          | false => simp at he
          | true =>
            simp only at he
            split at he
            · rename_i h1
              split at he
              · rename_i h2
                cases he
                exact ⟨hk, fun o => by rw [hs' o]; simp only [if_pos h1, if_pos h2]⟩
              · rename_i h2
                split at he
                · rename_i h3
                  cases he
                  exact ⟨by rw [upd_ne _ _ _ _ hkn]; exact hk, fun o => by rw [hs' o]; simp only [if_pos h1, if_neg h2, if_pos h3]; rw [upd_comm _ hkn]⟩
                · cases he
            · cases he
        | slc m' off len s' =>
          simp only at he
          split at he
          · rename_i h1
            cases hm : h m' with
            | none => rw [hm] at he; cases he
            | some ob =>
              have hmk : m' ≠ k := fun e => by subst e; rw [hk] at hm; cases hm
              cases ob with
              | cells c =>
                rw [hm] at he
                simp only at he
                split at he
                · rename_i h2
                  cases he
                  exact ⟨by rw [upd_ne _ _ _ _ (Ne.symm hmk)]; exact hk, fun o => by rw [hs' o]; simp only [if_pos h1, upd_ne _ _ _ _ hmk, hm, if_pos h2]; rw [upd_comm _ (Ne.symm hmk)]⟩
                · rename_i h2
                  split at he
                  · rename_i h3
                    cases he
                    exact ⟨by rw [upd_ne _ _ _ _ hkn, upd_ne _ _ _ _ (Ne.symm hmk)]; exact hk, fun o => by rw [hs' o]; simp only [if_pos h1, upd_ne _ _ _ _ hmk, hm, if_neg h2, if_pos h3]; rw [upd_comm _ (Ne.symm hmk), upd_comm _ hkn]⟩
                  · cases he
              | _ => rw [hm] at he; cases he
          · cases he
        | _ => cases he
    · cases he
theorem ap_bi {P : Program} {nm k : Nat} {ts : List TypeId} {xs : List AV} {h h' : AHeap} {r : AV} (he : aBuiltin P nm .append ts xs h = some (r, h')) (hk : h k = none) (hkn : k ≠ nm) : h' k = none ∧ ∀ o, aBuiltin P nm .append ts xs (h.upd k o) = some (r, h'.upd k o) := by
  rcases ts with _ | ⟨t, _ | ⟨t', _ | ⟨t2, r2⟩⟩⟩ <;> rcases xs with _ | ⟨d, _ | ⟨x, _ | ⟨x2, q2⟩⟩⟩ <;> simp only [aBuiltin] at he ⊢ <;> try (cases he; done)
  split at he
  · rename_i e
    simp only [if_pos e]
    exact ap_upd he hk hkn
  · cases he
theorem ap_step {P : Program} {nm k : Nat} {op : Op} {s : List (Nat × AV)} {h h' : AHeap} {r : AV} (ha : isAp op = true) (he : aStep P nm op s h = some (r, h')) (hk : h k = none) (hkn : k ≠ nm) : h' k = none ∧ ∀ o, aStep P nm op s (h.upd k o) = some (r, h'.upd k o) := by
  unfold isAp at ha
  split at ha
  · simp only [aStep] at he ⊢
    exact ap_bi he hk hkn
  · cases ha
theorem ap_val {P : Program} {ops : Array Oper} {nm k : Nat} {o : Oper} {s : List (Nat × AV)} {h h' : AHeap} {r : AV} (ha : isAp o.op = true) (he : fVal P ops nm o s h = some (r, h')) (hk : h k = none) (hkn : k ≠ nm) : h' k = none ∧ ∀ ob, fVal P ops nm o s (h.upd k ob) = some (r, h'.upd k ob) := by
  unfold fVal at he ⊢
  cases hw : aWanted ops s o.guard with
  | none => rw [hw] at he; cases he
  | some b =>
    rw [hw] at he
    cases b with
    | false => simp only [Option.some.injEq, Prod.mk.injEq] at he; obtain ⟨rfl, rfl⟩ := he; exact ⟨hk, fun _ => rfl⟩
    | true => exact ap_step ha he hk hkn
theorem ap_nc {op : Op} (ha : isAp op = true) : callOf op = none := by
  unfold isAp at ha
  split at ha
  · rfl
  · cases ha
theorem aVal_nc {P : Program} {ops : Array Oper} {nm : Nat} {o : Oper} (hc : callOf o.op = none) {s : List (Nat × AV)} {h : AHeap} {n : Nat} {K : AV → AHeap → Nat → Prop} :
    aVal P ops nm o s h n K ↔ stepK (fVal P ops nm o s h) n K := by
  unfold aVal fVal
  rw [hc]
  cases aWanted ops s o.guard with
  | none => simp [stepK]
  | some b => cases b <;> simp [stepK]
structure Facts3 (F : List Nat) (P : Program) (ops : Array Oper) (st : St) (nmp nmi : Nat) (p i : Oper) : Prop extends Facts P ops st nmp nmi p i where
  runsL : isLd3 F ops i.op = true → ∃ x, ∀ nm h, fVal P ops nm i st.s h = some (x, h)
  wL : isLd3 F ops i.op = true → clOf P i.op ≠ .w ∧ clOf P i.op ≠ .d
theorem swap_ok3 {F : List Nat} {P : Program} {ops : Array Oper} {nmp nmi : Nat} {p i : Oper} {st : St} (hc : comm3 F P ops p i = true) (FF : Facts3 F P ops st nmp nmi p i) (hfp : isLd3 F ops p.op = true → LdAt p.op st.s) {K : St → Prop} (hK : ∀ a b, Eqv a b → K a → K b)
    (h : aOp P ops nmp p st (fun s1 => aOp P ops nmi i s1 K)) : aOp P ops nmi i st (fun s1 => aOp P ops nmp p s1 K) := by
  by_cases hcp : compat (clOf P p.op) (clOf P i.op) = true
  · refine swap_ok ?_ FF.toFacts hK h
    simp only [comm3, Bool.and_eq_true] at hc
    simp only [comm, Bool.and_eq_true]
    exact ⟨hc.1, hcp⟩
  simp only [comm3, Bool.and_eq_true, Bool.or_eq_true] at hc
  obtain ⟨hap, hcl⟩ := hc
  obtain ⟨ha1, ha2, ha3⟩ := Oper.apart_spec hap
  have hrl := FF.runsL
  have hwl := FF.wL
  have hdok := FF.dok
  have hfree := FF.free
  have hne := FF.ne
  obtain ⟨nt, s, hp, n⟩ := st
  obtain ⟨hdp, h⟩ := h
  simp only at hdp h hfp hrl hdok hfree ⊢
  have ag1 : ∀ x h1 n1, agreeOn (i.looksAt ops) (put ⟨nt, s, h1, n1⟩ p.dst x).s s := fun x h1 n1 t ht => get_put (fun e => ha1 t e ht)
  have ag2 : ∀ x h1 n1, agreeOn (p.looksAt ops) (put ⟨nt, s, h1, n1⟩ i.dst x).s s := fun x h1 n1 t ht => get_put (fun e => ha3 t e ht)
  have hh : aVal P ops nmp p s hp n fun x h1 n1 => aVal P ops nmi i s h1 n1 fun y h2 n2 => K (put ⟨nt, (put ⟨nt, s, h1, n1⟩ p.dst x).s, h2, n2⟩ i.dst y) := by
    refine aVal_mono h fun x h1 n1 hk => ?_
    obtain ⟨k1, k2⟩ := hk
    rw [put_nt.1, put_nt.2.1, put_nt.2.2] at k2
    exact (aVal_agree (ag1 x h1 n1)).1 k2
  have goal : (aVal P ops nmi i s hp n fun y h1 n1 => aVal P ops nmp p s h1 n1 fun x h2 n2 => K (put ⟨nt, (put ⟨nt, s, h1, n1⟩ p.dst x).s, h2, n2⟩ i.dst y)) → aOp P ops nmi i ⟨nt, s, hp, n⟩ (fun s1 => aOp P ops nmp p s1 K) := by
    intro g2
    refine ⟨hdok, aVal_mono g2 fun y h1 n1 hk => ⟨by rw [put_nt.1]; exact hdp, ?_⟩⟩
    rw [put_nt.1, put_nt.2.1, put_nt.2.2]
    refine (aVal_agree (ag2 y h1 n1)).2 (aVal_mono hk fun x h2 n2 hk => ?_)
    refine hK _ _ (put_swap (fun t e => ha2 t e) n2 h2) ?_
    exact hk
  refine goal ?_
  have hs : ∀ x h1 n1 h2 n2, (put ⟨nt, s, h1, n1⟩ p.dst x).s = (put ⟨nt, s, h2, n2⟩ p.dst x).s := fun x h1 n1 h2 n2 => by cases p.dst <;> rfl
  by_cases hia : isLd3 F ops i.op = true
  · obtain ⟨y, hy⟩ := hrl hia
    have hw := (hwl hia).1
    have e1 : ∀ h1 n1 K1, aVal P ops nmi i s h1 n1 K1 ↔ K1 y h1 n1 := fun h1 n1 K1 => by rw [aVal_f hw, hy]; rfl
    rw [e1]
    exact aVal_mono hh fun x h1 n1 hk => by rw [e1] at hk; rw [hs x hp n h1 n1]; exact hk
  by_cases hpa : isLd3 F ops p.op = true
  · obtain ⟨hw, _, _, X, hX⟩ := f_ld3 (P := P) (ops := ops) hpa (hfp hpa)
    have e1 : ∀ h1 n1 K1, aVal P ops nmp p s h1 n1 K1 ↔ stepK (X.map (·, h1)) n1 K1 := fun h1 n1 K1 => by rw [aVal_f hw, hX]
    rw [e1] at hh
    cases X with
    | none => exact hh.elim
    | some x =>
      simp only [Option.map_some, stepK] at hh
      refine aVal_mono hh fun y h1 n1 hk => ?_
      rw [e1]
      simp only [Option.map_some, stepK]
      rw [hs x h1 n1 hp n]; exact hk
  obtain ⟨hpp, hid⟩ : isAp p.op = true ∧ isD P i.op = true := by
    rcases hcl with ((h' | h') | h') | h'
    · exact absurd h' hcp
    · exact absurd h' hpa
    · exact absurd h' hia
    · exact h'
  have hcd : clOf P i.op = .d := by
    unfold isD at hid
    split at hid
    · assumption
    · cases hid
  have hiw : clOf P i.op ≠ .w := by rw [hcd]; simp
  obtain ⟨X, hX⟩ := f_d (ops := ops) hcd s nmi
  rw [aVal_nc (ap_nc hpp)] at hh
  cases hv : fVal P ops nmp p s hp with
  | none => rw [hv] at hh; exact hh.elim
  | some xh =>
    obtain ⟨x, h1⟩ := xh
    rw [hv] at hh
    simp only [stepK] at hh
    rw [aVal_f hiw, hX] at hh
    rw [aVal_f hiw, hX]
    cases X with
    | none => exact hh.elim
    | some yo =>
      obtain ⟨y, oo⟩ := yo
      simp only [Option.map_some, stepK] at hh ⊢
      rw [aVal_nc (ap_nc hpp)]
      cases oo with
      | none =>
        simp only at hh ⊢
        rw [hv]
        simp only [stepK]
        rw [hs x hp n h1 n]; exact hh
      | some ob =>
        simp only at hh ⊢
        rw [(ap_val hpp hv (hfree hcd) (Ne.symm hne)).2 (some ob)]
        simp only [stepK]
        rw [hs x _ n h1 n]; exact hh
end Go.AM

namespace Go.AM
open Go.RowKit
/-- what may be written where -/
def WOk (F : List Nat) (ops : Array Oper) : Prop := ∀ (i : Nat) o, ops[i]? = some o → ∀ d, o.dst = some d → d ∉ F ∧ (fpSlot F ops d = true → isFA F o = true)
/-- each load of what is immutable has its place, or will have it -/
structure Psi (F : List Nat) (ops : Array Oper) (s : List (Nat × AV)) (L : List Nat) : Prop where
  fp : FpOk F s
  ld : ∀ p ∈ L, ∀ o, ops[p]? = some o → isLd3 F ops o.op = true → LdAt o.op s ∨ ∃ j ∈ L, j < p ∧ ∃ q, ops[j]? = some q ∧ isFA F q = true ∧ q.dst = ldSlot o.op
theorem Psi.head {F : List Nat} {ops : Array Oper} {s : List (Nat × AV)} {p : Nat} {r : List Nat} (h : Psi F ops s (p :: r)) (hs : (p :: r).Pairwise (· < ·)) {o : Oper} (ho : ops[p]? = some o) (hl : isLd3 F ops o.op = true) : LdAt o.op s := by
  rcases h.ld p (by simp) o ho hl with h' | ⟨j, hj, hlt, _⟩
  · exact h'
  · exfalso
    rcases List.mem_cons.1 hj with h' | h'
    · omega
    · have := (List.pairwise_cons.1 hs).1 j h'; omega
theorem Psi.step {F : List Nat} {ops : Array Oper} {s s1 : List (Nat × AV)} {L L' : List Nat} {p : Nat} {o : Oper} (h : Psi F ops s L) (hW : WOk F ops) (_ : p ∈ L) (ho : ops[p]? = some o) (hk : ∀ t, o.dst ≠ some t → get s1 t = get s t)
    (hfa : isFA F o = true → FpOk F s → ∀ d, o.dst = some d → ∃ l, get s1 d = .fptr l) (h1 : ∀ x ∈ L', x ∈ L) (h2 : ∀ x ∈ L, x ≠ p → x ∈ L') : Psi F ops s1 L' := by
  have hf : FpOk F s1 := fun t ht => by rw [hk t (fun e => (hW p o ho t e).1 ht)]; exact h.fp t ht
  have keep : ∀ (o' : Oper), isLd3 F ops o'.op = true → LdAt o'.op s → LdAt o'.op s1 := fun o' hl hd t ht => by
    by_cases e : o.dst = some t
    · refine hfa ((hW p o ho t e).2 ?_) h.fp t e
      unfold isLd3 at hl
      rw [ht] at hl; exact hl
    · rw [hk t e]; exact hd t ht
  refine ⟨hf, fun p' hp' o' ho' hl => ?_⟩
  rcases h.ld p' (h1 p' hp') o' ho' hl with h' | ⟨j, hj, hlt, q, hq, hqa, hqd⟩
  · exact .inl (keep o' hl h')
  · by_cases e : j = p
    · subst e
      rw [ho] at hq; cases hq
      exact .inl fun t ht => hfa hqa h.fp t (by rw [hqd, ht])
    · exact .inr ⟨j, h2 j hj e, hlt, q, hq, hqa, hqd⟩
theorem fa_val {F : List Nat} {P : Program} {ops : Array Oper} {nm : Nat} {o : Oper} {s : List (Nat × AV)} {h h' : AHeap} {x : AV} (hf : isFA F o = true) (hF : FpOk F s) (he : fVal P ops nm o s h = some (x, h')) : ∃ l, x = .fptr l := by
  simp only [isFA, Bool.and_eq_true] at hf
  obtain ⟨hg, ho⟩ := hf
  have hg : o.guard = none := by simpa using hg
  split at ho
  · rename_i t f k hop
    obtain ⟨l, hl⟩ := hF f (by simpa using ho)
    unfold fVal at he
    rw [hg] at he
    simp only [aWanted, hop, aStep] at he
    split at he
    · split at he
      · cases he
      · simp only [ev, hl, Option.some.injEq, Prod.mk.injEq] at he
        exact ⟨_, he.1.symm⟩
    · cases he
  · cases ho
theorem fa_nc {F : List Nat} {o : Oper} (hf : isFA F o = true) : callOf o.op = none := by
  simp only [isFA, Bool.and_eq_true] at hf
  obtain ⟨_, ho⟩ := hf
  split at ho
  · rename_i hop; rw [hop]; rfl
  · cases ho
theorem aOp_keep3 (F : List Nat) {P : Program} {ops : Array Oper} {nm : Nat} {o : Oper} {st : St} {K : St → Prop} (h : aOp P ops nm o st K) :
    aOp P ops nm o st fun s => K s ∧ s.nt = st.nt ∧ (∀ t, o.dst ≠ some t → get s.s t = get st.s t) ∧ (clOf P o.op ≠ .w → ∀ m, m ≠ nm → s.h m = st.h m) ∧ (isAp o.op = true → ∀ m, m ≠ nm → st.h m = none → s.h m = none) ∧ (isFA F o = true → FpOk F st.s → ∀ d, o.dst = some d → ∃ l, get s.s d = .fptr l) := by
  have h1 := aOp_keep h
  cases hc : callOf o.op with
  | some f =>
    refine aOp_mono h1 fun s ⟨a1, a2, a3, a4⟩ => ⟨a1, a2, a3, a4, fun e => ?_, fun e => ?_⟩
    · rw [ap_nc e] at hc; cases hc
    · rw [fa_nc e] at hc; cases hc
  | none =>
    obtain ⟨hd, h2⟩ := h1
    refine ⟨hd, ?_⟩
    rw [aVal_nc hc] at h2 ⊢
    cases hx : fVal P ops nm o st.s st.h with
    | none => rw [hx] at h2; exact h2.elim
    | some xh =>
      obtain ⟨x, h'⟩ := xh
      rw [hx] at h2
      simp only [stepK] at h2 ⊢
      obtain ⟨a1, a2, a3, a4⟩ := h2
      refine ⟨a1, a2, a3, a4, fun e m hm hn => ?_, fun e hF d hd => ?_⟩
      · rw [put_nt.2.1]; exact (ap_val e hx hn hm).1
      · obtain ⟨l, rfl⟩ := fa_val e hF hx
        rw [hd]
        exact ⟨l, by simp [put, get]⟩
/-- The run of some operations from a state that is real leads to the next one, from a state with the same slots where they don't write. -/
theorem real_run3 {F : List Nat} {P : Program} {w0 : World} {G0 : Gh} {fl base : Nat} {ops : Array Oper} (hW : WOk F ops) (hfl : fl ≤ base) {l2 : List Nat} {i : Nat} {K : St → Prop} {T : List Tmp} : ∀ (l1 : List Nat) {G : Gh} {st : St} {a : Act} {w : World}
    (_ : RSim w0 G0 fl base (l1 ++ i :: l2) G st a w) (_ : (l1 ++ i :: l2).Nodup) (_ : ∀ p ∈ l1, ∀ o, ops[p]? = some o → ∀ d, o.dst = some d → d ∉ T) (_ : Psi F ops st.s (l1 ++ i :: l2)) (_ : aOpsI P ops base K (l1 ++ i :: l2) st),
    ∃ st', st'.nt = st.nt ∧ (∀ t ∈ T, get st'.s t = get st.s t) ∧ Psi F ops st'.s (i :: l2) ∧ aOpsI P ops base K (i :: l2) st'
  | [], G, st, a, w, S, hn, hT, hp, h => ⟨st, rfl, fun _ _ => rfl, hp, h⟩
  | p :: l1, G, st, a, w, S, hn, hT, hp, h => by
    simp only [List.cons_append] at S hn hp h
    have hn' := List.nodup_cons.1 hn
    have h' := h
    simp only [aOpsI] at h'
    cases ho : ops[p]? with
    | none => rw [ho] at h'; exact h'.elim
    | some o =>
      rw [ho] at h'
      obtain ⟨G1, st1, a1, w1, S1, k1, k2, k3, _, _, k6⟩ := real_step S hfl hn'.1 (aOp_keep3 F h')
      have hp1 := hp.step hW (by simp) ho k3 k6 (L' := l1 ++ i :: l2) (fun x hx => by simp only [List.mem_cons]; exact .inr hx) (fun x hx hne => by simpa [hne] using hx)
      obtain ⟨st', e1, e2, e2p, e3⟩ := real_run3 hW hfl l1 S1 hn'.2 (fun q hq => hT q (by simp [hq])) hp1 k1
      exact ⟨st', e1.trans k2, fun t ht => (e2 t ht).trans (k3 t fun e => hT p (by simp) o ho t e ht), e2p, e3⟩


/-- i is taken to the front. -/
theorem front3 {F : List Nat} {P : Program} {base : Nat} {ops : Array Oper} {i : Nat} {o : Oper} (hW : WOk F ops) (ho : ops[i]? = some o) {l2 : List Nat} {K : St → Prop} (hK : ∀ a b, Eqv a b → K a → K b) : ∀ (l1 : List Nat) (st : St)
    (_ : ∀ p ∈ l1, p ≠ i ∧ ∀ q, ops[p]? = some q → comm3 F P ops q o = true ∧ Facts3 F P ops st (base + p) (base + i) q o) (_ : (l1 ++ i :: l2).Pairwise (· < ·)) (_ : Psi F ops st.s (l1 ++ i :: l2)) (_ : aOpsI P ops base K (l1 ++ i :: l2) st),
    aOpsI P ops base K (i :: (l1 ++ l2)) st
  | [], st, _, _, _, h => h
  | p :: l1, st, hc, hsrt, hpsi, h => by
    simp only [List.cons_append] at h hsrt hpsi
    have h' := h
    simp only [aOpsI] at h'
    obtain ⟨hpi, hq⟩ := hc p (by simp)
    cases hp : ops[p]? with
    | none => rw [hp] at h'; exact h'.elim
    | some q =>
      rw [hp] at h'
      obtain ⟨hcm, hF⟩ := hq q hp
      have hap : q.apart ops o = true := by simp only [comm3, Bool.and_eq_true] at hcm; exact hcm.1
      obtain ⟨ha1, _, _⟩ := Oper.apart_spec hap
      have h1 : aOp P ops (base + p) q st (fun s1 => aOp P ops (base + i) o s1 (aOpsI P ops base K (l1 ++ l2))) := by
        refine aOp_mono (aOp_keep3 F h') fun s1 ⟨k1, k2, k3, k4, k5, k6⟩ => ?_
        have hpsi1 := hpsi.step hW (by simp) hp k3 k6 (L' := l1 ++ i :: l2) (fun x hx => by simp only [List.mem_cons]; exact .inr hx) (fun x hx hne => by simpa [hne] using hx)
        have ih := front3 hW ho hK l1 s1 (fun p' hp' => ⟨(hc p' (by simp [hp'])).1, fun q' hq' => ?_⟩) (List.pairwise_cons.1 hsrt).2 hpsi1 k1
        · simpa only [aOpsI, ho] using ih
        · obtain ⟨g1, g2⟩ := (hc p' (by simp [hp'])).2 q' hq'
          have hag : agreeOn (o.looksAt ops) s1.s st.s := fun t ht => k3 t fun e => ha1 t e ht
          refine ⟨g1, ⟨g2.ne, fun x hx hd off e => ?_, fun hd => ?_, fun hA => ?_, by rw [k2]; exact g2.dok⟩, fun hA => let ⟨x, hx⟩ := g2.runsL hA; ⟨x, fun nm h => by rw [fVal_agree hag]; exact hx nm h⟩, g2.wL⟩
          · refine g2.look x hx hd off ?_
            rw [← e]
            exact (ev_agree hag x (cl_b hx st.s).1).symm
          · by_cases hqa : isAp q.op = true
            · exact k5 hqa _ (fun e => hpi (by omega)) (g2.free hd)
            have hqw : clOf P q.op ≠ .w := by
              intro e
              simp only [comm3, Bool.and_eq_true, Bool.or_eq_true] at hcm
              rcases hcm.2 with ((h' | h') | h') | h'
              · rw [e, hd] at h'; simp [compat] at h'
              · exact (f_ld3 (P := P) (ops := ops) h' (hpsi.head hsrt hp h')).1 e
              · exact (g2.wL h').2 hd
              · exact hqa h'.1
            rw [k4 hqw _ (fun e => hpi (by omega))]
            exact g2.free hd
          · obtain ⟨x, hx⟩ := g2.runs hA
            exact ⟨x, fun nm h => by rw [fVal_agree hag]; exact hx nm h⟩
      have h2 := swap_ok3 hcm hF (fun e => hpsi.head hsrt hp e) (aOpsI_eqv hK (l1 ++ l2)) h1
      simp only [aOpsI, ho]
      refine aOp_mono h2 fun s1 k => ?_
      simp only [List.cons_append, aOpsI, hp]
      exact k

/-- the check of a region: whatever is not bound to an order commutes -/
def drawOK3 (F : List Nat) (P : Program) (ops : Array Oper) : Bool :=
  let m := ancGo [] ops.toList
  (List.range ops.size).all fun i => match ops[i]? with
    | none => false
    | some o => (((match o.dst with | some d => !F.contains d && (!fpSlot F ops d || isFA F o) | none => true) && (match ldSlot o.op with | some t => !fpSlot F ops t || F.contains t || (List.range i).any (fun j => match ops[j]? with | some q => isFA F q && q.dst == some t | none => false) | none => true)) && (o.after.toList.all fun e => !Region.binds .any e || decide (e.on < i))) &&
      (List.range i).all fun p => (m.getD i 0).testBit p || (match ops[p]? with | some q => comm3 F P ops q o | none => false)

section
variable {F : List Nat} {P : Program} {ops : Array Oper}

theorem drawOK3_edge (h : drawOK3 F P ops = true) {i : Nat} {o : Oper} (ho : ops[i]? = some o) : ∀ e ∈ o.after, Region.binds .any e = true → e.on < i := by
  intro e he hb
  have hi : i < ops.size := (Array.getElem?_eq_some_iff.1 ho).1
  have := List.all_eq_true.1 h i (by simpa using hi)
  rw [ho] at this
  simp only [Bool.and_eq_true] at this
  have := List.all_eq_true.1 this.1.2 e (by simpa using he)
  simpa [hb] using this
theorem drawOK3_comm (h : drawOK3 F P ops = true) {i p : Nat} {o q : Oper} (ho : ops[i]? = some o) (hq : ops[p]? = some q) (hp : p < i) (hn : ((ancGo [] ops.toList).getD i 0).testBit p = false) : comm3 F P ops q o = true := by
  have hi : i < ops.size := (Array.getElem?_eq_some_iff.1 ho).1
  have := List.all_eq_true.1 h i (by simpa using hi)
  rw [ho] at this
  simp only [Bool.and_eq_true] at this
  have := List.all_eq_true.1 this.2 p (by simpa using hp)
  rw [hn, hq] at this
  simpa using this

theorem drawOK3_w (h : drawOK3 F P ops = true) : WOk F ops := fun i o ho d hd => by
  have hi : i < ops.size := (Array.getElem?_eq_some_iff.1 ho).1
  have := List.all_eq_true.1 h i (by simpa using hi)
  rw [ho] at this
  simp only [Bool.and_eq_true] at this
  have := this.1.1.1
  rw [hd] at this
  simp only [Bool.and_eq_true, Bool.or_eq_true, Bool.not_eq_true'] at this
  refine ⟨fun e => by have := this.1; simp [e] at this, fun e => ?_⟩
  rcases this.2 with h' | h'
  · rw [e] at h'; cases h'
  · exact h'
theorem drawOK3_psi (h : drawOK3 F P ops = true) {s : List (Nat × AV)} (hfp : FpOk F s) : Psi F ops s (List.range ops.size) := ⟨hfp, fun i _ o ho hl => by
  have hi : i < ops.size := (Array.getElem?_eq_some_iff.1 ho).1
  have := List.all_eq_true.1 h i (by simpa using hi)
  rw [ho] at this
  simp only [Bool.and_eq_true] at this
  have := this.1.1.2
  unfold isLd3 at hl
  cases e : ldSlot o.op with
  | none => rw [e] at hl; cases hl
  | some t =>
    rw [e] at hl this
    simp only [Bool.or_eq_true, Bool.not_eq_true', List.any_eq_true, List.mem_range] at this
    rcases this with (h' | h') | ⟨j, hj, h'⟩
    · simp only at hl; rw [hl] at h'; cases h'
    · exact .inl fun t' ht' => by rw [e] at ht'; cases ht'; exact hfp t (by simpa using h')
    · split at h'
      · rename_i q hq
        simp only [Bool.and_eq_true, beq_iff_eq] at h'
        exact .inr ⟨j, by simp; omega, hj, q, hq, h'.1, h'.2⟩
      · cases h'⟩
theorem any_ok3 (r : Option Nat) (hok : drawOK3 F P ops = true) {w0 : World} {G0 : Gh} {fl base : Nat} (hfl : fl ≤ base) {K : St → Prop} (hK : ∀ a b, Eqv a b → K a → K b) {Q : Exit → Act → World → Prop}
    (hQ : ∀ G st a w, RSim w0 G0 fl base [] G st a w → K st → Q .normal a w) : ∀ (fuel : Nat) (rem : List Nat) (listed : Array Bool) (G : Gh) (st : St) (a : Act) (w : World),
    rem.length ≤ fuel → rem.Pairwise (· < ·) → listed.size = ops.size → (∀ j, j ∈ rem ↔ j < ops.size ∧ listed.getD j true = false) →
    (∀ (i : Nat) o, ops[i]? = some o → listed.getD i false = true → ∀ e ∈ o.after, Region.binds .any e = true → listed.getD e.on false = true) →
    RSim w0 G0 fl base rem G st a w → Psi F ops st.s rem → aOpsI P ops base K rem st → wpAnyIn (FR r) 0 P .any ops Q fuel listed a w := by
  intro fuel
  induction fuel with
  | zero =>
    intro rem listed G st a w hf hs hsz hr hd S hpsi h
    have : rem = [] := List.length_eq_zero_iff.1 (by omega)
    subst this
    refine ⟨?_, hQ G st a w S h⟩
    cases hrd : Region.ready .any ops listed with
    | nil => rfl
    | cons i r =>
      obtain ⟨h1, h2, _⟩ := ready_mem (by rw [hrd]; simp : i ∈ Region.ready .any ops listed)
      have := (hr i).2 ⟨h1, h2⟩
      simp at this
  | succ fuel ih =>
    intro rem listed G st a w hf hs hsz hr hd S hpsi h
    refine ⟨fun hnil => ?_, fun i hi => ?_⟩
    · cases rem with
      | nil => exact hQ G st a w S h
      | cons i r =>
        -- the first of what remains is ready
        exfalso
        obtain ⟨hi1, hi2⟩ := (hr i).1 (by simp)
        have hready : i ∈ Region.ready .any ops listed := by
          simp only [Region.ready, List.mem_filter, List.mem_range, Bool.and_eq_true, Bool.not_eq_true']
          refine ⟨hi1, hi2, ?_⟩
          rw [Array.getElem?_eq_getElem hi1]
          simp only [Option.map_some, Option.getD_some]
          refine Array.all_eq_true_iff_forall_mem.2 fun e he => ?_
          by_cases hb : Region.binds .any e = true
          · have hlt := drawOK3_edge hok (Array.getElem?_eq_getElem hi1) e he hb
            have : listed.getD e.on false = true := by
              have hne : e.on ∉ i :: r := by
                intro hm
                rcases List.mem_cons.1 hm with h' | h'
                · omega
                · have := (List.pairwise_cons.1 hs).1 _ h'; omega
              have h3 : ¬ (e.on < ops.size ∧ listed.getD e.on true = false) := fun h' => hne ((hr _).2 h')
              have hlt2 : e.on < listed.size := by omega
              simp only [Array.getD_eq_getD_getElem?, Array.getElem?_eq_getElem hlt2, Option.getD_some] at h3 ⊢
              cases hv : listed[e.on] with
              | true => rfl
              | false => exact absurd ⟨by omega, hv⟩ h3
            simp [this]
          · simp [hb]
        rw [hnil] at hready
        cases hready
    · obtain ⟨h1, h2, o, ho, h3⟩ := ready_mem hi
      have hmem := (hr i).2 ⟨h1, h2⟩
      obtain ⟨l1, l2, hl⟩ := List.append_of_mem hmem
      subst hl
      have hnd : (l1 ++ i :: l2).Nodup := hs.imp (fun h => Nat.ne_of_lt h)
      have hpw := List.pairwise_append.1 hs
      -- what stands ahead of i commutes with it
      have hcomm : ∀ p ∈ l1, ∀ q, ops[p]? = some q → comm3 F P ops q o = true := by
        intro p hp q hq
        have hpi : p < i := hpw.2.2 p hp i (by simp)
        refine drawOK3_comm hok ho hq hpi ?_
        have hgood := anc_good (ops := ops.toList) (listed := fun j => listed.getD j false = true) (fun j o' hj hl e he hb => hd j o' (by simpa using hj) hl e he hb) ops.toList [] rfl (by simp) (fun j m hm => by simp at hm)
        cases hb : ((ancGo [] ops.toList).getD i 0).testBit p with
        | false => rfl
        | true =>
          exfalso
          have hlen : i < (ancGo [] ops.toList).length := by rw [ancGo_length]; simpa using h1
          rw [List.getD_eq_getElem?_getD, List.getElem?_eq_getElem hlen] at hb
          have hlp := hgood i _ (List.getElem?_eq_getElem hlen) o (by simpa using ho) h3 p (by simpa using hb)
          obtain ⟨p1, p2⟩ := (hr p).1 (by simp [hp])
          have hps : p < listed.size := by omega
          simp only [Array.getD_eq_getD_getElem?, Array.getElem?_eq_getElem hps, Option.getD_some] at hlp p2
          rw [p2] at hlp; cases hlp
      have hTd : ∀ p ∈ l1, ∀ q, ops[p]? = some q → ∀ d, q.dst = some d → d ∉ o.looksAt ops := by
        intro p hp q hq d hd'
        have := hcomm p hp q hq
        simp only [comm3, Bool.and_eq_true] at this
        exact (Oper.apart_spec this.1).1 d hd'
      obtain ⟨st1, r1, r2, r2p, r3⟩ := real_run3 (drawOK3_w hok) hfl l1 S hnd hTd hpsi h
      simp only [aOpsI, ho] at r3
      have hfacts : ∀ p ∈ l1, p ≠ i ∧ ∀ q, ops[p]? = some q → comm3 F P ops q o = true ∧ Facts3 F P ops st (base + p) (base + i) q o := by
        intro p hp
        have hpi : p < i := hpw.2.2 p hp i (by simp)
        refine ⟨by omega, fun q hq => ⟨hcomm p hp q hq, ⟨by omega, fun x hx hcd off e => ?_, fun hcd => ?_, fun hca => ?_, by rw [← r1]; exact r3.1⟩, fun hca => ?_, fun hca => ?_⟩⟩
        · have := ev_ok S.sim.slots x
          rw [e] at this
          simp only [Rv] at this
          obtain ⟨_, _, _, hreg, _⟩ := this
          rw [(S.names p (by simp [hp])).1] at hreg; cases hreg
        · cases hh : st.h (base + i) with
          | none => rfl
          | some ob =>
            obtain ⟨_, hreg⟩ := (S.sim.inv.obj _ _ hh).hasReg
            rw [(S.names i (by simp)).1] at hreg; cases hreg
        · obtain ⟨X, hX⟩ := f_a (ops := ops) hca st.s
          have hv := r3.2
          rw [aVal_f (by rw [hca]; simp), fVal_agree (s' := st.s) (fun t ht => r2 t ht), hX] at hv
          cases X with
          | none => exact hv.elim
          | some x => exact ⟨x, fun nm h => by rw [hX]; rfl⟩
        · obtain ⟨hw, _, _, X, hX⟩ := f_ld3 (P := P) (ops := ops) hca (r2p.head (List.pairwise_append.1 hs).2.1 ho hca)
          have hv := r3.2
          rw [aVal_f hw, hX] at hv
          cases X with
          | none => exact hv.elim
          | some x => exact ⟨x, fun nm h => by rw [← fVal_agree (s := st1.s) (fun t ht => r2 t ht), hX]; rfl⟩
        · obtain ⟨hw, _, hd2, _⟩ := f_ld3 (P := P) (ops := ops) hca (r2p.head (List.pairwise_append.1 hs).2.1 ho hca)
          exact ⟨hw, hd2⟩
      have hfr := front3 (drawOK3_w hok) ho hK l1 st hfacts hs hpsi h
      simp only [aOpsI, ho] at hfr
      have hmove : ∀ j, j ∈ i :: (l1 ++ l2) → j ∈ l1 ++ i :: l2 := by
        intro j hj
        simp only [List.mem_cons, List.mem_append] at hj ⊢
        rcases hj with rfl | hj | hj
        · exact .inr (.inl rfl)
        · exact .inl hj
        · exact .inr (.inr hj)
      have hnotin : i ∉ l1 ++ l2 := by
        intro hm
        have hnd2 := List.nodup_append.1 hnd
        rcases List.mem_append.1 hm with h' | h'
        · exact hnd2.2.2 i h' i (by simp) rfl
        · exact (List.nodup_cons.1 hnd2.2.1).1 h'
      have hres := op_ok (Q := Q) (S.sub hmove) hfl hnotin (aOp_keep3 F hfr) (next := wpAnyIn (FR r) 0 P .any ops Q fuel (listed.setIfInBounds i true)) ?_ r
      · unfold wpOpIn
        rw [ho]
        simp only
        split at hres
        · rename_i hw; rw [if_pos hw]; exact hres
        · rename_i hw; rw [if_neg hw]; exact hres
      · intro G' st' a' w' S' h'
        have hsize : (listed.setIfInBounds i true).size = listed.size := by simp
        have hget : ∀ (j : Nat) (d : Bool), (listed.setIfInBounds i true).getD j d = if j = i then (if i < listed.size then true else d) else listed.getD j d := by
          intro j d
          simp only [Array.getD_eq_getD_getElem?, Array.getElem?_setIfInBounds]
          by_cases hji : i = j
          · subst hji; by_cases hh : i < listed.size <;> simp [hh]
          · rw [if_neg hji, if_neg (Ne.symm hji)]
        have hil : i < listed.size := by omega
        refine ih (l1 ++ l2) _ G' st' a' w' ?_ ?_ ?_ (fun j => ?_) (fun j o' hj hl e he hb => ?_) S' (hpsi.step (drawOK3_w hok) (by simp) ho h'.2.2.1 h'.2.2.2.2.2 (fun x hx => by simp only [List.mem_append, List.mem_cons] at hx ⊢; rcases hx with h | h; exact .inl h; exact .inr (.inr h)) (fun x hx hne => by simp only [List.mem_append, List.mem_cons] at hx ⊢; rcases hx with h | h | h; exact .inl h; exact absurd h hne; exact .inr h)) h'.1
        · simp only [List.length_append, List.length_cons] at hf ⊢; omega
        · exact List.pairwise_append.2 ⟨hpw.1, (List.pairwise_cons.1 hpw.2.1).2, fun x hx y hy => hpw.2.2 x hx y (by simp [hy])⟩
        · rw [hsize]; exact hsz
        · rw [hget]
          have hrj := hr j
          by_cases hji : j = i
          · subst hji
            simp only [if_true, hil]
            constructor
            · intro hm; exact absurd hm hnotin
            · rintro ⟨_, hc⟩; cases hc
          · rw [if_neg hji, ← hrj]
            simp only [List.mem_append, List.mem_cons]
            constructor
            · rintro (h' | h')
              · exact .inl h'
              · exact .inr (.inr h')
            · rintro (h' | h' | h')
              · exact .inl h'
              · exact absurd h' hji
              · exact .inr h'
        · rw [hget] at hl ⊢
          by_cases hei : e.on = i
          · simp [hei, hil]
          · rw [if_neg hei]
            by_cases hji : j = i
            · subst hji
              rw [ho] at hj; cases hj
              exact h3 e he hb
            · rw [if_neg hji] at hl
              exact hd j o' hj hl e he hb

/-- A region that draws its order is run in the text's order. -/
theorem ac_draw3 {fl : Nat} {Q : Exit → St → Prop} {st : St} {id : Nat} (hm : P.follows .mixedOrders = true) (hok : drawOK3 F P ops = true) (hfp : FpOk F st.s) (h : aOpsI P ops st.n (Q .normal) (List.range ops.size) { st with n := st.n + ops.size }) : ACode P fl (.region id ops true) Q st := by
  intro r w0 G a w hr S hf
  have S' : Sim w0 G st a w.drew := ⟨S.inv.drew, S.size, S.defers, S.slots, S.fresh⟩
  have hQ : ∀ (G' : Gh) (s : St) (a' : Act) (w' : World), RSim w0 G fl st.n [] G' s a' w' → (∃ s0, Eqv s0 s ∧ Q .normal s0) → ∃ G'' st', Ext fl G G'' ∧ fl ≤ st'.n ∧ Sim w0 G'' st' a' w' ∧ Q .normal st' := by
    rintro G' s a' w' S1 ⟨s0, e1, e2⟩
    exact ⟨G', s0, S1.ext, by rw [e1.2.2.1]; exact S1.lim, ⟨by rw [e1.2.1]; exact S1.sim.inv, by rw [e1.1]; exact S1.sim.size, S1.sim.defers, fun t => by rw [e1.2.2.2]; exact S1.sim.slots t, by rw [e1.2.2.1]; exact S1.sim.fresh⟩, e2⟩
  refine wpIn_region_any hm (any_ok3 r hok (base := st.n) (G0 := G) (w0 := w0) hf (K := fun s => ∃ s0, Eqv s0 s ∧ Q .normal s0) (fun a b e ⟨s0, e1, e2⟩ => ⟨s0, e1.trans e, e2⟩) hQ ops.size (List.range ops.size) (Array.replicate ops.size false) G _ a w.drew
    (by simp) List.pairwise_lt_range (by simp) (fun j => ?_) (fun i o ho hl => ?_) (region_start S' hf ops.size _ (fun j hj => by simpa using hj)) (drawOK3_psi hok hfp) (aOpsI_mono (fun s hs => ⟨s, Eqv.refl s, hs⟩) _ _ h))
  · simp only [List.mem_range]
    constructor
    · intro hj; exact ⟨hj, by simp [Array.getD_eq_getD_getElem?, hj]⟩
    · exact fun h => h.1
  · exfalso
    have hi : i < ops.size := (Array.getElem?_eq_some_iff.1 ho).1
    simp [Array.getD_eq_getD_getElem?, hi] at hl
end

theorem ac_draw3_h (F : List Nat) {P : Program} {fl : Nat} {Q : Exit → St → Prop} {st : St} {id : Nat} {ops : Array Oper} (hm : P.follows .mixedOrders = true) (hok : drawOK3 F P ops = true) (hfp : FpOk F st.s) (h : ∀ K : St → Prop, Hide (∀ s, Q .normal s → K s) → aOps P ops st.n K 0 ops.toList { st with n := st.n + ops.size }) : ACode P fl (.region id ops true) Q st := by
  refine ac_draw3 hm hok hfp ?_
  have := aOps_aOpsI ops.toList 0 rfl _ (h _ fun _ h => h)
  rwa [← List.range_eq_range', Array.length_toList] at this
end Go.AM

namespace Go.AM
open Go.RowKit
/-- less is said of one slot -/
theorem ac_slot {P : Program} {fl : Nat} {code : Code} {Q : Exit → St → Prop} {st : St} {t : Nat} {x : AV} (hw : ∀ G v, Rv G (get st.s t) v → Rv G x v)
    (h : ACode P fl code Q { st with s := (t, x) :: st.s }) : ACode P fl code Q st := by
  intro r w0 G a w hr S hf
  refine h r w0 G a w hr ⟨S.inv, S.size, S.defers, fun t' => ?_, S.fresh⟩ hf
  simp only [get]
  by_cases e : t' = t
  · subst e; rw [if_pos rfl]; exact hw _ _ (S.slots t')
  · rw [if_neg e]; exact S.slots t'
/-- an owned row is frozen: the slot holds it by value from there on -/
theorem ac_fzslc {P : Program} {fl : Nat} {code : Code} {Q : Exit → St → Prop} {st : St} {t m len s : Nat} {c : List AV} (agg : Bool) (has : agg = false → s = 1) (hm : st.h m = some (.cells c)) (ht : get st.s t = .slc m 0 len s) (hl : len * s ≤ c.length)
    (h : ACode P fl code Q { st with s := (t, .fslc false false s (elems agg s len c)) :: st.s, h := st.h.upd m none }) : ACode P fl code Q st := by
  intro r w0 G a w hr S hf
  obtain ⟨rg, hreg⟩ := (S.inv.obj m _ hm).hasReg
  have hle := Gh.le_freeze S.inv hm hreg
  have hx : Ext fl G (G.freeze w rg) := ⟨fun _ _ => rfl, hle.imm, ⟨[], rfl⟩, rfl, fun _ e => e⟩
  refine wpIn_mono (h r w0 (G.freeze w rg) a w hr ⟨S.inv.freeze hm hreg, S.size, S.defers, fun t' => ?_, S.fresh⟩ hf) fun _ _ _ ⟨G', st', e1, e2⟩ => ⟨G', st', hx.trans e1, e2⟩
  simp only [get]
  by_cases e : t' = t
  · subst e
    rw [if_pos rfl]
    have hv := S.slots t'
    rw [ht] at hv
    have := freeze_slc S.inv hm hreg agg has (off := 0) (len := len) (by omega) hv
    simpa using this
  · rw [if_neg e]; exact (S.slots t').mono hle.v _ _

mutual
/-- a value with an owned row frozen, however deep it lies -/
def fzD (m : Nat) (c : List AV) (agg : Bool) : AV → AV
  | .slc n off len s => if n = m ∧ off + len * s ≤ c.length ∧ (agg = false → s = 1) then .fslc false false s (elems agg s len (c.drop off)) else .slc n off len s
  | .agg l => .agg (fzDL m c agg l)
  | .tup l => .tup (fzDL m c agg l)
  | x => x
def fzDL (m : Nat) (c : List AV) (agg : Bool) : List AV → List AV
  | [] => []
  | x :: r => fzD m c agg x :: fzDL m c agg r
end
mutual
theorem fzD_ok {w0 : World} {G : Gh} {h : AHeap} {w : World} (I : Inv w0 G h w) {m : Nat} {c : List AV} (hm : h m = some (.cells c)) {r : Nat × Nat × Nat} (hr : G.reg m = some r) (agg : Bool) : ∀ (x : AV) (v : Value), Rv G x v → Rv (G.freeze w r) (fzD m c agg x) v
  | .slc n off len s, v, hv => by
    simp only [fzD]
    split
    · rename_i hc
      obtain ⟨rfl, h1, h2⟩ := hc
      exact freeze_slc I hm hr agg h2 h1 hv
    · exact hv.mono (Gh.le_freeze I hm hr).v
  | .agg l, v, hv => by
    simp only [fzD, Rv] at hv ⊢
    obtain ⟨vs, e, h⟩ := hv
    exact ⟨vs, e, fzDL_ok I hm hr agg l _ h⟩
  | .tup l, v, hv => by
    simp only [fzD, Rv] at hv ⊢
    obtain ⟨vs, e, h⟩ := hv
    exact ⟨vs, e, fzDL_ok I hm hr agg l _ h⟩
  | .undef, v, hv | .c _, v, hv | .ptr _ _, v, hv | .fptr _, v, hv | .fslc _ _ _ _, v, hv | .map _, v, hv | .func _ _ _, v, hv | .iface _ _, v, hv | .chan _, v, hv | .yld _, v, hv => by
    simp only [fzD]; exact hv.mono (Gh.le_freeze I hm hr).v
theorem fzDL_ok {w0 : World} {G : Gh} {h : AHeap} {w : World} (I : Inv w0 G h w) {m : Nat} {c : List AV} (hm : h m = some (.cells c)) {r : Nat × Nat × Nat} (hr : G.reg m = some r) (agg : Bool) : ∀ (l : List AV) (vs : List Value), RvL G l vs → RvL (G.freeze w r) (fzDL m c agg l) vs
  | [], vs, hv => by simpa [RvL, fzDL] using hv
  | x :: l, vs, hv => by
    simp only [RvL] at hv
    obtain ⟨v, vr, rfl, h1, h2⟩ := hv
    simp only [fzDL, RvL]
    exact ⟨v, vr, rfl, fzD_ok I hm hr agg x v h1, fzDL_ok I hm hr agg l vr h2⟩
end
theorem ret_fzD {fl : Nat} {K : AV → AHeap → Nat → Prop} {x : AV} {h : AHeap} {n : Nat} {m : Nat} {c : List AV} (agg : Bool) (hm : h m = some (.cells c)) (hk : RetOk fl K (fzD m c agg x) (h.upd m none) n) : RetOk fl K x h n := by
  refine ret_step (fun w0 G w v I f hr hl => ?_) hk
  obtain ⟨r, hreg⟩ := (I.obj m _ hm).hasReg
  have hle := Gh.le_freeze I hm hreg
  exact ⟨G.freeze w r, ⟨⟨fun _ _ => rfl, hle.imm, ⟨[], rfl⟩, rfl, fun _ e => e⟩, rfl⟩, I.freeze hm hreg, f, fzD_ok I hm hreg agg _ _ hr, hl⟩

/-- What append has made so far, elements by value: a slice and where its cells lie. -/
def acV (s m : Nat) (L : List AV) : AV := if L = [] then .fslc true true 0 [] else .slc m 0 L.length s
def acO (L : List AV) : Option AObj := if L = [] then none else some (.cells (flat L))
theorem ac_nil (s m : Nat) : acV s m [] = .fslc true true 0 [] := rfl
theorem acV_ne {s m : Nat} {L : List AV} (h : L ≠ []) : acV s m L = .slc m 0 L.length s := by rw [acV, if_neg h]
theorem acO_ne {L : List AV} (h : L ≠ []) : acO L = some (.cells (flat L)) := by rw [acO, if_neg h]
theorem upd_none_eq {h : AHeap} {m : Nat} (hm : h m = none) : h.upd m none = h := by
  funext k; by_cases e : k = m
  · subst e; rw [upd_same, hm]
  · rw [upd_ne _ _ _ _ e]
theorem flat_append (a b : List AV) : flat (a ++ b) = flat a ++ flat b := by simp [flat]
theorem flat_len {s : Nat} : ∀ {L : List AV}, (∀ x ∈ L, (cellsOf x).length = s) → (flat L).length = L.length * s
  | [], _ => by simp [flat]
  | x :: r, h => by
    have := flat_len (L := r) fun y hy => h y (by simp [hy])
    simp only [flat, List.map_cons, List.flatten_cons, List.length_append] at this ⊢
    rw [this, h x (by simp), List.length_cons, Nat.succ_mul]; omega
/-- append to what append has made so far -/
theorem ap_ac {P : Program} {T e s by_ : Nat} {z : AV} (e1 : eltOf P T = some e) (e2 : szOf P e = some s) (e3 : byOf P e = some by_) (e4 : zerOf P e = some z) (hz : 0 < s ∧ (cellsOf z).length = s ∧ (cellsOf z).all AV.scalar = true ∧ by_ ≤ 2 ^ 20)
    {nm m : Nat} {L : List AV} {X : List AV} {nl full : Bool} {h : AHeap} (hm : h m = acO L) (hL : ∀ x ∈ L, (cellsOf x).length = s) (hX : X ≠ []) (hl : L.length + X.length ≤ 67108864) :
    aAppend P nm T (acV s m L) (.fslc nl full s X) h = some (acV s nm (L ++ X), (h.upd m none).upd nm (acO (L ++ X))) := by
  have hne : L ++ X ≠ [] := by simp [hX]
  have hX0 : X.length ≠ 0 := by simpa using hX
  have e26 : (2 : Nat) ^ 26 = 67108864 := by decide
  unfold aAppend
  rw [e1]; simp only [e2, e3, e4]
  rw [if_pos hz]
  simp only [srcCells, if_true]
  rw [acV_ne hne, acO_ne hne, flat_append]
  by_cases h0 : L = []
  · subst h0
    have hm' : h m = none := hm
    rw [upd_none_eq hm', ac_nil]
    have hnl : ¬ (X.length = 0) := hX0
    simp only [List.length_nil, Nat.zero_add] at hl
    have : X.length ≤ 2 ^ 26 := by rw [e26]; exact hl
    simp [hX, flat, this]
  · rw [acV_ne h0]
    rw [acO_ne h0] at hm
    have hfl := flat_len hL
    have : L.length + X.length ≤ 2 ^ 26 := by rw [e26]; exact hl
    have hnot : ¬ (0 + (L.length + X.length) * s ≤ (flat L).length) := by
      rw [hfl, Nat.add_mul]
      have := Nat.mul_pos (Nat.pos_of_ne_zero hX0) hz.1
      omega
    have hc : 0 + L.length * s = (flat L).length := by rw [hfl]; omega
    simp only [if_true, hm]
    rw [if_neg hnot, if_pos ⟨hc, this⟩]
    simp
/-- a row that append made, frozen: by value from there on -/
theorem ac_fzac {P : Program} {fl : Nat} {code : Code} {Q : Exit → St → Prop} {st : St} {t m s : Nat} {L : List AV} (agg : Bool) (has : agg = false → s = 1) (hm : st.h m = acO L) (ht : get st.s t = acV s m L) (hL : ∀ x ∈ L, (cellsOf x).length = s) (he : elems agg s L.length (flat L) = L)
    (h : ACode P fl code Q { st with s := (t, .fslc L.isEmpty false s L) :: st.s, h := st.h.upd m none }) : ACode P fl code Q st := by
  by_cases h0 : L = []
  · subst h0
    have e : st.h.upd m none = st.h := upd_none_eq hm
    rw [e] at h
    refine ac_slot (t := t) (fun G v hv => ?_) h
    rw [ht, ac_nil] at hv
    simp only [Rv] at hv ⊢
    obtain ⟨a, cap, k1, k2, k3, k4, k5⟩ := hv
    exact ⟨a, cap, k1, k2, by simp, fun _ => k4 trivial, by simp⟩
  · have hemp : L.isEmpty = false := by simpa using h0
    rw [acV_ne h0] at ht
    rw [acO_ne h0] at hm
    refine ac_fzslc agg has hm ht (by rw [flat_len hL]; omega) ?_
    rw [he]
    rw [hemp] at h
    exact h
end Go.AM

namespace Go.AM
open Go.RowKit
def eqPlan (P : Program) (t : TypeId) : Option (List (Nat × Sk)) :=
  match P.underlying t with
  | some (.struct fs) => if P.stoodInHeld t = false ∧ P.eqGuardType P.depth t = false ∧ fs.toList.all (fun f => f.name != "_") = true then some (fs.toList.map fun f => (f.offset, skOf P f.type)) else none
  | _ => none
def planEq (xs ys : List AV) : List (Nat × Sk) → Option Bool
  | [] => some true
  | (o, k) :: r => match xs[o]?, ys[o]? with
    | some x, some y => match cellEq k x y with
      | some true => planEq xs ys r
      | some false => some false
      | none => none
    | _, _ => none
theorem fldEq_plan {P : Program} {xs ys : List AV} : ∀ {fs : List Field}, fs.all (fun f => f.name != "_") = true → fldEq P xs ys fs = planEq xs ys (fs.map fun f => (f.offset, skOf P f.type))
  | [], _ => rfl
  | f :: fs, h => by
    simp only [List.all_cons, Bool.and_eq_true, bne_iff_ne, ne_eq] at h
    simp only [fldEq, List.map_cons, planEq]
    rw [if_neg h.1, fldEq_plan (by simpa using h.2)]
    cases xs[f.offset]? with
    | none => rfl
    | some x =>
      cases ys[f.offset]? with
      | none => rfl
      | some y =>
        simp only
        cases cellEq (skOf P f.type) x y with
        | none => rfl
        | some b => cases b <;> rfl
theorem aggEq_plan {P : Program} {t : TypeId} {l : List (Nat × Sk)} (h : eqPlan P t = some l) (xs ys : List AV) : aggEq P t xs ys = planEq xs ys l := by
  unfold eqPlan at h
  unfold aggEq
  split at h
  · rename_i fs hu
    split at h
    · rename_i hc
      simp only [Option.some.injEq] at h
      rw [hu]
      simp only
      rw [if_pos ⟨hc.1, hc.2.1⟩, fldEq_plan hc.2.2, h]
    · cases h
  · cases h
end Go.AM

namespace Nets
open Go.AM
theorem wayE_eq (N : Net) (s to t : Int) : wayE N s to t (askedE N t [s, to]) = (arrivesR N s to t (askedE N t [s])).2 := by
  rw [askedE2_eq]
  unfold askedE2 arrivesR wayE
  by_cases hE : askedE N t [s] = 0
  · obtain ⟨hC, hs, t0, t1⟩ := asked_zero hE
    obtain ⟨h0, h1⟩ := hs s (by simp)
    rw [arr_eq hC h0 h1 t0 t1]
    simp only [hE, if_true, ne_eq, not_true_eq_false, if_false]
    cases hb : bad N to <;> simp
    split <;> rfl
  · simp [hE]
theorem way_ok (N : Net) (s to t : Int) (h : wayE N s to t (askedE N t [s, to]) = 0) :
    checkWay N s to t (askedE N t [s, to]) (wayH N s to t (askedE N t [s, to])) = ((arrivesR N s to t (askedE N t [s])).1, 0) ∧ (wayH N s to t (askedE N t [s, to])).length ≤ 10 := by
  have h0 := h
  unfold wayE at h
  by_cases hE : askedE N t [s, to] = 0
  · rw [if_neg (by simp [hE])] at h
    split at h
    · cases h
    · rename_i hr
      obtain ⟨hC, hs, t0, t1⟩ := asked_zero hE
      obtain ⟨s0, s1⟩ := hs s (by simp)
      obtain ⟨k0, k1⟩ := hs to (by simp)
      have hE2 : askedE N t [s] = 0 := by
        have := askedE2_eq N s to t
        rw [hE] at this
        unfold askedE2 at this
        by_cases hz : askedE N t [s] = 0
        · exact hz
        · rw [if_neg hz] at this; exact absurd this.symm hz
      obtain ⟨w1, w2⟩ := wayP_ok hC s0 s1 k0 k1 t0 t1 (by omega)
      have hb : bad N to = false := by simp [bad, within]; omega
      rw [wayH, if_pos h0, hE]
      refine ⟨?_, w1⟩
      rw [checkWay, if_neg (by simp), cwE, if_neg (by omega), w2]
      simp only [if_true]
      rw [arrivesR, if_neg (by simp [hE2]), if_neg (by simp [hb]), if_neg (by rw [← arr_eq hC s0 s1 t0 t1]; exact hr), arr_eq hC s0 s1 t0 t1]
  · exfalso
    rw [if_pos hE] at h; exact hE h
theorem way_none (N : Net) (s to t e : Int) (h : wayE N s to t e ≠ 0) : wayH N s to t e = [] := by rw [wayH, if_neg h]
end Nets

namespace Nets
theorem cbE_zero {N : Net} {s t : Int} {b : List Int} (h : cbE N s t b = 0) : (b.length : Int) = N.st ∧ Vals b ∧ 0 ≤ at' b s ∧ at' b s ≤ t ∧ ∀ x ∈ N.links, cbStep b x = true := by
  unfold cbE at h
  split at h
  · cases h
  · rename_i h1
    split at h
    · cases h
    · rename_i h2
      split at h
      · cases h
      · rename_i h3
        split at h
        · rename_i h4
          simp only [Bool.not_eq_false, within, Bool.and_eq_true, decide_eq_true_eq] at h3
          exact ⟨by simpa using h1, Go.AM.vals_of_any (Bool.eq_false_iff.2 h2), h3.1, h3.2, List.all_eq_true.1 h4⟩
        · cases h
theorem cw_bound {N : Net} {b : List Int} (hok : ∀ l ∈ N.links, LOk N.st l) (hc : ∀ x ∈ N.links, cbStep b x = true) : ∀ (l : List Hop) (v0 now v m : Int), 0 ≤ at' b v0 → at' b v0 ≤ now → cwGo N.links v0 now l = some (v, m) → 0 ≤ at' b v ∧ at' b v ≤ m
  | [], v0, now, v, m, h0, h1, h => by
    simp only [cwGo, Option.some.injEq, Prod.mk.injEq] at h
    obtain ⟨rfl, rfl⟩ := h
    exact ⟨h0, h1⟩
  | x :: r, v0, now, v, m, h0, h1, h => by
    simp only [cwGo] at h
    split at h
    · cases h
    · split at h
      · cases h
      · rename_i y hy
        have hym := List.mem_of_getElem? hy
        have hlm := hok y hym
        split at h
        · cases h
        · rename_i h2
          split at h
          · cases h
          · rename_i h3
            have hfr : y.fr = v0 := Decidable.byContradiction fun e => h2 (.inl e)
            have htk : ¬ x.tick < now := fun e => h2 (.inr e)
            have hl2 : (leave y x.tick).2 = true := by
              cases e : (leave y x.tick).2
              · exact absurd (.inl e) h3
              · rfl
            have hl1 : (leave y x.tick).1 = x.tick := Decidable.byContradiction fun e => h3 (.inr e)
            obtain ⟨m1, m2⟩ := leave_mono hlm.ok (show at' b v0 ≤ x.tick by omega) hl2
            have hs := hc y hym
            unfold cbStep at hs
            rw [hfr, if_neg (by omega), m1] at hs
            simp only [Bool.true_and, Bool.not_not, within, Bool.and_eq_true, decide_eq_true_eq] at hs
            exact cw_bound hok hc r y.to _ v m hs.1 (by omega) h
theorem arr_bounds {N : Net} {s t : Int} (hC : checkE N = 0) (h0 : 0 ≤ s) (h1 : s < N.st) (t0 : 0 ≤ t) (t1 : t ≤ 1048576) : cbE N s t (arrP N s t).out = 0 := by
  obtain ⟨W, _⟩ := arrP_spec hC h0 h1 t0 t1
  obtain ⟨s1, s2, _, hok⟩ := checkE_ok hC
  have F := arrP_fix hC h0 h1 t0 t1
  have hlo := W.ok.lo
  have hst := W.start
  unfold cbE
  rw [if_neg (by omega), if_neg ?_, if_neg (by simp [within]; omega), if_pos ?_]
  · refine List.all_eq_true.2 fun x hx => ?_
    unfold cbStep
    split
    · rfl
    · rename_i hf
      cases hl : (leave x (at' (arrP N s t).out x.fr)).2
      · rfl
      · have := F.closed (eE x) (List.mem_map.2 ⟨x, hx, rfl⟩) (show 0 ≤ at' (arrP N s t).out x.fr by omega) ((leave x (at' (arrP N s t).out x.fr)).1 + x.delay) (by simp [eE, hl])
        have this : 0 ≤ at' (arrP N s t).out x.to ∧ at' (arrP N s t).out x.to ≤ (leave x (at' (arrP N s t).out x.fr)).1 + x.delay := this
        simp [within, this]
  · simp only [Bool.not_eq_true, List.any_eq_false]
    intro v hv
    have := W.ok.vals v hv
    simp [within]; omega
/-- accepted bounds are nowhere later than the arrivals -/
theorem bounds_le {N : Net} {s t : Int} {b : List Int} (hC : checkE N = 0) (h0 : 0 ≤ s) (h1 : s < N.st) (t0 : 0 ≤ t) (t1 : t ≤ 1048576) (hb : cbE N s t b = 0) {v : Int} (v0 : 0 ≤ v) (v1 : v < N.st) (hv : 0 ≤ at' (arrP N s t).out v) : 0 ≤ at' b v ∧ at' b v ≤ at' (arrP N s t).out v := by
  obtain ⟨_, _, b0, b1, hc⟩ := cbE_zero hb
  obtain ⟨_, _, _, hok⟩ := checkE_ok hC
  exact cw_bound hok hc _ s t _ _ b0 b1 (wayP_ok hC h0 h1 v0 v1 t0 t1 hv).2
/-- nor later than a way that is accepted -/
theorem bounds_way {N : Net} {s to t : Int} {b : List Int} (hC : checkE N = 0) (hb : cbE N s t b = 0) {l : List Hop} {m : Int} (h : cwE N s to t l = (m, 0)) : 0 ≤ at' b to ∧ at' b to ≤ m := by
  obtain ⟨_, _, b0, b1, hc⟩ := cbE_zero hb
  obtain ⟨_, _, _, hok⟩ := checkE_ok hC
  unfold cwE at h
  split at h
  · cases h
  · split at h
    · cases h
    · rename_i a now hg
      split at h
      · rename_i e
        subst e
        simp only [Prod.mk.injEq, and_true] at h
        subst h
        exact cw_bound hok hc l s t _ _ b0 b1 hg
      · cases h
end Nets

namespace Nets
theorem leaveGo_span {delay d : Int} : ∀ {l : List Span}, leaveGo delay d l = (d, true) → ∃ s ∈ l, s.lo ≤ d ∧ d + delay ≤ s.hi
  | [], h => by simp [leaveGo] at h
  | x :: r, h => by
    simp only [leaveGo] at h
    split at h
    · simp only [Prod.mk.injEq, and_true] at h
      exact ⟨x, by simp, by omega, by omega⟩
    · obtain ⟨s, h1, h2⟩ := leaveGo_span h
      exact ⟨s, by simp [h1], h2⟩
theorem span_leaveGo {delay d : Int} (hd : 1 ≤ delay) : ∀ {l : List Span}, l.Pairwise (fun a b => a.hi < b.lo) → (∃ s ∈ l, s.lo ≤ d ∧ d + delay ≤ s.hi) → leaveGo delay d l = (d, true)
  | [], _, h => by obtain ⟨s, h, _⟩ := h; simp at h
  | x :: r, hp, ⟨s, hs, h1, h2⟩ => by
    obtain ⟨hp1, hp2⟩ := List.pairwise_cons.1 hp
    simp only [leaveGo]
    rcases List.mem_cons.1 hs with rfl | hs
    · rw [if_pos (by omega)]
      simp only [Prod.mk.injEq, and_true]; omega
    · have := hp1 s hs
      rw [if_neg (by omega)]
      exact span_leaveGo hd hp2 ⟨s, hs, h1, h2⟩
theorem lastGo_span {delay t : Int} : ∀ {l : List Span} {d : Int}, lastGo delay t l = (d, true) → ∃ s ∈ l, s.lo ≤ d ∧ d + delay ≤ s.hi
  | [], d, h => by simp [lastGo] at h
  | x :: r, d, h => by
    simp only [lastGo] at h
    split at h
    · simp only [Prod.mk.injEq, and_true] at h
      exact ⟨x, by simp, by omega, by omega⟩
    · obtain ⟨s, h1, h2⟩ := lastGo_span h
      exact ⟨s, by simp [h1], h2⟩
theorem span_lastGo {delay d t : Int} (hd : 1 ≤ delay) (ht : d + delay ≤ t) : ∀ {l : List Span}, l.Pairwise (fun a b => b.hi < a.lo) → (∃ s ∈ l, s.lo ≤ d ∧ d + delay ≤ s.hi) → ∃ d', lastGo delay t l = (d', true) ∧ d ≤ d'
  | [], _, h => by obtain ⟨s, h, _⟩ := h; simp at h
  | x :: r, hp, ⟨s, hs, h1, h2⟩ => by
    obtain ⟨hp1, hp2⟩ := List.pairwise_cons.1 hp
    simp only [lastGo]
    rcases List.mem_cons.1 hs with rfl | hs
    · rw [if_pos (by omega)]
      exact ⟨_, rfl, by omega⟩
    · have := hp1 s hs
      by_cases c : x.lo ≤ min x.hi (max t (-1)) - delay
      · rw [if_pos c]; exact ⟨_, rfl, by omega⟩
      · rw [if_neg c]; exact span_lastGo hd ht hp2 ⟨s, hs, h1, h2⟩
theorem leave_last {l : Link} (hr : right l = true) {d t : Int} (h : leave l d = (d, true)) (ht : d + l.delay ≤ t) : (last l t).2 = true ∧ d ≤ (last l t).1 := by
  unfold leave at h
  rw [if_pos hr] at h
  obtain ⟨s, h1, h2⟩ := leaveGo_span h
  obtain ⟨d', h3, h4⟩ := span_lastGo (right_spans hr).1 ht (List.pairwise_reverse.2 (right_sorted hr)) ⟨s, by simpa using h1, h2⟩
  unfold last
  rw [if_pos hr, h3]; exact ⟨rfl, h4⟩
theorem last_leave {l : Link} (hr : right l = true) {t : Int} (h : (last l t).2 = true) : leave l (last l t).1 = ((last l t).1, true) := by
  unfold last at h ⊢
  rw [if_pos hr] at h ⊢
  obtain ⟨s, h1, h2⟩ := lastGo_span (delay := l.delay) (t := t) (l := l.opn.reverse) (d := (lastGo l.delay t l.opn.reverse).1) (Prod.ext rfl h)
  unfold leave
  rw [if_pos hr]
  exact span_leaveGo (right_spans hr).1 (right_sorted hr) ⟨s, by simpa using h1, h2⟩
section
variable {N : Net} {s to t u : Int} {a b : List Int}
theorem dual_to (hok : ∀ l ∈ N.links, LOk (N.st.toNat : Nat) l) (Fa : Fix kE N.st.toNat (N.links.map eE) s t a) (Fb : Fix kL N.st.toNat (N.links.map eL) to u b) (hv : Vals b) :
    ∀ (f : Nat) (v : Int), 0 ≤ v → v < N.st.toNat → 0 ≤ at' a v → at' a v ≤ at' b v → (1048576 - at' b v).toNat < f → 0 ≤ at' a to ∧ at' a to ≤ u
  | 0, v, _, _, _, _, h => by omega
  | f + 1, v, v0, v1, h0, h1, h2 => by
    by_cases hvt : v = to
    · subst hvt; rw [← Fb.start]; exact ⟨h0, h1⟩
    · obtain ⟨e, he, e1, e2, e3⟩ := Fb.supp v v0 v1 hvt (by omega)
      obtain ⟨l, hl, rfl⟩ := List.mem_map.1 he
      have hlm := hok l hl
      have e1 : l.fr = v := e1
      have e2 : 0 ≤ at' b l.to := e2
      have hd := (right_spans hlm.ok).1
      simp only [eL] at e3
      split at e3
      · rename_i h3
        simp only [Option.some.injEq] at e3
        have h4 := last_leave hlm.ok h3
        obtain ⟨h5, h6⟩ := last_le hlm.ok h3
        rw [e3] at h4 h5 h6
        obtain ⟨h7, h8⟩ := leave_mono hlm.ok h1 (by rw [h4])
        rw [h4] at h8
        have h9 := Fa.closed (eE l) (List.mem_map.2 ⟨l, hl, rfl⟩) (show 0 ≤ at' a l.fr by rw [e1]; exact h0) ((leave l (at' a l.fr)).1 + l.delay) (by rw [e1]; simp [eE, e1, h7])
        have h9 : 0 ≤ at' a l.to ∧ at' a l.to ≤ (leave l (at' a l.fr)).1 + l.delay := h9
        rw [e1] at h9
        have hbl := hv.at hlm.to0 (show l.to < b.length by rw [Fb.len]; exact hlm.to1)
        exact dual_to hok Fa Fb hv f l.to hlm.to0 hlm.to1 h9.1 (by simp only at h8; omega) (by omega)
      · cases e3
theorem dual_from (hok : ∀ l ∈ N.links, LOk (N.st.toNat : Nat) l) (Fa : Fix kE N.st.toNat (N.links.map eE) s t a) (Fb : Fix kL N.st.toNat (N.links.map eL) to u b) :
    ∀ (f : Nat) (v : Int), 0 ≤ v → v < N.st.toNat → 0 ≤ at' a v → at' a v ≤ at' b v → (at' a v).toNat < f → t ≤ at' b s
  | 0, v, _, _, _, _, h => by omega
  | f + 1, v, v0, v1, h0, h1, h2 => by
    by_cases hvs : v = s
    · subst hvs; rw [← Fa.start]; exact h1
    · obtain ⟨e, he, e1, e2, e3⟩ := Fa.supp v v0 v1 hvs h0
      obtain ⟨l, hl, rfl⟩ := List.mem_map.1 he
      have hlm := hok l hl
      have e1 : l.to = v := e1
      have e2 : 0 ≤ at' a l.fr := e2
      have hd := (right_spans hlm.ok).1
      simp only [eE] at e3
      split at e3
      · rename_i h3
        simp only [Option.some.injEq] at e3
        have h4 := leave_idem h3
        obtain ⟨_, h5, _⟩ := leave_bounds h3
        obtain ⟨h6, h7⟩ := leave_last hlm.ok h4 (t := at' b v) (by omega)
        have h9 := Fb.closed (eL l) (List.mem_map.2 ⟨l, hl, rfl⟩) (show 0 ≤ at' b l.to by rw [e1]; omega) (last l (at' b l.to)).1 (by rw [e1]; simp [eL, e1, h6])
        have h9 : 0 ≤ at' b l.fr ∧ - at' b l.fr ≤ - (last l (at' b l.to)).1 := h9
        rw [e1] at h9
        exact dual_from hok Fa Fb f l.fr hlm.fr0 hlm.fr1 e2 (by omega) (by omega)
      · cases e3
end
theorem dual {N : Net} {s to t u : Int} (hC : checkE N = 0) (h0 : 0 ≤ s) (h1 : s < N.st) (k0 : 0 ≤ to) (k1 : to < N.st) (t0 : 0 ≤ t) (t1 : t ≤ 1048576) (u0 : 0 ≤ u) (u1 : u ≤ 1048576) :
    (0 ≤ at' (arrP N s t).out to ∧ at' (arrP N s t).out to ≤ u) ↔ t ≤ at' (lateP N to u).out s := by
  obtain ⟨s1, s2, _, hok⟩ := checkE_ok hC
  have hst : ((N.st.toNat : Nat) : Int) = N.st := by omega
  have hl : ∀ l ∈ N.links, LOk (N.st.toNat : Nat) l := fun l hl => by rw [hst]; exact hok l hl
  have Fa := arrP_fix hC h0 h1 t0 t1
  have Fb := lateP_fix hC k0 k1 u0 u1
  have hv := (lateP_spec hC k0 k1 u0 u1).1.ok.vals
  constructor
  · rintro ⟨p1, p2⟩
    exact dual_from hl Fa Fb _ to k0 (by omega) p1 (by rw [Fb.start]; exact p2) (Nat.lt_succ_self _)
  · intro p
    exact dual_to hl Fa Fb hv _ s h0 (by omega) (by rw [Fa.start]; exact t0) (by rw [Fa.start]; exact p) (Nat.lt_succ_self _)
theorem later {N : Net} {s t t' : Int} (hC : checkE N = 0) (h0 : 0 ≤ s) (h1 : s < N.st) (t0 : 0 ≤ t) (htt : t ≤ t') (t1 : t' ≤ 1048576) {v : Int} (v0 : 0 ≤ v) (v1 : v < N.st) (hv : 0 ≤ at' (arrP N s t').out v) : 0 ≤ at' (arrP N s t).out v ∧ at' (arrP N s t).out v ≤ at' (arrP N s t').out v := by
  have hb := arr_bounds hC h0 h1 t0 (show t ≤ 1048576 by omega)
  obtain ⟨_, _, b0, b1, hc⟩ := cbE_zero hb
  obtain ⟨_, _, _, hok⟩ := checkE_ok hC
  exact cw_bound hok hc _ s t' _ _ b0 (by omega) (wayP_ok hC h0 h1 v0 v1 (by omega) t1 hv).2
end Nets

namespace Nets
open Go.AM
theorem arr_pair {N : Net} {s to t : Int} (hE : askedE N t [s] = 0) (hb : bad N to = false) : arrivesR N s to t 0 = if at' (arrP N s t).out to < 0 then (0, 5) else (at' (arrP N s t).out to, 0) := by
  obtain ⟨hC, hs, t0, t1⟩ := asked_zero hE
  obtain ⟨h0, h1⟩ := hs s (by simp)
  rw [arrivesR, if_neg (by simp), if_neg (by simp [hb]), ← arr_eq hC h0 h1 t0 t1]
theorem asked_shut {N : Net} {k : Nat} {x : Link} (hx : N.links[k]? = some x) {t : Int} {l : List Int} (h : askedE N t l = 0) : askedE (shutN N k) t l = 0 := by
  obtain ⟨hC, _⟩ := asked_zero h
  unfold askedE at h ⊢
  rw [if_neg (by simp [shutN_ok hx hC])]
  rw [if_neg (by simp [hC])] at h
  exact h
end Nets

namespace Nets
def cutS (s x : Span) : List Span := if s.lo > x.hi ∨ s.hi < x.lo then [x] else (if s.lo > x.lo then [⟨x.lo, s.lo - 1⟩] else []) ++ (if s.hi < x.hi then [⟨s.hi + 1, x.hi⟩] else [])
def partsOf (s : Span) (l : List Span) : List Span := l.flatMap (cutS s)
def closedL (s : Span) (x : Link) : Link := ⟨x.fr, x.to, x.delay, (partsOf s x.opn).isEmpty, partsOf s x.opn⟩
def closedE (N : Net) (s : Span) : Int := if checkE N ≠ 0 then checkE N else if s.lo > s.hi then 1 else if N.links.any (fun x => decide ((partsOf s x.opn).length > 12)) then 2 else 0
def closedN (N : Net) (s : Span) : Net := if closedE N s = 0 then ⟨N.st, N.links.isEmpty, N.links.map (closedL s)⟩ else ⟨0, true, []⟩
theorem partsOf_snoc {s : Span} {l : List Span} {k : Nat} {x : Span} (h : l[k]? = some x) : partsOf s (l.take (k + 1)) = partsOf s (l.take k) ++ cutS s x := by
  obtain ⟨hk, rfl⟩ := List.getElem?_eq_some_iff.1 h
  rw [List.take_succ_eq_append_getElem hk, partsOf, List.flatMap_append]
  simp [partsOf]
theorem cutS_len (s x : Span) : (cutS s x).length ≤ 2 := by
  unfold cutS
  split
  · simp
  · rw [List.length_append]; split <;> split <;> simp
theorem partsOf_len (s : Span) : ∀ l : List Span, (partsOf s l).length ≤ 2 * l.length
  | [] => by simp [partsOf]
  | x :: r => by
    have := partsOf_len s r
    have := cutS_len s x
    simp only [partsOf, List.flatMap_cons, List.length_append, List.length_cons] at *
    omega
theorem closed_bounds {N : Net} {s : Span} (hl : N.links.length < 1000000) : (closedN N s).links.length < 1000000 ∧ ∀ x ∈ (closedN N s).links, x.opn.length < 1000000 := by
  unfold closedN
  split
  · rename_i h
    refine ⟨by simpa using hl, fun x hx => ?_⟩
    obtain ⟨y, hy, rfl⟩ := List.mem_map.1 hx
    unfold closedE at h
    split at h
    · rename_i hc; exact absurd h hc
    · split at h
      · cases h
      · split at h
        · cases h
        · rename_i ha
          have : ¬ decide ((partsOf s y.opn).length > 12) = true := fun e => ha (List.any_eq_true.2 ⟨y, hy, e⟩)
          simp only [decide_eq_true_eq] at this
          show (partsOf s y.opn).length < 1000000
          omega
  · simp
end Nets

namespace Nets
open Go.AM
theorem pre_eE {x : Link} {y z : Int} (h : (eE x).g y = some z) : (leave x y).2 = true ∧ z = (leave x y).1 + x.delay := by
  simp only [eE] at h
  split at h
  · rename_i h1; simp only [Option.some.injEq] at h; exact ⟨h1, h.symm⟩
  · cases h
/-- each link of N' is some link of N that is as good -/
def Better (N N' : Net) : Prop := ∀ x' ∈ N'.links, ∀ y, (leave x' y).2 = true → ∃ x ∈ N.links, x.fr = x'.fr ∧ x.to = x'.to ∧ (leave x y).2 = true ∧ (leave x y).1 + x.delay ≤ (leave x' y).1 + x'.delay
theorem arr_cmp {N N' : Net} {s t : Int} (hC : checkE N = 0) (hC' : checkE N' = 0) (hst : N'.st = N.st) (h0 : 0 ≤ s) (h1 : s < N.st) (t0 : 0 ≤ t) (t1 : t ≤ 1048576) (hl : Better N N') :
    ∀ v, 0 ≤ v → v < N.st → 0 ≤ at' (arrP N' s t).out v → 0 ≤ at' (arrP N s t).out v ∧ at' (arrP N s t).out v ≤ at' (arrP N' s t).out v := by
  have F := arrP_fix hC h0 h1 t0 t1
  have F' := arrP_fix hC' h0 (by omega) t0 t1
  obtain ⟨s1, s2, _, hok⟩ := checkE_ok hC
  obtain ⟨_, _, _, hok'⟩ := checkE_ok hC'
  generalize (arrP N s t).out = A at *
  generalize (arrP N' s t).out = A' at *
  have key : ∀ (k : Nat) v, 0 ≤ v → v < N.st → 0 ≤ at' A' v → at' A' v < k → 0 ≤ at' A v ∧ at' A v ≤ at' A' v := by
    intro k
    induction k with
    | zero => intro v _ _ h2 h3; omega
    | succ k ih =>
      intro v v0 v1 hv hk
      by_cases hvs : v = s
      · subst hvs; rw [F.start, F'.start]; omega
      · obtain ⟨e, he, hb, ha, hg⟩ := F'.supp v v0 (by omega) hvs hv
        obtain ⟨x', hx', rfl⟩ := List.mem_map.1 he
        have hlx := hok' x' hx'
        obtain ⟨g1, g2⟩ := pre_eE hg
        have hfr : (eE x').a = x'.fr := rfl
        have hto : (eE x').b = x'.to := rfl
        rw [hfr] at ha g1 g2
        rw [hto] at hb
        obtain ⟨_, b1, _⟩ := leave_bounds g1
        have hd := (right_spans hlx.ok).1
        have fr0 := hlx.fr0; have fr1 := hlx.fr1
        obtain ⟨i1, i2⟩ := ih x'.fr fr0 (by omega) ha (by omega)
        obtain ⟨x, hx, e1, e2, e3, e4⟩ := hl x' hx' _ g1
        obtain ⟨m1, m2⟩ := leave_mono (hok x hx).ok i2 e3
        have hc := F.closed (eE x) (List.mem_map.2 ⟨x, hx, rfl⟩) (by show 0 ≤ at' A x.fr; rw [e1]; exact i1) ((leave x (at' A x'.fr)).1 + x.delay) (by show (if (leave x (at' A x.fr)).2 = true then some ((leave x (at' A x.fr)).1 + x.delay) else none) = _; rw [e1, if_pos m1])
        obtain ⟨c1, c2⟩ := hc
        have hbx : (eE x).b = v := by show x.to = v; rw [e2, hb]
        rw [hbx] at c1 c2
        simp only [kE] at c2
        exact ⟨c1, by omega⟩
  exact fun v v0 v1 hv => key ((at' A' v).toNat + 1) v v0 v1 hv (by omega)
theorem arr_same {N N' : Net} {s t : Int} (hC : checkE N = 0) (hC' : checkE N' = 0) (hst : N'.st = N.st) (h0 : 0 ≤ s) (h1 : s < N.st) (t0 : 0 ≤ t) (t1 : t ≤ 1048576) (hl : Better N N') (hl' : Better N' N) :
    ∀ v, 0 ≤ v → v < N.st → at' (arrP N' s t).out v = at' (arrP N s t).out v := by
  intro v v0 v1
  have a1 := arr_cmp hC hC' hst h0 h1 t0 t1 hl v v0 v1
  have a2 := arr_cmp hC' hC hst.symm h0 (by omega) t0 t1 hl' v v0 (by omega)
  obtain ⟨W, _⟩ := arrP_spec hC h0 h1 t0 t1
  obtain ⟨W', _⟩ := arrP_spec hC' h0 (by omega) t0 t1
  obtain ⟨s1, s2, _, _⟩ := checkE_ok hC
  have l1 : (arrP N s t).out.length = N.st.toNat := W.ok.lo
  have l2 : (arrP N' s t).out.length = N'.st.toNat := W'.ok.lo
  have b1 := W.ok.vals.at v0 (show v < (arrP N s t).out.length by omega)
  have b2 := W'.ok.vals.at v0 (show v < (arrP N' s t).out.length by omega)
  omega

/-- a net without a link -/
def lessN (N : Net) (k : Nat) : Net := ⟨N.st, false, N.links.take k ++ N.links.drop (k + 1)⟩
theorem less_mem {N : Net} {k : Nat} {x : Link} (h : x ∈ (lessN N k).links) : x ∈ N.links := by
  rcases List.mem_append.1 h with h | h
  · exact List.mem_of_mem_take h
  · exact List.mem_of_mem_drop h
theorem checkE_of {N N' : Net} (hC : checkE N = 0) (hst : N'.st = N.st) (hl : N'.links.length ≤ 40) (h : ∀ x ∈ N'.links, linkIn N.st x = 0) : checkE N' = 0 := by
  unfold checkE at hC ⊢
  rw [hst]
  split at hC
  · rename_i hw
    rw [if_pos hw, if_neg (by omega)]
    exact linksE_iff.2 h
  · cases hC
theorem links_in {N : Net} (hC : checkE N = 0) : ∀ x ∈ N.links, linkIn N.st x = 0 := by
  unfold checkE at hC
  split at hC
  · split at hC
    · cases hC
    · exact linksE_iff.1 hC
  · cases hC
theorem less_ok {N : Net} {k : Nat} (hC : checkE N = 0) : checkE (lessN N k) = 0 := by
  obtain ⟨_, _, hll, _⟩ := checkE_ok hC
  refine checkE_of hC rfl ?_ fun x hx => links_in hC x (less_mem hx)
  simp only [lessN, List.length_append, List.length_take, List.length_drop]
  omega
theorem less_better {N : Net} (k : Nat) : Better N (lessN N k) := fun x' hx' _ hy => ⟨x', less_mem hx', rfl, rfl, hy, Int.le_refl _⟩
theorem shut_leave (x : Link) (y : Int) : (leave (shutL x) y).2 = false := by
  unfold leave
  split <;> simp [shutL, leaveGo]
theorem shut_less {N : Net} {k : Nat} {x : Link} (hx : N.links[k]? = some x) : Better (lessN N k) (shutN N k) ∧ Better (shutN N k) (lessN N k) := by
  have hk : k < N.links.length := (List.getElem?_eq_some_iff.1 hx).1
  have hs : (shutN N k).links = N.links.take k ++ shutL x :: N.links.drop (k + 1) := by
    rw [shutN_links hx, List.set_eq_take_append_cons_drop, if_pos hk]
  refine ⟨fun z hz y hy => ?_, fun z hz y hy => ⟨z, ?_, rfl, rfl, hy, Int.le_refl _⟩⟩
  · rw [hs] at hz
    rcases List.mem_append.1 hz with h | h
    · exact ⟨z, List.mem_append.2 (.inl h), rfl, rfl, hy, Int.le_refl _⟩
    · rcases List.mem_cons.1 h with rfl | h
      · rw [shut_leave] at hy; cases hy
      · exact ⟨z, List.mem_append.2 (.inr h), rfl, rfl, hy, Int.le_refl _⟩
  · rw [hs]
    rcases List.mem_append.1 hz with h | h
    · exact List.mem_append.2 (.inl h)
    · exact List.mem_append.2 (.inr (List.mem_cons_of_mem _ h))
theorem shut_arr {N : Net} {k : Nat} {x : Link} (hx : N.links[k]? = some x) {s t : Int} (hC : checkE N = 0) (h0 : 0 ≤ s) (h1 : s < N.st) (t0 : 0 ≤ t) (t1 : t ≤ 1048576) {v : Int} (v0 : 0 ≤ v) (v1 : v < N.st) :
    at' (arrP (shutN N k) s t).out v = at' (arrP (lessN N k) s t).out v :=
  arr_same (N := lessN N k) (less_ok hC) (shutN_ok hx hC) rfl h0 h1 t0 t1 (shut_less hx).1 (shut_less hx).2 v v0 v1

/-- parts of spans -/
theorem cut_in {s x p : Span} (hx : x.lo ≤ x.hi) (h : p ∈ cutS s x) (_ : s.lo ≤ s.hi) : x.lo ≤ p.lo ∧ p.lo ≤ p.hi ∧ p.hi ≤ x.hi := by
  unfold cutS at h
  split at h
  · simp at h; subst h; omega
  · rename_i hn
    rcases List.mem_append.1 h with h | h
    · split at h
      · simp at h; subst h; simp only; omega
      · cases h
    · split at h
      · simp at h; subst h; simp only; omega
      · cases h
theorem cut_sorted {s x : Span} (hs : s.lo ≤ s.hi) : (cutS s x).Pairwise fun a b => a.hi < b.lo := by
  unfold cutS
  split
  · simp
  · split <;> split <;> simp
    omega
theorem parts_sorted {s : Span} (hs : s.lo ≤ s.hi) : ∀ {l : List Span}, (∀ x ∈ l, x.lo ≤ x.hi) → l.Pairwise (fun a b => a.hi < b.lo) → (partsOf s l).Pairwise fun a b => a.hi < b.lo
  | [], _, _ => by simp [partsOf]
  | x :: r, hx, h => by
    obtain ⟨h1, h2⟩ := List.pairwise_cons.1 h
    have ih := parts_sorted hs (l := r) (fun y hy => hx y (by simp [hy])) h2
    have e : partsOf s (x :: r) = cutS s x ++ partsOf s r := by simp [partsOf]
    rw [e]
    refine List.pairwise_append.2 ⟨cut_sorted hs, ih, fun a ha b hb => ?_⟩
    obtain ⟨y, hy, hb⟩ := List.mem_flatMap.1 hb
    have c1 := cut_in (hx x (by simp)) ha hs
    have c2 := cut_in (hx y (by simp [hy])) hb hs
    have := h1 y hy
    omega
theorem spansE_of {l : List Span} (hl : l.length ≤ 12) (h1 : ∀ x ∈ l, 0 ≤ x.lo ∧ x.lo ≤ x.hi ∧ x.hi ≤ 1048576) (h2 : l.Pairwise fun a b => a.hi < b.lo) : spansE l = 0 := by
  unfold spansE
  rw [if_neg (by omega), if_neg]
  intro h
  obtain ⟨i, hi, hb⟩ := List.any_eq_true.1 h
  have hi : i < l.length := by simpa using hi
  have hx := h1 l[i] (List.getElem_mem hi)
  unfold badAt at hb
  rw [List.getElem?_eq_getElem hi] at hb
  simp only [Bool.or_eq_true, decide_eq_true_eq, Bool.and_eq_true] at hb
  rcases hb with ((hb | hb) | hb) | ⟨hb0, hb⟩
  · omega
  · omega
  · omega
  · have hj : i - 1 < l.length := by omega
    rw [List.getElem?_eq_getElem hj] at hb
    simp only [decide_eq_true_eq] at hb
    have := List.pairwise_iff_getElem.1 h2 (i - 1) i hj hi (by omega)
    omega
theorem closed_ok {N : Net} {s : Span} (h : closedE N s = 0) : checkE N = 0 ∧ checkE (closedN N s) = 0 ∧ Better N (closedN N s) := by
  have hE := h
  unfold closedE at h
  split at h
  · rename_i hc; exact absurd h hc
  · rename_i hc
    have hC : checkE N = 0 := by simpa using hc
    split at h
    · cases h
    · rename_i hs
      have hs : s.lo ≤ s.hi := by omega
      split at h
      · cases h
      · rename_i ha
        have h12 : ∀ x ∈ N.links, (partsOf s x.opn).length ≤ 12 := fun x hx => by
          rcases Nat.lt_or_ge 12 (partsOf s x.opn).length with h' | h'
          · exact absurd (List.any_eq_true.2 ⟨x, hx, by simpa using h'⟩) ha
          · exact h'
        obtain ⟨_, _, hll, hok⟩ := checkE_ok hC
        have hN : closedN N s = ⟨N.st, N.links.isEmpty, N.links.map (closedL s)⟩ := by rw [closedN, if_pos hE]
        have hx0 : ∀ x ∈ N.links, ∀ y ∈ x.opn, 0 ≤ y.lo ∧ y.lo ≤ y.hi ∧ y.hi ≤ 1048576 := fun x hx y hy => by
          obtain ⟨i, hi⟩ := List.getElem?_of_mem hy
          exact (right_spans (hok x hx).ok).2.2.2 i y hi
        have hr : ∀ x ∈ N.links, right (closedL s x) = true := fun x hx => by
          have hR := (hok x hx).ok
          have hw : within x.delay 1 1440 = true := by
            simp only [right, Bool.and_eq_true] at hR; exact hR.1
          simp only [right, closedL, hw, Bool.true_and, beq_iff_eq]
          refine spansE_of (h12 x hx) (fun p hp => ?_) (parts_sorted hs (fun y hy => (hx0 x hx y hy).2.1) (right_sorted hR))
          obtain ⟨y, hy, hp⟩ := List.mem_flatMap.1 hp
          have := cut_in (hx0 x hx y hy).2.1 hp hs
          have := hx0 x hx y hy
          omega
        refine ⟨hC, ?_, ?_⟩
        · rw [hN]
          refine checkE_of hC rfl (by simpa using hll) fun z hz => ?_
          obtain ⟨x, hx, rfl⟩ := List.mem_map.1 hz
          have h1 := links_in hC x hx
          unfold linkIn at h1 ⊢
          show (if (!(within x.fr 0 (N.st - 1)) || !(within x.to 0 (N.st - 1)) || x.fr == x.to) = true then _ else _) = _
          split at h1
          · cases h1
          · rename_i hc; rw [if_neg hc]; exact linkE_of.2 (hr x hx)
        · intro z hz y hy
          rw [hN] at hz
          obtain ⟨x, hx, rfl⟩ := List.mem_map.1 hz
          have hR := (hok x hx).ok
          have hd := (right_spans hR).1
          obtain ⟨_, b1, _⟩ := leave_bounds hy
          have hi := leave_idem hy
          have hleq : leave (closedL s x) (leave (closedL s x) y).1 = leaveGo x.delay (leave (closedL s x) y).1 (partsOf s x.opn) := by
            rw [leave, if_pos (hr x hx)]; rfl
          rw [hleq] at hi
          obtain ⟨p, hp, p1, p2⟩ := leaveGo_span hi
          obtain ⟨w, hw, hp⟩ := List.mem_flatMap.1 hp
          have c := cut_in (hx0 x hx w hw).2.1 hp hs
          have hg := span_leaveGo hd (right_sorted hR) ⟨w, hw, by omega, by omega⟩ (d := (leave (closedL s x) y).1)
          obtain ⟨d, g1, g2⟩ := leaveGo_mono hd b1 (right_sorted hR) hg
          have hl : leave x y = (d, true) := by rw [leave, if_pos hR, g1]
          refine ⟨x, hx, rfl, rfl, by rw [hl], ?_⟩
          rw [hl]
          show d + x.delay ≤ _ + x.delay
          omega
end Nets

namespace Go.AM
open Go.RowKit Go.ChangeShapes Go.WideShapes Go.Proofs Go.Deep Nets
section
variable {H : Type} {enc : TypeId × Value → H} {W : World} {base : Nat} {sp : Nat → Bool} {hd : Bool}
theorem rd_hops {r : Reach} {b0 : Nat} {v : Value} {d : DataW H} {p : List MemPlace} (hv : Value.okWide Try.prog W r b0 43 v) (h : DataW.Trod enc Try.prog W base sp hd 43 v d p) : ∃ nl l, Rv (G0 W) (.fslc nl false 2 (l.map encHop)) v ∧ (nl = true → l = []) ∧ l.length ≤ maxLen := by
  obtain ⟨a, len, cap, rfl⟩ := okWide_slice Try.underlying43 hv
  obtain ⟨fuel, hf⟩ := h
  exact rd_slice encHop Try.underlying43 (by kernel_rfl : Try.prog.cellsOf 80 = 2) (fun x => by simp [cellsOf, AV.scalar]) elem_hop hf
theorem rd_ints {r : Reach} {b0 : Nat} {v : Value} {d : DataW H} {p : List MemPlace} (hv : Value.okWide Try.prog W r b0 35 v) (h : DataW.Trod enc Try.prog W base sp hd 35 v d p) : ∃ nl l, Rv (G0 W) (.fslc nl false 1 (l.map (iv .i64))) v ∧ (nl = true → l = []) ∧ l.length ≤ maxLen := by
  obtain ⟨a, len, cap, rfl⟩ := okWide_slice Try.underlying35 hv
  obtain ⟨fuel, hf⟩ := h
  exact rd_slice (iv .i64) Try.underlying35 (by kernel_rfl : Try.prog.cellsOf 3 = 1) (fun x => by simp [cellsOf, AV.scalar]) elem_int hf
theorem rd_span {r : Reach} {b0 : Nat} {v : Value} {d : DataW H} {p : List MemPlace} (hv : Value.okWide Try.prog W r b0 54 v) (h : DataW.Trod enc Try.prog W base sp hd 54 v d p) : ∃ x, Rv (G0 W) (encSpan x) v := by
  obtain ⟨cs, rfl, hsz⟩ := okWide_struct Try.underlying54 hv
  have h54 : Try.prog.cellsOf 54 = 2 := by kernel_rfl
  rw [h54] at hsz
  obtain ⟨l⟩ := cs
  obtain ⟨fuel, hf⟩ := h
  obtain ⟨xs, n', _, _, _, hx, hf⟩ := DataW.trod_struct Try.underlying54 hf
  obtain ⟨c0, c1, rfl⟩ : ∃ c0 c1, l = [c0, c1] := by
    match l, hsz with
    | [c0, c1], _ => exact ⟨c0, c1, rfl⟩
  have h3 : Try.prog.cellsOf 3 = 1 := by kernel_rfl
  have f0 : DataW.trod enc Try.prog W base sp hd n' 3 (List.take (Try.prog.cellsOf 3) (List.drop 0 [c0, c1])) = xs[0]? := hf 0 _ rfl
  have f1 : DataW.trod enc Try.prog W base sp hd n' 3 (List.take (Try.prog.cellsOf 3) (List.drop 1 [c0, c1])) = xs[1]? := hf 1 _ rfl
  simp only [h3, List.drop_zero, List.take_succ_cons, List.take_zero, List.drop_succ_cons] at f0 f1
  obtain ⟨x0, x1, rfl⟩ : ∃ x0 x1, xs = [x0, x1] := by
    match xs, hx with
    | [c0, c1], _ => exact ⟨c0, c1, rfl⟩
  obtain ⟨a, rfl⟩ := rd_int Try.underlying3 f0
  obtain ⟨b, rfl⟩ := rd_int Try.underlying3 f1
  exact ⟨⟨a, b⟩, by simp [Rv, RvL, Value.oneCell']⟩
end
end Go.AM

namespace Go.AM
open Go.RowKit Go.ChangeShapes Go.WideShapes Go.Proofs Go.Deep Nets
section
variable {H : Type} {enc : TypeId × Value → H} {W : World} {base : Nat} {sp : Nat → Bool} {hd : Bool}
theorem rd_u16 {r : Reach} {b0 : Nat} {v : Value} {d : DataW H} {p : List MemPlace} (hv : Value.okWide Try.prog W r b0 51 v) (h : DataW.Trod enc Try.prog W base sp hd 51 v d p) : ∃ m, Rv (G0 W) (iv .u16 m) v ∧ 0 ≤ m ∧ m < 65536 := by
  obtain ⟨m, rfl, _, _, hw⟩ := open_int Try.underlying51 hv h
  refine ⟨m, by simp [Rv, Value.oneCell'], ?_⟩
  have e1 : IntKind.u16.min = 0 := by decide
  have e2 : IntKind.u16.max = 65535 := by decide
  simp [Lit.wf, e1, e2] at hw
  omega
theorem rd_u8 {r : Reach} {b0 : Nat} {v : Value} {d : DataW H} {p : List MemPlace} (hv : Value.okWide Try.prog W r b0 5 v) (h : DataW.Trod enc Try.prog W base sp hd 5 v d p) : ∃ m, Rv (G0 W) (iv .u8 m) v ∧ 0 ≤ m ∧ m < 256 := by
  obtain ⟨m, rfl, _, _, hw⟩ := open_int Try.underlying5 hv h
  refine ⟨m, by simp [Rv, Value.oneCell'], ?_⟩
  have e1 : IntKind.u8.min = 0 := by decide
  have e2 : IntKind.u8.max = 255 := by decide
  simp [Lit.wf, e1, e2] at hw
  omega
end
end Go.AM
