/- Regions that draw their order around calls; RelayChecks and RelayWays over the abstract machine; how slices of hops and numbers are read. Conditions: as each theorem says. -/
import Derived.Test.YtkhdnlojgoonkaaDoor
namespace Go.AM
open Go.RowKit
/-- a load through one of these slots -/
def isLd (F : List Nat) (op : Op) : Bool := match op with | .load _ (.tmp t) => F.contains t | _ => false
def comm2 (F : List Nat) (P : Program) (ops : Array Oper) (p i : Oper) : Bool := p.apart ops i && (compat (clOf P p.op) (clOf P i.op) || isLd F p.op || isLd F i.op)
def FpOk (F : List Nat) (s : List (Nat × AV)) : Prop := ∀ t ∈ F, ∃ l, get s t = .fptr l
theorem f_ld {P : Program} {ops : Array Oper} {F : List Nat} {o : Oper} {s : List (Nat × AV)} (hl : isLd F o.op = true) (hF : FpOk F s) : clOf P o.op ≠ .w ∧ clOf P o.op ≠ .a ∧ clOf P o.op ≠ .d ∧ ∃ X : Option AV, ∀ nm h, fVal P ops nm o s h = X.map (·, h) := by
  unfold isLd at hl
  split at hl
  · rename_i ty t ho
    obtain ⟨l, hg⟩ := hF t (by simpa using hl)
    refine ⟨by rw [ho]; simp [clOf], by rw [ho]; simp [clOf], by rw [ho]; simp [clOf], ?_⟩
    unfold fVal
    cases aWanted ops s o.guard with
    | none => exact ⟨none, fun _ _ => rfl⟩
    | some b =>
      cases b with
      | false => exact ⟨some (.tup []), fun _ _ => rfl⟩
      | true =>
        rw [ho]
        simp only [aStep]
        cases lay P ty with
        | none => exact ⟨none, fun _ _ => rfl⟩
        | some sg =>
          refine ⟨loadC sg l, fun _ _ => ?_⟩
          simp only [ev, hg]
  · cases hl
structure Facts2 (F : List Nat) (P : Program) (ops : Array Oper) (st : St) (nmp nmi : Nat) (p i : Oper) : Prop extends Facts P ops st nmp nmi p i where
  fp : FpOk F st.s
  runsL : isLd F i.op = true → ∃ x, ∀ nm h, fVal P ops nm i st.s h = some (x, h)
theorem swap_ok2 {F : List Nat} {P : Program} {ops : Array Oper} {nmp nmi : Nat} {p i : Oper} {st : St} (hc : comm2 F P ops p i = true) (FF : Facts2 F P ops st nmp nmi p i) {K : St → Prop} (hK : ∀ a b, Eqv a b → K a → K b)
    (h : aOp P ops nmp p st (fun s1 => aOp P ops nmi i s1 K)) : aOp P ops nmi i st (fun s1 => aOp P ops nmp p s1 K) := by
  by_cases hcp : compat (clOf P p.op) (clOf P i.op) = true
  · refine swap_ok ?_ FF.toFacts hK h
    simp only [comm2, Bool.and_eq_true] at hc
    simp only [comm, Bool.and_eq_true]
    exact ⟨hc.1, hcp⟩
  simp only [comm2, Bool.and_eq_true, Bool.or_eq_true] at hc
  obtain ⟨hap, hcl⟩ := hc
  obtain ⟨ha1, ha2, ha3⟩ := Oper.apart_spec hap
  have hfp := FF.fp
  have hrl := FF.runsL
  have hdok := FF.dok
  obtain ⟨nt, s, hp, n⟩ := st
  obtain ⟨hdp, h⟩ := h
  simp only at hdp h hfp hrl hdok ⊢
  have ag1 : ∀ x h1 n1, agreeOn (i.looksAt ops) (put ⟨nt, s, h1, n1⟩ p.dst x).s s := fun x h1 n1 t ht => get_put (fun e => ha1 t e ht)
  have ag2 : ∀ x h1 n1, agreeOn (p.looksAt ops) (put ⟨nt, s, h1, n1⟩ i.dst x).s s := fun x h1 n1 t ht => get_put (fun e => ha3 t e ht)
  have hh : aVal P ops nmp p s hp n fun x h1 n1 => aVal P ops nmi i s h1 n1 fun y h2 n2 => K (put ⟨nt, (put ⟨nt, s, h1, n1⟩ p.dst x).s, h2, n2⟩ i.dst y) := by
    refine aVal_mono h fun x h1 n1 hk => ?_
    obtain ⟨k1, k2⟩ := hk
    rw [put_nt.1, put_nt.2.1, put_nt.2.2] at k2
    exact (aVal_agree (ag1 x h1 n1)).1 k2
  have goal : (aVal P ops nmi i s hp n fun y h1 n1 => aVal P ops nmp p s h1 n1 fun x h2 n2 => K (put ⟨nt, (put ⟨nt, s, h1, n1⟩ p.dst x).s, h2, n2⟩ i.dst y)) → aOp P ops nmi i ⟨nt, s, hp, n⟩ (fun s1 => aOp P ops nmp p s1 K) := by
    intro g2
    refine ⟨hdok, aVal_mono g2 fun y h1 n1 hk => ⟨by rw [put_nt.1]; exact hdp, ?_⟩⟩
    rw [put_nt.1, put_nt.2.1, put_nt.2.2]
    refine (aVal_agree (ag2 y h1 n1)).2 (aVal_mono hk fun x h2 n2 hk => ?_)
    refine hK _ _ (put_swap (fun t e => ha2 t e) n2 h2) ?_
    exact hk
  refine goal ?_
  have hs : ∀ x h1 n1 h2 n2, (put ⟨nt, s, h1, n1⟩ p.dst x).s = (put ⟨nt, s, h2, n2⟩ p.dst x).s := fun x h1 n1 h2 n2 => by cases p.dst <;> rfl
  by_cases hia : isLd F i.op = true
  · obtain ⟨y, hy⟩ := hrl hia
    have hw := (f_ld (P := P) (ops := ops) hia hfp).1
    have e1 : ∀ h1 n1 K1, aVal P ops nmi i s h1 n1 K1 ↔ K1 y h1 n1 := fun h1 n1 K1 => by rw [aVal_f hw, hy]; rfl
    rw [e1]
    exact aVal_mono hh fun x h1 n1 hk => by rw [e1] at hk; rw [hs x hp n h1 n1]; exact hk
  have hpa : isLd F p.op = true := by
    rcases hcl with (h' | h') | h'
    · exact absurd h' hcp
    · exact h'
    · exact absurd h' hia
  obtain ⟨hw, _, _, X, hX⟩ := f_ld (P := P) (ops := ops) hpa hfp
  have e1 : ∀ h1 n1 K1, aVal P ops nmp p s h1 n1 K1 ↔ stepK (X.map (·, h1)) n1 K1 := fun h1 n1 K1 => by rw [aVal_f hw, hX]
  rw [e1] at hh
  cases X with
  | none => exact hh.elim
  | some x =>
    simp only [Option.map_some, stepK] at hh
    refine aVal_mono hh fun y h1 n1 hk => ?_
    rw [e1]
    simp only [Option.map_some, stepK]
    rw [hs x h1 n1 hp n]; exact hk
/-- i is taken to the front. -/
theorem front2 {F : List Nat} {P : Program} {base : Nat} {ops : Array Oper} {i : Nat} {o : Oper} (hFd : ∀ (p : Nat) q, ops[p]? = some q → ∀ d, q.dst = some d → d ∉ F) (ho : ops[i]? = some o) {l2 : List Nat} {K : St → Prop} (hK : ∀ a b, Eqv a b → K a → K b) : ∀ (l1 : List Nat) (st : St)
    (_ : ∀ p ∈ l1, p ≠ i ∧ ∀ q, ops[p]? = some q → comm2 F P ops q o = true ∧ Facts2 F P ops st (base + p) (base + i) q o) (_ : aOpsI P ops base K (l1 ++ i :: l2) st),
    aOpsI P ops base K (i :: (l1 ++ l2)) st
  | [], st, _, h => h
  | p :: l1, st, hc, h => by
    simp only [List.cons_append] at h
    have h' := h
    simp only [aOpsI] at h'
    obtain ⟨hpi, hq⟩ := hc p (by simp)
    cases hp : ops[p]? with
    | none => rw [hp] at h'; exact h'.elim
    | some q =>
      rw [hp] at h'
      obtain ⟨hcm, hF⟩ := hq q hp
      have hap : q.apart ops o = true := by simp only [comm2, Bool.and_eq_true] at hcm; exact hcm.1
      obtain ⟨ha1, _, _⟩ := Oper.apart_spec hap
      have h1 : aOp P ops (base + p) q st (fun s1 => aOp P ops (base + i) o s1 (aOpsI P ops base K (l1 ++ l2))) := by
        refine aOp_mono (aOp_keep h') fun s1 ⟨k1, k2, k3, k4⟩ => ?_
        have ih := front2 hFd ho hK l1 s1 (fun p' hp' => ⟨(hc p' (by simp [hp'])).1, fun q' hq' => ?_⟩) k1
        · simpa only [aOpsI, ho] using ih
        · obtain ⟨g1, g2⟩ := (hc p' (by simp [hp'])).2 q' hq'
          have hag : agreeOn (o.looksAt ops) s1.s st.s := fun t ht => k3 t fun e => ha1 t e ht
          refine ⟨g1, ⟨g2.ne, fun x hx hd off e => ?_, fun hd => ?_, fun hA => ?_, by rw [k2]; exact g2.dok⟩, fun t ht => by rw [k3 t (fun e => hFd p q hp t e ht)]; exact g2.fp t ht, fun hA => let ⟨x, hx⟩ := g2.runsL hA; ⟨x, fun nm h => by rw [fVal_agree hag]; exact hx nm h⟩⟩
          · refine g2.look x hx hd off ?_
            rw [← e]
            exact (ev_agree hag x (cl_b hx st.s).1).symm
          · have hqw : clOf P q.op ≠ .w := by
              intro e
              simp only [comm2, Bool.and_eq_true, Bool.or_eq_true] at hcm
              rcases hcm.2 with (h' | h') | h'
              · rw [e, hd] at h'; simp [compat] at h'
              · exact (f_ld (P := P) (ops := ops) h' hF.fp).1 e
              · exact (f_ld (P := P) (ops := ops) h' hF.fp).2.2.1 hd
            rw [k4 hqw _ (fun e => hpi (by omega))]
            exact g2.free hd
          · obtain ⟨x, hx⟩ := g2.runs hA
            exact ⟨x, fun nm h => by rw [fVal_agree hag]; exact hx nm h⟩
      have h2 := swap_ok2 hcm hF (aOpsI_eqv hK (l1 ++ l2)) h1
      simp only [aOpsI, ho]
      refine aOp_mono h2 fun s1 k => ?_
      simp only [List.cons_append, aOpsI, hp]
      exact k

/-- the check of a region: whatever is not bound to an order commutes -/
def drawOK2 (F : List Nat) (P : Program) (ops : Array Oper) : Bool :=
  let m := ancGo [] ops.toList
  (List.range ops.size).all fun i => match ops[i]? with
    | none => false
    | some o => ((match o.dst with | some d => !F.contains d | none => true) && (o.after.toList.all fun e => !Region.binds .any e || decide (e.on < i))) &&
      (List.range i).all fun p => (m.getD i 0).testBit p || (match ops[p]? with | some q => comm2 F P ops q o | none => false)

section
variable {F : List Nat} {P : Program} {ops : Array Oper}

theorem drawOK2_edge (h : drawOK2 F P ops = true) {i : Nat} {o : Oper} (ho : ops[i]? = some o) : ∀ e ∈ o.after, Region.binds .any e = true → e.on < i := by
  intro e he hb
  have hi : i < ops.size := (Array.getElem?_eq_some_iff.1 ho).1
  have := List.all_eq_true.1 h i (by simpa using hi)
  rw [ho] at this
  simp only [Bool.and_eq_true] at this
  have := List.all_eq_true.1 this.1.2 e (by simpa using he)
  simpa [hb] using this
theorem drawOK2_comm (h : drawOK2 F P ops = true) {i p : Nat} {o q : Oper} (ho : ops[i]? = some o) (hq : ops[p]? = some q) (hp : p < i) (hn : ((ancGo [] ops.toList).getD i 0).testBit p = false) : comm2 F P ops q o = true := by
  have hi : i < ops.size := (Array.getElem?_eq_some_iff.1 ho).1
  have := List.all_eq_true.1 h i (by simpa using hi)
  rw [ho] at this
  simp only [Bool.and_eq_true] at this
  have := List.all_eq_true.1 this.2 p (by simpa using hp)
  rw [hn, hq] at this
  simpa using this

theorem drawOK2_dst (h : drawOK2 F P ops = true) (i : Nat) (o : Oper) (ho : ops[i]? = some o) (d : Tmp) (hd : o.dst = some d) : d ∉ F := by
  have hi : i < ops.size := (Array.getElem?_eq_some_iff.1 ho).1
  have := List.all_eq_true.1 h i (by simpa using hi)
  rw [ho] at this
  simp only [Bool.and_eq_true] at this
  have := this.1.1
  rw [hd] at this
  simpa using this
theorem any_ok2 (r : Option Nat) (hok : drawOK2 F P ops = true) {w0 : World} {G0 : Gh} {fl base : Nat} (hfl : fl ≤ base) {K : St → Prop} (hK : ∀ a b, Eqv a b → K a → K b) {Q : Exit → Act → World → Prop}
    (hQ : ∀ G st a w, RSim w0 G0 fl base [] G st a w → K st → Q .normal a w) : ∀ (fuel : Nat) (rem : List Nat) (listed : Array Bool) (G : Gh) (st : St) (a : Act) (w : World),
    rem.length ≤ fuel → rem.Pairwise (· < ·) → listed.size = ops.size → (∀ j, j ∈ rem ↔ j < ops.size ∧ listed.getD j true = false) →
    (∀ (i : Nat) o, ops[i]? = some o → listed.getD i false = true → ∀ e ∈ o.after, Region.binds .any e = true → listed.getD e.on false = true) →
    RSim w0 G0 fl base rem G st a w → FpOk F st.s → aOpsI P ops base K rem st → wpAnyIn (FR r) 0 P .any ops Q fuel listed a w := by
  intro fuel
  induction fuel with
  | zero =>
    intro rem listed G st a w hf hs hsz hr hd S hfp h
    have : rem = [] := List.length_eq_zero_iff.1 (by omega)
    subst this
    refine ⟨?_, hQ G st a w S h⟩
    cases hrd : Region.ready .any ops listed with
    | nil => rfl
    | cons i r =>
      obtain ⟨h1, h2, _⟩ := ready_mem (by rw [hrd]; simp : i ∈ Region.ready .any ops listed)
      have := (hr i).2 ⟨h1, h2⟩
      simp at this
  | succ fuel ih =>
    intro rem listed G st a w hf hs hsz hr hd S hfp h
    refine ⟨fun hnil => ?_, fun i hi => ?_⟩
    · cases rem with
      | nil => exact hQ G st a w S h
      | cons i r =>
        -- the first of what remains is ready
        exfalso
        obtain ⟨hi1, hi2⟩ := (hr i).1 (by simp)
        have hready : i ∈ Region.ready .any ops listed := by
          simp only [Region.ready, List.mem_filter, List.mem_range, Bool.and_eq_true, Bool.not_eq_true']
          refine ⟨hi1, hi2, ?_⟩
          rw [Array.getElem?_eq_getElem hi1]
          simp only [Option.map_some, Option.getD_some]
          refine Array.all_eq_true_iff_forall_mem.2 fun e he => ?_
          by_cases hb : Region.binds .any e = true
          · have hlt := drawOK2_edge hok (Array.getElem?_eq_getElem hi1) e he hb
            have : listed.getD e.on false = true := by
              have hne : e.on ∉ i :: r := by
                intro hm
                rcases List.mem_cons.1 hm with h' | h'
                · omega
                · have := (List.pairwise_cons.1 hs).1 _ h'; omega
              have h3 : ¬ (e.on < ops.size ∧ listed.getD e.on true = false) := fun h' => hne ((hr _).2 h')
              have hlt2 : e.on < listed.size := by omega
              simp only [Array.getD_eq_getD_getElem?, Array.getElem?_eq_getElem hlt2, Option.getD_some] at h3 ⊢
              cases hv : listed[e.on] with
              | true => rfl
              | false => exact absurd ⟨by omega, hv⟩ h3
            simp [this]
          · simp [hb]
        rw [hnil] at hready
        cases hready
    · obtain ⟨h1, h2, o, ho, h3⟩ := ready_mem hi
      have hmem := (hr i).2 ⟨h1, h2⟩
      obtain ⟨l1, l2, hl⟩ := List.append_of_mem hmem
      subst hl
      have hnd : (l1 ++ i :: l2).Nodup := hs.imp (fun h => Nat.ne_of_lt h)
      have hpw := List.pairwise_append.1 hs
      -- what stands ahead of i commutes with it
      have hcomm : ∀ p ∈ l1, ∀ q, ops[p]? = some q → comm2 F P ops q o = true := by
        intro p hp q hq
        have hpi : p < i := hpw.2.2 p hp i (by simp)
        refine drawOK2_comm hok ho hq hpi ?_
        have hgood := anc_good (ops := ops.toList) (listed := fun j => listed.getD j false = true) (fun j o' hj hl e he hb => hd j o' (by simpa using hj) hl e he hb) ops.toList [] rfl (by simp) (fun j m hm => by simp at hm)
        cases hb : ((ancGo [] ops.toList).getD i 0).testBit p with
        | false => rfl
        | true =>
          exfalso
          have hlen : i < (ancGo [] ops.toList).length := by rw [ancGo_length]; simpa using h1
          rw [List.getD_eq_getElem?_getD, List.getElem?_eq_getElem hlen] at hb
          have hlp := hgood i _ (List.getElem?_eq_getElem hlen) o (by simpa using ho) h3 p (by simpa using hb)
          obtain ⟨p1, p2⟩ := (hr p).1 (by simp [hp])
          have hps : p < listed.size := by omega
          simp only [Array.getD_eq_getD_getElem?, Array.getElem?_eq_getElem hps, Option.getD_some] at hlp p2
          rw [p2] at hlp; cases hlp
      have hTd : ∀ p ∈ l1, ∀ q, ops[p]? = some q → ∀ d, q.dst = some d → d ∉ o.looksAt ops := by
        intro p hp q hq d hd'
        have := hcomm p hp q hq
        simp only [comm2, Bool.and_eq_true] at this
        exact (Oper.apart_spec this.1).1 d hd'
      obtain ⟨st1, r1, r2, r3⟩ := real_run hfl l1 S hnd hTd h
      simp only [aOpsI, ho] at r3
      have hfacts : ∀ p ∈ l1, p ≠ i ∧ ∀ q, ops[p]? = some q → comm2 F P ops q o = true ∧ Facts2 F P ops st (base + p) (base + i) q o := by
        intro p hp
        have hpi : p < i := hpw.2.2 p hp i (by simp)
        refine ⟨by omega, fun q hq => ⟨hcomm p hp q hq, ⟨by omega, fun x hx hcd off e => ?_, fun hcd => ?_, fun hca => ?_, by rw [← r1]; exact r3.1⟩, hfp, fun hca => ?_⟩⟩
        · have := ev_ok S.sim.slots x
          rw [e] at this
          simp only [Rv] at this
          obtain ⟨_, _, _, hreg, _⟩ := this
          rw [(S.names p (by simp [hp])).1] at hreg; cases hreg
        · cases hh : st.h (base + i) with
          | none => rfl
          | some ob =>
            obtain ⟨_, hreg⟩ := (S.sim.inv.obj _ _ hh).hasReg
            rw [(S.names i (by simp)).1] at hreg; cases hreg
        · obtain ⟨X, hX⟩ := f_a (ops := ops) hca st.s
          have hv := r3.2
          rw [aVal_f (by rw [hca]; simp), fVal_agree (s' := st.s) (fun t ht => r2 t ht), hX] at hv
          cases X with
          | none => exact hv.elim
          | some x => exact ⟨x, fun nm h => by rw [hX]; rfl⟩
        · obtain ⟨hw, _, _, X, hX⟩ := f_ld (P := P) (ops := ops) hca hfp
          have hv := r3.2
          rw [aVal_f hw, fVal_agree (s' := st.s) (fun t ht => r2 t ht), hX] at hv
          cases X with
          | none => exact hv.elim
          | some x => exact ⟨x, fun nm h => by rw [hX]; rfl⟩
      have hfr := front2 (drawOK2_dst hok) ho hK l1 st hfacts h
      simp only [aOpsI, ho] at hfr
      have hmove : ∀ j, j ∈ i :: (l1 ++ l2) → j ∈ l1 ++ i :: l2 := by
        intro j hj
        simp only [List.mem_cons, List.mem_append] at hj ⊢
        rcases hj with rfl | hj | hj
        · exact .inr (.inl rfl)
        · exact .inl hj
        · exact .inr (.inr hj)
      have hnotin : i ∉ l1 ++ l2 := by
        intro hm
        have hnd2 := List.nodup_append.1 hnd
        rcases List.mem_append.1 hm with h' | h'
        · exact hnd2.2.2 i h' i (by simp) rfl
        · exact (List.nodup_cons.1 hnd2.2.1).1 h'
      have hres := op_ok (Q := Q) (S.sub hmove) hfl hnotin (aOp_keep hfr) (next := wpAnyIn (FR r) 0 P .any ops Q fuel (listed.setIfInBounds i true)) ?_ r
      · unfold wpOpIn
        rw [ho]
        simp only
        split at hres
        · rename_i hw; rw [if_pos hw]; exact hres
        · rename_i hw; rw [if_neg hw]; exact hres
      · intro G' st' a' w' S' h'
        have hsize : (listed.setIfInBounds i true).size = listed.size := by simp
        have hget : ∀ (j : Nat) (d : Bool), (listed.setIfInBounds i true).getD j d = if j = i then (if i < listed.size then true else d) else listed.getD j d := by
          intro j d
          simp only [Array.getD_eq_getD_getElem?, Array.getElem?_setIfInBounds]
          by_cases hji : i = j
          · subst hji; by_cases hh : i < listed.size <;> simp [hh]
          · rw [if_neg hji, if_neg (Ne.symm hji)]
        have hil : i < listed.size := by omega
        refine ih (l1 ++ l2) _ G' st' a' w' ?_ ?_ ?_ (fun j => ?_) (fun j o' hj hl e he hb => ?_) S' (fun t ht => by rw [h'.2.2.1 t (fun e => drawOK2_dst hok i o ho t e ht)]; exact hfp t ht) h'.1
        · simp only [List.length_append, List.length_cons] at hf ⊢; omega
        · exact List.pairwise_append.2 ⟨hpw.1, (List.pairwise_cons.1 hpw.2.1).2, fun x hx y hy => hpw.2.2 x hx y (by simp [hy])⟩
        · rw [hsize]; exact hsz
        · rw [hget]
          have hrj := hr j
          by_cases hji : j = i
          · subst hji
            simp only [if_true, hil]
            constructor
            · intro hm; exact absurd hm hnotin
            · rintro ⟨_, hc⟩; cases hc
          · rw [if_neg hji, ← hrj]
            simp only [List.mem_append, List.mem_cons]
            constructor
            · rintro (h' | h')
              · exact .inl h'
              · exact .inr (.inr h')
            · rintro (h' | h' | h')
              · exact .inl h'
              · exact absurd h' hji
              · exact .inr h'
        · rw [hget] at hl ⊢
          by_cases hei : e.on = i
          · simp [hei, hil]
          · rw [if_neg hei]
            by_cases hji : j = i
            · subst hji
              rw [ho] at hj; cases hj
              exact h3 e he hb
            · rw [if_neg hji] at hl
              exact hd j o' hj hl e he hb

/-- A region that draws its order is run in the text's order. -/
theorem ac_draw2 {fl : Nat} {Q : Exit → St → Prop} {st : St} {id : Nat} (hm : P.follows .mixedOrders = true) (hok : drawOK2 F P ops = true) (hfp : FpOk F st.s) (h : aOpsI P ops st.n (Q .normal) (List.range ops.size) { st with n := st.n + ops.size }) : ACode P fl (.region id ops true) Q st := by
  intro r w0 G a w hr S hf
  have S' : Sim w0 G st a w.drew := ⟨S.inv.drew, S.size, S.defers, S.slots, S.fresh⟩
  have hQ : ∀ (G' : Gh) (s : St) (a' : Act) (w' : World), RSim w0 G fl st.n [] G' s a' w' → (∃ s0, Eqv s0 s ∧ Q .normal s0) → ∃ G'' st', Ext fl G G'' ∧ fl ≤ st'.n ∧ Sim w0 G'' st' a' w' ∧ Q .normal st' := by
    rintro G' s a' w' S1 ⟨s0, e1, e2⟩
    exact ⟨G', s0, S1.ext, by rw [e1.2.2.1]; exact S1.lim, ⟨by rw [e1.2.1]; exact S1.sim.inv, by rw [e1.1]; exact S1.sim.size, S1.sim.defers, fun t => by rw [e1.2.2.2]; exact S1.sim.slots t, by rw [e1.2.2.1]; exact S1.sim.fresh⟩, e2⟩
  refine wpIn_region_any hm (any_ok2 r hok (base := st.n) (G0 := G) (w0 := w0) hf (K := fun s => ∃ s0, Eqv s0 s ∧ Q .normal s0) (fun a b e ⟨s0, e1, e2⟩ => ⟨s0, e1.trans e, e2⟩) hQ ops.size (List.range ops.size) (Array.replicate ops.size false) G _ a w.drew
    (by simp) List.pairwise_lt_range (by simp) (fun j => ?_) (fun i o ho hl => ?_) (region_start S' hf ops.size _ (fun j hj => by simpa using hj)) hfp (aOpsI_mono (fun s hs => ⟨s, Eqv.refl s, hs⟩) _ _ h))
  · simp only [List.mem_range]
    constructor
    · intro hj; exact ⟨hj, by simp [Array.getD_eq_getD_getElem?, hj]⟩
    · exact fun h => h.1
  · exfalso
    have hi : i < ops.size := (Array.getElem?_eq_some_iff.1 ho).1
    simp [Array.getD_eq_getD_getElem?, hi] at hl
end

theorem ac_draw2_h {F : List Nat} {P : Program} {fl : Nat} {Q : Exit → St → Prop} {st : St} {id : Nat} {ops : Array Oper} (hm : P.follows .mixedOrders = true) (hok : drawOK2 F P ops = true) (hfp : FpOk F st.s) (h : ∀ K : St → Prop, Hide (∀ s, Q .normal s → K s) → aOps P ops st.n K 0 ops.toList { st with n := st.n + ops.size }) : ACode P fl (.region id ops true) Q st := by
  refine ac_draw2 hm hok hfp ?_
  have := aOps_aOpsI ops.toList 0 rfl _ (h _ fun _ h => h)
  rwa [← List.range_eq_range', Array.length_toList] at this
/-- a box is frozen: from there on its pointer points at what never turns -/
theorem ac_fzbox {P : Program} {fl : Nat} {code : Code} {Q : Exit → St → Prop} {st : St} {t m : Nat} {c : List AV} (hm : st.h m = some (.cells c)) (ht : get st.s t = .ptr m 0)
    (h : ACode P fl code Q { st with s := (t, .fptr c) :: st.s, h := st.h.upd m none }) : ACode P fl code Q st := by
  intro r w0 G a w hr S hf
  obtain ⟨rg, vs, hreg, ok⟩ := S.inv.obj m _ hm
  have hle := Gh.le_freeze S.inv hm hreg
  have hx : Ext fl G (G.freeze w rg) := ⟨fun _ _ => rfl, hle.imm, ⟨[], rfl⟩, rfl, fun _ e => e⟩
  refine wpIn_mono (h r w0 (G.freeze w rg) a w hr ⟨S.inv.freeze hm hreg, S.size, S.defers, fun t' => ?_, S.fresh⟩ hf) fun _ _ _ ⟨G', st', e1, e2⟩ => ⟨G', st', hx.trans e1, e2⟩
  simp only [get]
  by_cases e : t' = t
  · subst e
    rw [if_pos rfl]
    have hv := S.slots t'
    rw [ht] at hv
    simp only [Rv] at hv ⊢
    obtain ⟨b, lo, tt, h1, h2⟩ := hv
    rw [hreg] at h1; cases h1
    refine ⟨_, vs, h2, RvL.mono hle.v _ _ ok.rel, fun j v hj => ?_⟩
    have hjl := (List.getElem?_eq_some_iff.1 hj).1
    have hlen := ok.rel.length
    have hl2 := ok.len
    rw [addr_add_lit]
    have hin : InReg (b, lo, tt) ⟨b, lo + 0 + j, none⟩ := by
      refine ⟨rfl, ?_, ?_⟩ <;> simp only at * <;> omega
    simp only [Gh.freeze, if_pos hin]
    exact ok.val j v hj
  · rw [if_neg e]
    exact (S.slots t').mono hle.v _ _
end Go.AM

namespace Go.AM
open Go.Proofs Nets
set_option maxRecDepth 10000
set_option maxHeartbeats 4000000
theorem relayChecks_spec (N : Net) (L : Link) (t : Int) : APure Try.prog 3 [encNet N, encLink L, iv .i64 t] (bv true) := by
  intro h n
  refine ACalls.pure (ACalls.entry (by kernel_rfl) fun hb _ => calls_of Try.func3 rfl (by kernel_rfl) (by simp [Try.ntmps3]) ?_)
  repeat' (first
    | (refine ac_seq_h fun K hK => ?_)
    | (refine ac_region_h fun K hK => ?_; simp (disch := omega) [go_sem, *, upd_ne, ilt_false, Try.ntmps3, encLink ])
    | (apply Hide.out hK; clear hK K; try with_reducible dsimp only [thenA])
    | (apply Hide.out ht; clear ht hf Kt Kf)
    | (apply Hide.out hf; clear ht hf Kt Kf)
    | (clear hK K; apply Hide.out hK; clear hK K; try with_reducible dsimp only [thenA])
    | (clear hK K; clear hK K; apply Hide.out hK; clear hK K; try with_reducible dsimp only [thenA])
    | (with_reducible refine APure.call (few_spec _) ?_; try simp (disch := omega) [go_sem, * ])
    | (with_reducible refine APure.call (nets_spec) ?_; try simp (disch := omega) [go_sem, * ])
    | (with_reducible refine APure.call (leave_spec _ _) ?_; try simp (disch := omega) [go_sem, * ])
    | (with_reducible refine APure.call (leave_ref _ _) ?_; try simp (disch := omega) [go_sem, * ])
    | (with_reducible refine APure.call (last_spec _ _) ?_; try simp (disch := omega) [go_sem, * ])
    | (with_reducible refine APure.call (last_ref _ _) ?_; try simp (disch := omega) [go_sem, * ])
    | (with_reducible refine APure.call (check_spec _) ?_; try simp (disch := omega) [go_sem, *, wrap64_id, upd_ne, mk3_true, flatten_replicate_one, stepK_if, ilt_true, ilt_false, ile_true, ile_false, Try.ntmps3, encLink ])
    | (with_reducible refine APure.call (check_ref _) ?_; try simp (disch := omega) [go_sem, *, wrap64_id, upd_ne, mk3_true, flatten_replicate_one, stepK_if, ilt_true, ilt_false, ile_true, ile_false, Try.ntmps3, encLink ])
    | (refine ac_block ?_)
    | (refine ac_skip ?_; simp only [thenA])
    | (refine ac_exit ?_; simp only [thenA, blockA, if_true, if_false, Nat.reduceEqDiff])
    | (with_reducible show nextK _ _ _ _ _ _ _; simp (disch := omega) [go_sem, *, wrap64_id, upd_ne, mk3_true, flatten_replicate_one, stepK_if, ilt_true, ilt_false, ile_true, ile_false, Try.ntmps3, encLink ])
    | (refine wantK_split (fun hc => ?_) (fun hc => ?_) <;> (try simp only [Bool.not_eq_true', Bool.not_eq_false', Bool.not_eq_eq_eq_not, Bool.not_true, Bool.not_false, decide_eq_true_eq, decide_eq_false_iff_not, Int.not_lt, Int.not_le] at hc) <;> (try (exfalso; omega)) <;> (try simp (disch := omega) [go_sem, * ]))
    | (refine ac_cond_h fun Kt Kf ht hf => ?_; simp (disch := omega) [go_sem, * ]; try (refine ⟨fun hc => ?_, fun hc => ?_⟩ <;> try (exfalso; omega))))
  · skip
    (refine ac_ret ?_; try dsimp only [thenA, blockA]; refine ⟨by simp, _, (by first | rfl | (simp (disch := omega) [go_sem, upd_ne] <;> rfl)), ?_⟩; refine ret_id ⟨fun k hk => (by first | rfl | (repeat rw [upd_ne _ _ _ _ (by omega)])), (by simp [go_sem, below]), (by simp [go_sem] <;> omega), by simp, by simp⟩)
  · refine ac_fzbox (m := n) (t := 3) (c := [iv .i64 N.st, encLinks N.nl N.links]) (by simp only [upd_ne _ _ _ _ (show n ≠ n + 1 by omega), upd_same]) (by simp [go_sem]) ?_
    refine ac_draw2_h (F := [3]) mixed (by kernel_rfl) (fun x hx => by simp at hx; subst hx; exact ⟨_, by simp [go_sem]; rfl⟩) fun K2 hK2 => ?_
    simp (disch := omega) [go_sem, *]
    repeat' (first
      | (refine ac_seq_h fun K hK => ?_)
      | (refine ac_region_h fun K hK => ?_; simp (disch := omega) [go_sem, *, wrap64_id, upd_ne, mk3_true, flatten_replicate_one, stepK_if, ilt_true, ilt_false, ile_true, ile_false, Try.ntmps3, encLink ])
      | (refine ac_draw_h mixed (by kernel_rfl) fun K hK => ?_; simp (disch := omega) [go_sem, *, wrap64_id, upd_ne, mk3_true, flatten_replicate_one, stepK_if, ilt_true, ilt_false, ile_true, ile_false, Try.ntmps3, encLink ])
      | (apply Hide.out hK; clear hK K; try with_reducible dsimp only [thenA])
      | (apply Hide.out ht; clear ht hf Kt Kf)
      | (apply Hide.out hf; clear ht hf Kt Kf)
      | (clear hK K; apply Hide.out hK; clear hK K; try with_reducible dsimp only [thenA])
      | (clear hK K; clear hK K; apply Hide.out hK; clear hK K; try with_reducible dsimp only [thenA])
      | (with_reducible refine APure.call (few_spec _) ?_; try simp (disch := omega) [go_sem, *, wrap64_id, upd_ne, mk3_true, flatten_replicate_one, stepK_if, ilt_true, ilt_false, ile_true, ile_false, Try.ntmps3, encLink ])
      | (with_reducible refine APure.call (nets_spec) ?_; try simp (disch := omega) [go_sem, * ])
      | (with_reducible refine APure.call (leave_spec _ _) ?_; try simp (disch := omega) [go_sem, *, wrap64_id, upd_ne, mk3_true, flatten_replicate_one, stepK_if, ilt_true, ilt_false, ile_true, ile_false, Try.ntmps3, encLink ])
      | (with_reducible refine APure.call (leave_ref _ _) ?_; try simp (disch := omega) [go_sem, *, wrap64_id, upd_ne, mk3_true, flatten_replicate_one, stepK_if, ilt_true, ilt_false, ile_true, ile_false, Try.ntmps3, encLink ])
      | (with_reducible refine APure.call (last_spec _ _) ?_; try simp (disch := omega) [go_sem, *, wrap64_id, upd_ne, mk3_true, flatten_replicate_one, stepK_if, ilt_true, ilt_false, ile_true, ile_false, Try.ntmps3, encLink ])
      | (with_reducible refine APure.call (last_ref _ _) ?_; try simp (disch := omega) [go_sem, *, wrap64_id, upd_ne, mk3_true, flatten_replicate_one, stepK_if, ilt_true, ilt_false, ile_true, ile_false, Try.ntmps3, encLink ])
      | (with_reducible refine APure.call (check_spec _) ?_; try simp (disch := omega) [go_sem, * ])
      | (with_reducible refine APure.call (check_ref _) ?_; try simp (disch := omega) [go_sem, * ])
      | (refine ac_block ?_)
      | (refine ac_skip ?_; simp only [thenA, blockA])
      | (refine ac_exit ?_; simp only [thenA, blockA, if_true, if_false, Nat.reduceEqDiff])
      | (with_reducible show nextK _ _ _ _ _ _ _; simp (disch := omega) [go_sem, *, wrap64_id, upd_ne, mk3_true, flatten_replicate_one, stepK_if, ilt_true, ilt_false, ile_true, ile_false, Try.ntmps3, encLink ])
      | (refine wantK_split (fun hc => ?_) (fun hc => ?_) <;> (try simp only [Bool.not_eq_true', Bool.not_eq_false', Bool.not_eq_eq_eq_not, Bool.not_true, Bool.not_false, decide_eq_true_eq, decide_eq_false_iff_not, Int.not_lt, Int.not_le] at hc) <;> (try (exfalso; omega)) <;> (try simp (disch := omega) [go_sem, *, wrap64_id, upd_ne, mk3_true, flatten_replicate_one, stepK_if, ilt_true, ilt_false, ile_true, ile_false, Try.ntmps3, encLink ]))
      | (refine ac_cond_h fun Kt Kf ht hf => ?_; simp (disch := omega) [go_sem, *, wrap64_id, upd_ne, mk3_true, flatten_replicate_one, stepK_if, ilt_true, ilt_false, ile_true, ile_false, Try.ntmps3, encLink ]; try (refine ⟨fun hc => ?_, fun hc => ?_⟩ <;> try (exfalso; omega))))
    refine hK2.out _ ?_
    dsimp only [thenA]
    refine hK.out _ ?_
    (refine ac_ret ?_; try dsimp only [thenA, blockA]; refine ⟨by simp, _, (by first | rfl | (simp (disch := omega) [go_sem, upd_ne] <;> rfl)), ?_⟩; refine ret_id ⟨fun k hk => (by first | rfl | (repeat rw [upd_ne _ _ _ _ (by omega)])), (by simp [go_sem, below]), (by simp [go_sem] <;> omega), by simp, by simp⟩)
  · skip
    (refine ac_ret ?_; try dsimp only [thenA, blockA]; refine ⟨by simp, _, (by first | rfl | (simp (disch := omega) [go_sem, upd_ne] <;> rfl)), ?_⟩; refine ret_id ⟨fun k hk => (by first | rfl | (repeat rw [upd_ne _ _ _ _ (by omega)])), (by simp [go_sem, below]), (by simp [go_sem] <;> omega), by simp, by simp⟩)
end Go.AM

namespace Nets
open Go.AM
theorem wayE_eq (N : Net) (s to t : Int) : wayE N s to t (askedE N t [s, to]) = (arrivesR N s to t (askedE N t [s])).2 := by
  rw [askedE2_eq]
  unfold askedE2 arrivesR wayE
  by_cases hE : askedE N t [s] = 0
  · obtain ⟨hC, hs, t0, t1⟩ := asked_zero hE
    obtain ⟨h0, h1⟩ := hs s (by simp)
    rw [arr_eq hC h0 h1 t0 t1]
    simp only [hE, if_true, ne_eq, not_true_eq_false, if_false]
    cases hb : bad N to <;> simp
    split <;> rfl
  · simp [hE]
theorem way_ok (N : Net) (s to t : Int) (h : wayE N s to t (askedE N t [s, to]) = 0) :
    checkWay N s to t (askedE N t [s, to]) (wayH N s to t (askedE N t [s, to])) = ((arrivesR N s to t (askedE N t [s])).1, 0) ∧ (wayH N s to t (askedE N t [s, to])).length ≤ 10 := by
  have h0 := h
  unfold wayE at h
  by_cases hE : askedE N t [s, to] = 0
  · rw [if_neg (by simp [hE])] at h
    split at h
    · cases h
    · rename_i hr
      obtain ⟨hC, hs, t0, t1⟩ := asked_zero hE
      obtain ⟨s0, s1⟩ := hs s (by simp)
      obtain ⟨k0, k1⟩ := hs to (by simp)
      have hE2 : askedE N t [s] = 0 := by
        have := askedE2_eq N s to t
        rw [hE] at this
        unfold askedE2 at this
        by_cases hz : askedE N t [s] = 0
        · exact hz
        · rw [if_neg hz] at this; exact absurd this.symm hz
      obtain ⟨w1, w2⟩ := wayP_ok hC s0 s1 k0 k1 t0 t1 (by omega)
      have hb : bad N to = false := by simp [bad, within]; omega
      rw [wayH, if_pos h0, hE]
      refine ⟨?_, w1⟩
      rw [checkWay, if_neg (by simp), cwE, if_neg (by omega), w2]
      simp only [if_true]
      rw [arrivesR, if_neg (by simp [hE2]), if_neg (by simp [hb]), if_neg (by rw [← arr_eq hC s0 s1 t0 t1]; exact hr), arr_eq hC s0 s1 t0 t1]
  · exfalso
    rw [if_pos hE] at h; exact hE h
theorem way_none (N : Net) (s to t e : Int) (h : wayE N s to t e ≠ 0) : wayH N s to t e = [] := by rw [wayH, if_neg h]
end Nets

namespace Go.AM
open Go.Proofs Nets
set_option maxRecDepth 10000
set_option maxHeartbeats 4000000
theorem APure.weak {P : Program} {f : FuncId} {args args' : List AV} {x : AV} (hc : APure P f args' x) (hw : ∀ G vs, RvL G args vs → RvL G args' vs) : APure P f args x := fun h n => call_weak hw (hc h n)
theorem wayV_rel {G : Gh} {l : List Hop} {v : Value} (h : Rv G (wayV l) v) : Rv G (.fslc (decide (l.length = 0)) (decide (l.length = 0)) 2 (l.map encHop)) v := by
  unfold wayV at h
  split at h
  · rename_i hl
    have : l = [] := List.length_eq_zero_iff.1 hl
    subst this
    simpa [Rv, RvE] using h
  · rename_i hl
    simpa [hl] using h
theorem relayWays_spec (N : Net) (s to t : Int) (n1 : Bool) (l : List Hop) (n2 : Bool) (m : List Int) :
    APure Try.prog 5 [encNet N, iv .i64 s, iv .i64 to, iv .i64 t, .fslc n1 false 2 (l.map encHop), .fslc n2 false 1 (m.map (iv .i64))] (bv true) := by
  intro h n
  refine ACalls.pure (ACalls.entry (by kernel_rfl) fun hb _ => calls_of Try.func5 rfl (by kernel_rfl) (by simp [Try.ntmps5]) ?_)
  by_cases hfew : l.length ≤ 50 ∧ m.length ≤ 20
  · obtain ⟨hl50, hm20⟩ := hfew
    have c23 := way_spec N s to t
    have c24 := arrives_ref N s to t
    have c26 := checkWay_spec N s to t n1 false l (by omega)
    have c25 := checkWay_ref N s to t n1 false l (by omega)
    have c27 := checkBounds_spec N s t n2 m (by omega)
    have c28 := checkBounds_ref N s t n2 m (by omega)
    rw [← askedE2_eq] at c25
    have e1 := wayE_eq N s to t
    rw [← e1] at c24
    generalize checkWay N s to t (askedE N t [s, to]) l = X at c25 c26
    generalize checkBounds N s t (askedE N t [s]) m = Y at c27 c28
    by_cases hE : wayE N s to t (askedE N t [s, to]) = 0
    · obtain ⟨w1, w2⟩ := way_ok N s to t hE
      have c25w : APure Try.prog 25 [encNet N, iv .i64 s, iv .i64 to, iv .i64 t, wayV (wayH N s to t (askedE N t [s, to]))] (.tup [iv .i64 (arrivesR N s to t (askedE N t [s])).1, iv .i64 0]) := by
        have := checkWay_ref N s to t (decide ((wayH N s to t (askedE N t [s, to])).length = 0)) (decide ((wayH N s to t (askedE N t [s, to])).length = 0)) (wayH N s to t (askedE N t [s, to])) (by omega)
        rw [← askedE2_eq, w1] at this
        refine this.weak fun G vs hv => ?_
        simp only [RvL] at hv ⊢
        obtain ⟨v0, r0, rfl, g0, v1, r1, rfl, g1, v2, r2, rfl, g2, v3, r3, rfl, g3, v4, r4, rfl, g4, g5⟩ := hv
        exact ⟨v0, _, rfl, g0, v1, _, rfl, g1, v2, _, rfl, g2, v3, _, rfl, g3, v4, _, rfl, wayV_rel g4, g5⟩
      rw [hE] at c23 c24
      generalize wayV (wayH N s to t (askedE N t [s, to])) = V at c23 c25w
      generalize (arrivesR N s to t (askedE N t [s])).1 = A at c24 c25w
      clear w1 w2 hE e1
      repeat' (first
        | (refine ac_seq_h fun K hK => ?_)
        | (refine ac_region_h fun K hK => ?_; simp (disch := omega) [go_sem, *, Try.ntmps5 ])
        | (apply Hide.out hK; clear hK K; try with_reducible dsimp only [thenA])
        | (apply Hide.out ht; clear ht hf Kt Kf)
        | (apply Hide.out hf; clear ht hf Kt Kf)
        | (clear hK K; apply Hide.out hK; clear hK K; try with_reducible dsimp only [thenA])
        | (clear hK K; clear hK K; apply Hide.out hK; clear hK K; try with_reducible dsimp only [thenA])
        | (with_reducible refine APure.call (few_spec _) ?_; try simp (disch := omega) [go_sem, * ])
        | (with_reducible refine APure.call (nets_spec) ?_; try simp (disch := omega) [go_sem, * ])
        | (with_reducible refine APure.call (c23) ?_; try simp (disch := omega) [go_sem, * ])
        | (with_reducible refine APure.call (c24) ?_; try simp (disch := omega) [go_sem, * ])
        | (with_reducible refine APure.call (c25w) ?_; try simp (disch := omega) [go_sem, * ])
        | (with_reducible refine APure.call (c26) ?_; try simp (disch := omega) [go_sem, * ])
        | (with_reducible refine APure.call (c25) ?_; try simp (disch := omega) [go_sem, * ])
        | (refine ac_block ?_)
        | (refine ac_skip ?_; simp only [thenA])
        | (refine ac_exit ?_; simp only [thenA, blockA, if_true, if_false, Nat.reduceEqDiff])
        | (with_reducible show nextK _ _ _ _ _ _ _; simp (disch := omega) [go_sem, *, wrap64_id, upd_ne, mk3_true, flatten_replicate_one, stepK_if, ilt_true, ilt_false, ile_true, ile_false, Try.ntmps5 ])
        | (refine wantK_split (fun hc => ?_) (fun hc => ?_) <;> (try simp only [Bool.not_eq_true', Bool.not_eq_false', Bool.not_eq_eq_eq_not, Bool.not_true, Bool.not_false, decide_eq_true_eq, decide_eq_false_iff_not, Int.not_lt, Int.not_le] at hc) <;> (try (exfalso; omega)) <;> (try simp (disch := omega) [go_sem, *, ilt_false ]))
        | (refine ac_cond_h fun Kt Kf ht hf => ?_; simp (disch := omega) [go_sem, * ]; try (refine ⟨fun hc => ?_, fun hc => ?_⟩ <;> try (exfalso; omega))))
      · refine ac_fzbox (m := n) (t := 6) (c := [iv .i64 N.st, encLinks N.nl N.links]) (by simp only [upd_same]) (by simp [go_sem]) ?_
        refine ac_draw2_h (F := [6]) mixed (by kernel_rfl) (fun x hx => by simp at hx; subst hx; exact ⟨_, by simp [go_sem]; rfl⟩) fun K2 hK2 => ?_
        simp (disch := omega) [go_sem, *]
        repeat' (first
          | (refine ac_seq_h fun K hK => ?_)
          | (refine ac_region_h fun K hK => ?_; simp (disch := omega) [go_sem, *, wrap64_id, upd_ne, mk3_true, flatten_replicate_one, stepK_if, ilt_true, ilt_false, ile_true, ile_false, Try.ntmps5 ])
          | (refine ac_draw_h mixed (by kernel_rfl) fun K hK => ?_; simp (disch := omega) [go_sem, *, wrap64_id, upd_ne, mk3_true, flatten_replicate_one, stepK_if, ilt_true, ilt_false, ile_true, ile_false, Try.ntmps5 ])
          | (apply Hide.out hK; clear hK K; try with_reducible dsimp only [thenA])
          | (apply Hide.out ht; clear ht hf Kt Kf)
          | (apply Hide.out hf; clear ht hf Kt Kf)
          | (clear hK K; apply Hide.out hK; clear hK K; try with_reducible dsimp only [thenA])
          | (clear hK K; clear hK K; apply Hide.out hK; clear hK K; try with_reducible dsimp only [thenA])
          | (with_reducible refine APure.call (few_spec _) ?_; try simp (disch := omega) [go_sem, *, wrap64_id, upd_ne, mk3_true, flatten_replicate_one, stepK_if, ilt_true, ilt_false, ile_true, ile_false, Try.ntmps5 ])
          | (with_reducible refine APure.call (nets_spec) ?_; try simp (disch := omega) [go_sem, * ])
          | (with_reducible refine APure.call (c27) ?_; try simp (disch := omega) [go_sem, * ])
          | (with_reducible refine APure.call (c28) ?_; try simp (disch := omega) [go_sem, * ])
          | (refine ac_block ?_)
          | (refine ac_skip ?_; simp only [thenA, blockA])
          | (refine ac_exit ?_; simp only [thenA, blockA, if_true, if_false, Nat.reduceEqDiff])
          | (with_reducible show nextK _ _ _ _ _ _ _; simp (disch := omega) [go_sem, *, wrap64_id, upd_ne, mk3_true, flatten_replicate_one, stepK_if, ilt_true, ilt_false, ile_true, ile_false, Try.ntmps5 ])
          | (refine wantK_split (fun hc => ?_) (fun hc => ?_) <;> (try simp only [Bool.not_eq_true', Bool.not_eq_false', Bool.not_eq_eq_eq_not, Bool.not_true, Bool.not_false, decide_eq_true_eq, decide_eq_false_iff_not, Int.not_lt, Int.not_le] at hc) <;> (try (exfalso; omega)) <;> (try simp (disch := omega) [go_sem, *, wrap64_id, upd_ne, mk3_true, flatten_replicate_one, stepK_if, ilt_true, ilt_false, ile_true, ile_false, Try.ntmps5 ]))
          | (refine ac_cond_h fun Kt Kf ht hf => ?_; simp (disch := omega) [go_sem, *, wrap64_id, upd_ne, mk3_true, flatten_replicate_one, stepK_if, ilt_true, ilt_false, ile_true, ile_false, Try.ntmps5 ]; try (refine ⟨fun hc => ?_, fun hc => ?_⟩ <;> try (exfalso; omega))))
        refine hK2.out _ ?_
        dsimp only [thenA]
        refine hK.out _ ?_
        (refine ac_ret ?_; try dsimp only [thenA, blockA]; refine ⟨by simp, _, (by first | rfl | (simp (disch := omega) [go_sem, upd_ne] <;> rfl)), ?_⟩; refine ret_id ⟨fun k hk => (by first | rfl | (repeat rw [upd_ne _ _ _ _ (by omega)])), (by simp [go_sem, below]), (by simp [go_sem] <;> omega), by simp, by simp⟩)
      · skip
        (refine ac_ret ?_; try dsimp only [thenA, blockA]; refine ⟨by simp, _, (by first | rfl | (simp (disch := omega) [go_sem, upd_ne] <;> rfl)), ?_⟩; refine ret_id ⟨fun k hk => (by first | rfl | (repeat rw [upd_ne _ _ _ _ (by omega)])), (by simp [go_sem, below]), (by simp [go_sem] <;> omega), by simp, by simp⟩)
    · have hH := way_none N s to t _ hE
      rw [hH] at c23
      have c23 : APure Try.prog 23 [encNet N, iv .i64 s, iv .i64 to, iv .i64 t] (.tup [.fslc true true 0 [], iv .i64 (wayE N s to t (askedE N t [s, to]))]) := c23
      generalize wayE N s to t (askedE N t [s, to]) = E at *
      generalize (arrivesR N s to t (askedE N t [s])).1 = A at c24
      clear e1 hH
      have hEb : (E != 0) = true := by simpa using hE
      have hEc : (E == 0) = false := by simpa using hE
      repeat' (first
        | (refine ac_seq_h fun K hK => ?_)
        | (refine ac_region_h fun K hK => ?_; simp (disch := omega) [go_sem, *, Try.ntmps5 ])
        | (apply Hide.out hK; clear hK K; try with_reducible dsimp only [thenA])
        | (apply Hide.out ht; clear ht hf Kt Kf)
        | (apply Hide.out hf; clear ht hf Kt Kf)
        | (clear hK K; apply Hide.out hK; clear hK K; try with_reducible dsimp only [thenA])
        | (clear hK K; clear hK K; apply Hide.out hK; clear hK K; try with_reducible dsimp only [thenA])
        | (with_reducible refine APure.call (few_spec _) ?_; try simp (disch := omega) [go_sem, * ])
        | (with_reducible refine APure.call (nets_spec) ?_; try simp (disch := omega) [go_sem, * ])
        | (with_reducible refine APure.call (c23) ?_; try simp (disch := omega) [go_sem, * ])
        | (with_reducible refine APure.call (c24) ?_; try simp (disch := omega) [go_sem, * ])
        | (with_reducible refine APure.call (c26) ?_; try simp (disch := omega) [go_sem, * ])
        | (with_reducible refine APure.call (c25) ?_; try simp (disch := omega) [go_sem, * ])
        | (refine ac_block ?_)
        | (refine ac_skip ?_; simp only [thenA])
        | (refine ac_exit ?_; simp only [thenA, blockA, if_true, if_false, Nat.reduceEqDiff])
        | (with_reducible show nextK _ _ _ _ _ _ _; simp (disch := omega) [go_sem, *, wrap64_id, upd_ne, mk3_true, flatten_replicate_one, stepK_if, ilt_true, ilt_false, ile_true, ile_false, Try.ntmps5 ])
        | (refine wantK_split (fun hc => ?_) (fun hc => ?_) <;> (try simp only [Bool.not_eq_true', Bool.not_eq_false', Bool.not_eq_eq_eq_not, Bool.not_true, Bool.not_false, decide_eq_true_eq, decide_eq_false_iff_not, Int.not_lt, Int.not_le] at hc) <;> (try (exfalso; omega)) <;> (try simp (disch := omega) [go_sem, *, ilt_false ]))
        | (refine ac_cond_h fun Kt Kf ht hf => ?_; simp (disch := omega) [go_sem, * ]; try (refine ⟨fun hc => ?_, fun hc => ?_⟩ <;> try (exfalso; omega))))
      · refine ac_fzbox (m := n) (t := 6) (c := [iv .i64 N.st, encLinks N.nl N.links]) (by simp only [upd_same]) (by simp [go_sem]) ?_
        refine ac_draw2_h (F := [6]) mixed (by kernel_rfl) (fun x hx => by simp at hx; subst hx; exact ⟨_, by simp [go_sem]; rfl⟩) fun K2 hK2 => ?_
        simp (disch := omega) [go_sem, *]
        repeat' (first
          | (refine ac_seq_h fun K hK => ?_)
          | (refine ac_region_h fun K hK => ?_; simp (disch := omega) [go_sem, *, wrap64_id, upd_ne, mk3_true, flatten_replicate_one, stepK_if, ilt_true, ilt_false, ile_true, ile_false, Try.ntmps5 ])
          | (refine ac_draw_h mixed (by kernel_rfl) fun K hK => ?_; simp (disch := omega) [go_sem, *, wrap64_id, upd_ne, mk3_true, flatten_replicate_one, stepK_if, ilt_true, ilt_false, ile_true, ile_false, Try.ntmps5 ])
          | (apply Hide.out hK; clear hK K; try with_reducible dsimp only [thenA])
          | (apply Hide.out ht; clear ht hf Kt Kf)
          | (apply Hide.out hf; clear ht hf Kt Kf)
          | (clear hK K; apply Hide.out hK; clear hK K; try with_reducible dsimp only [thenA])
          | (clear hK K; clear hK K; apply Hide.out hK; clear hK K; try with_reducible dsimp only [thenA])
          | (with_reducible refine APure.call (few_spec _) ?_; try simp (disch := omega) [go_sem, *, wrap64_id, upd_ne, mk3_true, flatten_replicate_one, stepK_if, ilt_true, ilt_false, ile_true, ile_false, Try.ntmps5 ])
          | (with_reducible refine APure.call (nets_spec) ?_; try simp (disch := omega) [go_sem, * ])
          | (with_reducible refine APure.call (c27) ?_; try simp (disch := omega) [go_sem, * ])
          | (with_reducible refine APure.call (c28) ?_; try simp (disch := omega) [go_sem, * ])
          | (refine ac_block ?_)
          | (refine ac_skip ?_; simp only [thenA, blockA])
          | (refine ac_exit ?_; simp only [thenA, blockA, if_true, if_false, Nat.reduceEqDiff])
          | (with_reducible show nextK _ _ _ _ _ _ _; simp (disch := omega) [go_sem, *, wrap64_id, upd_ne, mk3_true, flatten_replicate_one, stepK_if, ilt_true, ilt_false, ile_true, ile_false, Try.ntmps5 ])
          | (refine wantK_split (fun hc => ?_) (fun hc => ?_) <;> (try simp only [Bool.not_eq_true', Bool.not_eq_false', Bool.not_eq_eq_eq_not, Bool.not_true, Bool.not_false, decide_eq_true_eq, decide_eq_false_iff_not, Int.not_lt, Int.not_le] at hc) <;> (try (exfalso; omega)) <;> (try simp (disch := omega) [go_sem, *, wrap64_id, upd_ne, mk3_true, flatten_replicate_one, stepK_if, ilt_true, ilt_false, ile_true, ile_false, Try.ntmps5 ]))
          | (refine ac_cond_h fun Kt Kf ht hf => ?_; simp (disch := omega) [go_sem, *, wrap64_id, upd_ne, mk3_true, flatten_replicate_one, stepK_if, ilt_true, ilt_false, ile_true, ile_false, Try.ntmps5 ]; try (refine ⟨fun hc => ?_, fun hc => ?_⟩ <;> try (exfalso; omega))))
        refine hK2.out _ ?_
        dsimp only [thenA]
        refine hK.out _ ?_
        (refine ac_ret ?_; try dsimp only [thenA, blockA]; refine ⟨by simp, _, (by first | rfl | (simp (disch := omega) [go_sem, upd_ne] <;> rfl)), ?_⟩; refine ret_id ⟨fun k hk => (by first | rfl | (repeat rw [upd_ne _ _ _ _ (by omega)])), (by simp [go_sem, below]), (by simp [go_sem] <;> omega), by simp, by simp⟩)
      · skip
        (refine ac_ret ?_; try dsimp only [thenA, blockA]; refine ⟨by simp, _, (by first | rfl | (simp (disch := omega) [go_sem, upd_ne] <;> rfl)), ?_⟩; refine ret_id ⟨fun k hk => (by first | rfl | (repeat rw [upd_ne _ _ _ _ (by omega)])), (by simp [go_sem, below]), (by simp [go_sem] <;> omega), by simp, by simp⟩)
  · by_cases h50 : 50 < l.length
    · skip
      repeat' (first
        | (refine ac_seq_h fun K hK => ?_)
        | (refine ac_region_h fun K hK => ?_; simp (disch := omega) [go_sem, *, Try.ntmps5 ])
        | (apply Hide.out hK; clear hK K; try with_reducible dsimp only [thenA])
        | (apply Hide.out ht; clear ht hf Kt Kf)
        | (apply Hide.out hf; clear ht hf Kt Kf)
        | (clear hK K; apply Hide.out hK; clear hK K; try with_reducible dsimp only [thenA])
        | (clear hK K; clear hK K; apply Hide.out hK; clear hK K; try with_reducible dsimp only [thenA])
        | (with_reducible refine APure.call (few_spec _) ?_; try simp (disch := omega) [go_sem, * ])
        | (with_reducible refine APure.call (nets_spec) ?_; try simp (disch := omega) [go_sem, * ])
        | (refine ac_block ?_)
        | (refine ac_skip ?_; simp only [thenA, blockA])
        | (refine ac_exit ?_; simp only [thenA, blockA, if_true, if_false, Nat.reduceEqDiff])
        | (with_reducible show nextK _ _ _ _ _ _ _; simp (disch := omega) [go_sem, *, wrap64_id, upd_ne, mk3_true, flatten_replicate_one, stepK_if, ilt_true, ilt_false, ile_true, ile_false, Try.ntmps5 ])
        | (refine wantK_split (fun hc => ?_) (fun hc => ?_) <;> (try simp only [Bool.not_eq_true', Bool.not_eq_false', Bool.not_eq_eq_eq_not, Bool.not_true, Bool.not_false, decide_eq_true_eq, decide_eq_false_iff_not, Int.not_lt, Int.not_le] at hc) <;> (try (exfalso; omega)) <;> (try simp (disch := omega) [go_sem, *, ilt_true ]))
        | (refine ac_cond_h fun Kt Kf ht hf => ?_; simp (disch := omega) [go_sem, * ]; try (refine ⟨fun hc => ?_, fun hc => ?_⟩ <;> try (exfalso; omega))))
      all_goals (refine ac_ret ?_; try dsimp only [thenA, blockA]; refine ⟨by simp, _, (by first | rfl | (simp (disch := omega) [go_sem, upd_ne] <;> rfl)), ?_⟩; refine ret_id ⟨fun k hk => (by first | rfl | (repeat rw [upd_ne _ _ _ _ (by omega)])), (by simp [go_sem, below]), (by simp [go_sem] <;> omega), by simp, by simp⟩)
    · have h20 : 20 < m.length := by omega
      repeat' (first
        | (refine ac_seq_h fun K hK => ?_)
        | (refine ac_region_h fun K hK => ?_; simp (disch := omega) [go_sem, *, Try.ntmps5 ])
        | (apply Hide.out hK; clear hK K; try with_reducible dsimp only [thenA])
        | (apply Hide.out ht; clear ht hf Kt Kf)
        | (apply Hide.out hf; clear ht hf Kt Kf)
        | (clear hK K; apply Hide.out hK; clear hK K; try with_reducible dsimp only [thenA])
        | (clear hK K; clear hK K; apply Hide.out hK; clear hK K; try with_reducible dsimp only [thenA])
        | (with_reducible refine APure.call (few_spec _) ?_; try simp (disch := omega) [go_sem, * ])
        | (with_reducible refine APure.call (nets_spec) ?_; try simp (disch := omega) [go_sem, * ])
        | (refine ac_block ?_)
        | (refine ac_skip ?_; simp only [thenA, blockA])
        | (refine ac_exit ?_; simp only [thenA, blockA, if_true, if_false, Nat.reduceEqDiff])
        | (with_reducible show nextK _ _ _ _ _ _ _; simp (disch := omega) [go_sem, *, wrap64_id, upd_ne, mk3_true, flatten_replicate_one, stepK_if, ilt_true, ilt_false, ile_true, ile_false, Try.ntmps5 ])
        | (refine wantK_split (fun hc => ?_) (fun hc => ?_) <;> (try simp only [Bool.not_eq_true', Bool.not_eq_false', Bool.not_eq_eq_eq_not, Bool.not_true, Bool.not_false, decide_eq_true_eq, decide_eq_false_iff_not, Int.not_lt, Int.not_le] at hc) <;> (try (exfalso; omega)) <;> (try simp (disch := omega) [go_sem, *, ilt_true, ilt_false ]))
        | (refine ac_cond_h fun Kt Kf ht hf => ?_; simp (disch := omega) [go_sem, * ]; try (refine ⟨fun hc => ?_, fun hc => ?_⟩ <;> try (exfalso; omega))))
      all_goals (refine ac_ret ?_; try dsimp only [thenA, blockA]; refine ⟨by simp, _, (by first | rfl | (simp (disch := omega) [go_sem, upd_ne] <;> rfl)), ?_⟩; refine ret_id ⟨fun k hk => (by first | rfl | (repeat rw [upd_ne _ _ _ _ (by omega)])), (by simp [go_sem, below]), (by simp [go_sem] <;> omega), by simp, by simp⟩)
end Go.AM

namespace Go.AM
open Go.RowKit Go.ChangeShapes Go.WideShapes Go.Proofs Go.Deep Nets
section
variable {H : Type} {enc : TypeId × Value → H} {W : World} {base : Nat} {sp : Nat → Bool} {hd : Bool}
theorem rd_hops {r : Reach} {b0 : Nat} {v : Value} {d : DataW H} {p : List MemPlace} (hv : Value.okWide Try.prog W r b0 43 v) (h : DataW.Trod enc Try.prog W base sp hd 43 v d p) : ∃ nl l, Rv (G0 W) (.fslc nl false 2 (l.map encHop)) v ∧ (nl = true → l = []) ∧ l.length ≤ maxLen := by
  obtain ⟨a, len, cap, rfl⟩ := okWide_slice Try.underlying43 hv
  obtain ⟨fuel, hf⟩ := h
  exact rd_slice encHop Try.underlying43 (by kernel_rfl : Try.prog.cellsOf 80 = 2) (fun x => by simp [cellsOf, AV.scalar]) elem_hop hf
theorem rd_ints {r : Reach} {b0 : Nat} {v : Value} {d : DataW H} {p : List MemPlace} (hv : Value.okWide Try.prog W r b0 35 v) (h : DataW.Trod enc Try.prog W base sp hd 35 v d p) : ∃ nl l, Rv (G0 W) (.fslc nl false 1 (l.map (iv .i64))) v ∧ (nl = true → l = []) ∧ l.length ≤ maxLen := by
  obtain ⟨a, len, cap, rfl⟩ := okWide_slice Try.underlying35 hv
  obtain ⟨fuel, hf⟩ := h
  exact rd_slice (iv .i64) Try.underlying35 (by kernel_rfl : Try.prog.cellsOf 3 = 1) (fun x => by simp [cellsOf, AV.scalar]) elem_int hf
theorem rd_span {r : Reach} {b0 : Nat} {v : Value} {d : DataW H} {p : List MemPlace} (hv : Value.okWide Try.prog W r b0 54 v) (h : DataW.Trod enc Try.prog W base sp hd 54 v d p) : ∃ x, Rv (G0 W) (encSpan x) v := by
  obtain ⟨cs, rfl, hsz⟩ := okWide_struct Try.underlying54 hv
  have h54 : Try.prog.cellsOf 54 = 2 := by kernel_rfl
  rw [h54] at hsz
  obtain ⟨l⟩ := cs
  obtain ⟨fuel, hf⟩ := h
  obtain ⟨xs, n', _, _, _, hx, hf⟩ := DataW.trod_struct Try.underlying54 hf
  obtain ⟨c0, c1, rfl⟩ : ∃ c0 c1, l = [c0, c1] := by
    match l, hsz with
    | [c0, c1], _ => exact ⟨c0, c1, rfl⟩
  have h3 : Try.prog.cellsOf 3 = 1 := by kernel_rfl
  have f0 : DataW.trod enc Try.prog W base sp hd n' 3 (List.take (Try.prog.cellsOf 3) (List.drop 0 [c0, c1])) = xs[0]? := hf 0 _ rfl
  have f1 : DataW.trod enc Try.prog W base sp hd n' 3 (List.take (Try.prog.cellsOf 3) (List.drop 1 [c0, c1])) = xs[1]? := hf 1 _ rfl
  simp only [h3, List.drop_zero, List.take_succ_cons, List.take_zero, List.drop_succ_cons] at f0 f1
  obtain ⟨x0, x1, rfl⟩ : ∃ x0 x1, xs = [x0, x1] := by
    match xs, hx with
    | [c0, c1], _ => exact ⟨c0, c1, rfl⟩
  obtain ⟨a, rfl⟩ := rd_int Try.underlying3 f0
  obtain ⟨b, rfl⟩ := rd_int Try.underlying3 f1
  exact ⟨⟨a, b⟩, by simp [Rv, RvL, Value.oneCell']⟩
end
end Go.AM
