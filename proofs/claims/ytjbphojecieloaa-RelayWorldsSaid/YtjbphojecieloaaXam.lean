/- The abstract machine: regions that draw their order and leave memory as it is, or change it in a chain; a row frozen inside an object. Conditions: as each theorem says. -/
import Derived.Test.YtjbphojecieloaaAme
namespace Go.AM
open Go.RowKit
/-- what an operation looks at is made outside or by one that it waits for -/
def qOK (ops : Array Oper) : Bool := (List.range ops.size).all fun i => match ops[i]? with
  | none => false
  | some o => ((o.looksAt ops).all fun t => (List.range ops.size).all fun j => match ops[j]? with
      | none => false
      | some q => q.dst != some t || (decide (j < i) && o.after.toList.any fun e => e.on == j && Region.binds .any e)) &&
    ((List.range i).all fun j => match ops[j]? with
      | none => false
      | some q => q.dst == none || q.dst != o.dst) &&
    o.after.toList.all fun e => !Region.binds .any e || decide (e.on < i)
def pS (d : Option Tmp) (x : AV) (s : List (Nat × AV)) : List (Nat × AV) := match d with
  | some t => (t, x) :: s
  | none => s
theorem put_pS (nt n : Nat) (s : List (Nat × AV)) (h : AHeap) (d : Option Tmp) (x : AV) : put ⟨nt, s, h, n⟩ d x = ⟨nt, pS d x s, h, n⟩ := by
  cases d <;> rfl
theorem get_pS_ne {d : Option Tmp} {x : AV} {s : List (Nat × AV)} {t : Tmp} (h : d ≠ some t) : get (pS d x s) t = get s t := by
  cases d with
  | none => rfl
  | some u =>
    simp only [pS, get]
    rw [if_neg (fun e => h (by rw [e]))]
theorem get_pS {x : AV} {s : List (Nat × AV)} {t : Tmp} : get (pS (some t) x s) t = x := by simp [pS, get]
section
variable {P : Program} {ops : Array Oper}
def canon (ops : Array Oper) (S0 : List (Nat × AV)) (X : Nat → AV) : Nat → List (Nat × AV)
  | 0 => S0
  | i + 1 => match ops[i]? with
    | some o => pS o.dst (X i) (canon ops S0 X i)
    | none => canon ops S0 X i
theorem canon_congr {S0 : List (Nat × AV)} {X Y : Nat → AV} : ∀ (i : Nat), (∀ j, j < i → X j = Y j) → canon ops S0 X i = canon ops S0 Y i
  | 0, _ => rfl
  | i + 1, h => by
    simp only [canon]
    rw [canon_congr i fun j hj => h j (by omega), h i (by omega)]
/-- the operations one by one, in the text's order; each leaves memory as it is -/
def aQ (P : Program) (ops : Array Oper) (base nt : Nat) (h : AHeap) (n : Nat) (K : List (Nat × AV) → Prop) : Nat → List Oper → List (Nat × AV) → Prop
  | _, [], s => K s
  | i, o :: r, s => dstOk nt o.dst = true ∧ ∃ x, aVal P ops (base + i) o s h n (fun x' h' n' => x' = x ∧ h' = h ∧ n' = n) ∧ aQ P ops base nt h n K (i + 1) r (pS o.dst x s)
def QF (P : Program) (ops : Array Oper) (base nt : Nat) (h : AHeap) (n : Nat) (S0 : List (Nat × AV)) (X : Nat → AV) (i : Nat) (o : Oper) : Prop :=
  dstOk nt o.dst = true ∧ aVal P ops (base + i) o (canon ops S0 X i) h n (fun x' h' n' => x' = X i ∧ h' = h ∧ n' = n)
theorem aQ_facts {base nt : Nat} {h : AHeap} {n : Nat} {K : List (Nat × AV) → Prop} {S0 : List (Nat × AV)} : ∀ (l : List Oper) (i : Nat) (X0 : Nat → AV), ops.toList.drop i = l → aQ P ops base nt h n K i l (canon ops S0 X0 i) →
    ∃ X, (∀ j, j < i → X j = X0 j) ∧ (∀ j o, i ≤ j → ops[j]? = some o → QF P ops base nt h n S0 X j o) ∧ K (canon ops S0 X ops.size)
  | [], i, X0, hd, hq => by
    have hle : ops.size ≤ i := by
      have := congrArg List.length hd
      rw [List.length_drop, Array.length_toList] at this
      simp at this; omega
    refine ⟨X0, fun _ _ => rfl, fun j o hj ho => ?_, ?_⟩
    · have := (Array.getElem?_eq_some_iff.1 ho).1; omega
    · have : ∀ k, canon ops S0 X0 (ops.size + k) = canon ops S0 X0 ops.size := by
        intro k
        induction k with
        | zero => rfl
        | succ k ih => rw [← Nat.add_assoc]; simp only [canon]; rw [Array.getElem?_eq_none (by omega)]; exact ih
      have e := this (i - ops.size)
      rw [show ops.size + (i - ops.size) = i by omega] at e
      rw [← e]; exact hq
  | o :: r, i, X0, hd, hq => by
    obtain ⟨h1, x, h2, h3⟩ := hq
    have hi : ops[i]? = some o := by
      have := congrArg List.head? hd
      rw [List.head?_drop] at this
      simpa using this
    have hd2 : ops.toList.drop (i + 1) = r := by
      have := congrArg List.tail hd
      rw [List.tail_drop] at this
      simpa using this
    obtain ⟨X1, hX1⟩ : ∃ X1 : Nat → AV, X1 = fun j => if j = i then x else X0 j := ⟨_, rfl⟩
    have e0 : canon ops S0 X1 i = canon ops S0 X0 i := canon_congr i fun j hj => by rw [hX1]; simp only; rw [if_neg (by omega)]
    have e1 : X1 i = x := by rw [hX1]; simp
    have e2 : canon ops S0 X1 (i + 1) = pS o.dst x (canon ops S0 X0 i) := by
      simp only [canon]; rw [hi, e0, e1]
    rw [← e2] at h3
    obtain ⟨X, g1, g2, g3⟩ := aQ_facts r (i + 1) X1 hd2 h3
    have eX : canon ops S0 X i = canon ops S0 X0 i := by rw [← e0]; exact canon_congr i fun j hj => g1 j (by omega)
    refine ⟨X, fun j hj => ?_, fun j o' hj ho' => ?_, g3⟩
    · rw [g1 j (by omega), hX1]; simp only; rw [if_neg (by omega)]
    · by_cases hji : j = i
      · subst hji
        rw [hi] at ho'; cases ho'
        refine ⟨h1, ?_⟩
        rw [eX, g1 j (by omega), e1]; exact h2
      · exact g2 j o' (by omega) ho'
theorem qOK_look (hok : qOK ops = true) {i : Nat} {o : Oper} (ho : ops[i]? = some o) {t : Tmp} (ht : t ∈ o.looksAt ops) {j : Nat} {q : Oper} (hq : ops[j]? = some q) (hd : q.dst = some t) : j < i ∧ ∃ e ∈ o.after, e.on = j ∧ Region.binds .any e = true := by
  have hi := (Array.getElem?_eq_some_iff.1 ho).1
  have hj := (Array.getElem?_eq_some_iff.1 hq).1
  have h1 := List.all_eq_true.1 hok i (by simpa using hi)
  rw [ho] at h1
  simp only [Bool.and_eq_true] at h1
  have h2 := List.all_eq_true.1 h1.1.1 t ht
  have h3 := List.all_eq_true.1 h2 j (by simpa using hj)
  rw [hq] at h3
  simp only [hd, bne_self_eq_false, Bool.false_or, Bool.and_eq_true, decide_eq_true_eq, List.any_eq_true, beq_iff_eq] at h3
  obtain ⟨h4, e, h5, h6, h7⟩ := h3
  exact ⟨h4, e, by simpa using h5, h6, h7⟩
theorem qOK_dst (hok : qOK ops = true) {i j : Nat} {o q : Oper} (ho : ops[i]? = some o) (hq : ops[j]? = some q) {t : Tmp} (h1 : o.dst = some t) (h2 : q.dst = some t) : i = j := by
  have key : ∀ {i j : Nat} {o q : Oper}, ops[i]? = some o → ops[j]? = some q → o.dst = some t → q.dst = some t → ¬ j < i := by
    intro i j o q ho hq h1 h2 hlt
    have hi := (Array.getElem?_eq_some_iff.1 ho).1
    have h3 := List.all_eq_true.1 hok i (by simpa using hi)
    rw [ho] at h3
    simp only [Bool.and_eq_true] at h3
    have h4 := List.all_eq_true.1 h3.1.2 j (by simpa using hlt)
    rw [hq] at h4
    simp [h1, h2] at h4
  have := key ho hq h1 h2
  have := key hq ho h2 h1
  omega
theorem qOK_edge (hok : qOK ops = true) {i : Nat} {o : Oper} (ho : ops[i]? = some o) : ∀ e ∈ o.after, Region.binds .any e = true → e.on < i := by
  intro e he hb
  have hi := (Array.getElem?_eq_some_iff.1 ho).1
  have h1 := List.all_eq_true.1 hok i (by simpa using hi)
  rw [ho] at h1
  simp only [Bool.and_eq_true] at h1
  have := List.all_eq_true.1 h1.2 e (by simpa using he)
  simpa [hb] using this
theorem canon_out {S0 : List (Nat × AV)} {X : Nat → AV} {t : Tmp} : ∀ (i : Nat), (∀ j q, j < i → ops[j]? = some q → q.dst ≠ some t) → get (canon ops S0 X i) t = get S0 t
  | 0, _ => rfl
  | i + 1, h => by
    simp only [canon]
    cases ho : ops[i]? with
    | none => exact canon_out i fun j q hj => h j q (by omega)
    | some o =>
      simp only
      rw [get_pS_ne (h i o (by omega) ho)]
      exact canon_out i fun j q hj => h j q (by omega)
theorem canon_in (hok : qOK ops = true) {S0 : List (Nat × AV)} {X : Nat → AV} {t : Tmp} {j : Nat} {q : Oper} (hq : ops[j]? = some q) (hd : q.dst = some t) : ∀ (i : Nat), j < i → get (canon ops S0 X i) t = X j
  | 0, h => absurd h (Nat.not_lt_zero j)
  | i + 1, h => by
    simp only [canon]
    cases ho : ops[i]? with
    | none =>
      have h2 := (Array.getElem?_eq_some_iff.1 hq).1
      have h3 : ops.size ≤ i := Array.getElem?_eq_none_iff.1 ho
      exact canon_in hok hq hd i (by omega)
    | some o =>
      simp only
      by_cases e : i = j
      · subst e
        rw [ho] at hq; cases hq
        rw [hd]; exact get_pS
      · rw [get_pS_ne fun e2 => e (qOK_dst hok ho hq e2 hd)]
        exact canon_in hok hq hd i (by omega)
/-- the slots where some operations have run -/
structure SI (ops : Array Oper) (S0 : List (Nat × AV)) (X : Nat → AV) (listed : Array Bool) (s : List (Nat × AV)) : Prop where
  done : ∀ t j o, ops[j]? = some o → o.dst = some t → listed.getD j false = true → get s t = X j
  not : ∀ t, (∀ j o, ops[j]? = some o → o.dst = some t → listed.getD j false = false) → get s t = get S0 t
theorem SI.agree (hok : qOK ops = true) {S0 : List (Nat × AV)} {X : Nat → AV} {listed : Array Bool} {s : List (Nat × AV)} (I : SI ops S0 X listed s) {i : Nat} {o : Oper} (ho : ops[i]? = some o)
    (hr : ∀ e ∈ o.after, Region.binds .any e = true → listed.getD e.on false = true) : agreeOn (o.looksAt ops) (canon ops S0 X i) s := by
  intro t ht
  by_cases hx : ∃ (j : Nat) (q : Oper), ops[j]? = some q ∧ q.dst = some t
  · obtain ⟨j, q, hq, hd⟩ := hx
    obtain ⟨h1, e, h2, h3, h4⟩ := qOK_look hok ho ht hq hd
    rw [canon_in hok hq hd i h1, I.done t j q hq hd (by rw [← h3]; exact hr e h2 h4)]
  · rw [canon_out i fun j q _ hq hd => hx ⟨j, q, hq, hd⟩, I.not t fun j q hq hd => absurd ⟨j, q, hq, hd⟩ hx]
theorem SI.step (hok : qOK ops = true) {S0 : List (Nat × AV)} {X : Nat → AV} {listed : Array Bool} {s : List (Nat × AV)} (I : SI ops S0 X listed s) {i : Nat} {o : Oper} (ho : ops[i]? = some o) (hl : i < listed.size) :
    SI ops S0 X (listed.setIfInBounds i true) (pS o.dst (X i) s) := by
  have hget : ∀ j, (listed.setIfInBounds i true).getD j false = if i = j then true else listed.getD j false := by
    intro j
    simp only [Array.getD_eq_getD_getElem?, Array.getElem?_setIfInBounds]
    by_cases e : i = j
    · subst e; simp [hl]
    · simp [e]
  constructor
  · intro t j q hq hd hj
    rw [hget] at hj
    by_cases e : i = j
    · subst e
      rw [ho] at hq; cases hq
      rw [hd]; exact get_pS
    · rw [if_neg e] at hj
      rw [get_pS_ne fun e2 => e (qOK_dst hok ho hq e2 hd)]
      exact I.done t j q hq hd hj
  · intro t h
    have hne : o.dst ≠ some t := by
      intro e
      have := h i o ho e
      rw [hget, if_pos rfl] at this
      cases this
    rw [get_pS_ne hne]
    refine I.not t fun j q hq hd => ?_
    have := h j q hq hd
    rw [hget] at this
    by_cases e : i = j
    · rw [if_pos e] at this; cases this
    · rw [if_neg e] at this; exact this
theorem quiet_ok (r : Option Nat) (hok : qOK ops = true) {w0 : World} {G0 : Gh} {fl base nt n : Nat} {h : AHeap} {S0 : List (Nat × AV)} {X : Nat → AV} (hfl : fl ≤ base) {Q : Exit → Act → World → Prop} (hF : ∀ i o, ops[i]? = some o → QF P ops base nt h n S0 X i o)
    (hQ : ∀ G s a w, RSim w0 G0 fl base [] G ⟨nt, s, h, n⟩ a w → (∀ t, get s t = get (canon ops S0 X ops.size) t) → Q .normal a w) : ∀ (fuel : Nat) (rem : List Nat) (listed : Array Bool) (G : Gh) (s : List (Nat × AV)) (a : Act) (w : World),
    rem.length ≤ fuel → rem.Pairwise (· < ·) → (∀ j, j ∈ rem ↔ j < ops.size ∧ listed.getD j true = false) → listed.size = ops.size → SI ops S0 X listed s →
    RSim w0 G0 fl base rem G ⟨nt, s, h, n⟩ a w → wpAnyIn (FR r) 0 P .any ops Q fuel listed a w := by
  intro fuel
  have hend : ∀ (listed : Array Bool) (G : Gh) (s : List (Nat × AV)) (a : Act) (w : World), (∀ j, j ∈ ([] : List Nat) ↔ j < ops.size ∧ listed.getD j true = false) → listed.size = ops.size → SI ops S0 X listed s → RSim w0 G0 fl base [] G ⟨nt, s, h, n⟩ a w → Q .normal a w := by
    intro listed G s a w hr hsz I S
    refine hQ G s a w S fun t => ?_
    have hl : ∀ j, j < ops.size → listed.getD j false = true := by
      intro j hj
      have h1 : ¬ (j < ops.size ∧ listed.getD j true = false) := fun h => by have := (hr j).2 h; simp at this
      have hlt : j < listed.size := by omega
      simp only [Array.getD_eq_getD_getElem?, Array.getElem?_eq_getElem hlt, Option.getD_some] at h1 ⊢
      cases hv : listed[j] with
      | true => rfl
      | false => exact absurd ⟨hj, hv⟩ h1
    by_cases hx : ∃ (j : Nat) (q : Oper), ops[j]? = some q ∧ q.dst = some t
    · obtain ⟨j, q, hq, hd⟩ := hx
      have hj := (Array.getElem?_eq_some_iff.1 hq).1
      rw [canon_in hok hq hd _ hj, I.done t j q hq hd (hl j hj)]
    · rw [canon_out _ fun j q _ hq hd => hx ⟨j, q, hq, hd⟩, I.not t fun j q hq hd => absurd ⟨j, q, hq, hd⟩ hx]
  induction fuel with
  | zero =>
    intro rem listed G s a w hf hs hr hsz I S
    have : rem = [] := List.length_eq_zero_iff.1 (by omega)
    subst this
    refine ⟨?_, hend listed G s a w hr hsz I S⟩
    cases hrd : Region.ready .any ops listed with
    | nil => rfl
    | cons i r =>
      obtain ⟨h1, h2, _⟩ := ready_mem (by rw [hrd]; simp : i ∈ Region.ready .any ops listed)
      have := (hr i).2 ⟨h1, h2⟩
      simp at this
  | succ fuel ih =>
    intro rem listed G s a w hf hs hr hsz I S
    refine ⟨fun hnil => ?_, fun i hi => ?_⟩
    · cases rem with
      | nil => exact hend listed G s a w hr hsz I S
      | cons i r =>
        exfalso
        obtain ⟨hi1, hi2⟩ := (hr i).1 (by simp)
        have hready : i ∈ Region.ready .any ops listed := by
          simp only [Region.ready, List.mem_filter, List.mem_range, Bool.and_eq_true, Bool.not_eq_true']
          refine ⟨hi1, hi2, ?_⟩
          rw [Array.getElem?_eq_getElem hi1]
          simp only [Option.map_some, Option.getD_some]
          refine Array.all_eq_true_iff_forall_mem.2 fun e he => ?_
          by_cases hb : Region.binds .any e = true
          · have hlt := qOK_edge hok (Array.getElem?_eq_getElem hi1) e he hb
            have : listed.getD e.on false = true := by
              have hne : e.on ∉ i :: r := by
                intro hm
                rcases List.mem_cons.1 hm with h' | h'
                · omega
                · have := (List.pairwise_cons.1 hs).1 _ h'; omega
              have h3 : ¬ (e.on < ops.size ∧ listed.getD e.on true = false) := fun h' => hne ((hr _).2 h')
              have hlt2 : e.on < listed.size := by omega
              simp only [Array.getD_eq_getD_getElem?, Array.getElem?_eq_getElem hlt2, Option.getD_some] at h3 ⊢
              cases hv : listed[e.on] with
              | true => rfl
              | false => exact absurd ⟨by omega, hv⟩ h3
            simp [this]
          · simp [hb]
        rw [hnil] at hready
        cases hready
    · obtain ⟨h1, h2, o, ho, h3⟩ := ready_mem hi
      have hirem : i ∈ rem := (hr i).2 ⟨h1, h2⟩
      have hnd : rem.Nodup := hs.imp (fun h => Nat.ne_of_lt h)
      have hmove : ∀ j, j ∈ i :: rem.erase i → j ∈ rem := fun j hj => by
        rcases List.mem_cons.1 hj with rfl | hj
        · exact hirem
        · exact List.mem_of_mem_erase hj
      have hnot : i ∉ rem.erase i := fun h' => (hnd.mem_erase_iff.1 h').1 rfl
      obtain ⟨f1, f2⟩ := hF i o ho
      have hop : aOp P ops (base + i) o ⟨nt, s, h, n⟩ (fun st' => st' = ⟨nt, pS o.dst (X i) s, h, n⟩) :=
        ⟨f1, aVal_mono ((aVal_agree (I.agree hok ho h3)).1 f2) fun x h' n' ⟨e1, e2, e3⟩ => by subst e1; subst e2; subst e3; exact put_pS _ _ _ _ _ _⟩
      have hres := op_ok (Q := Q) (S.sub hmove) hfl hnot hop (next := wpAnyIn (FR r) 0 P .any ops Q fuel (listed.setIfInBounds i true)) ?_ r
      · unfold wpOpIn
        rw [ho]
        simp only
        split at hres
        · rename_i hw; rw [if_pos hw]; exact hres
        · rename_i hw; rw [if_neg hw]; exact hres
      · intro G' st' a' w' S' h'
        subst h'
        refine ih (rem.erase i) _ G' _ a' w' ?_ (hs.sublist List.erase_sublist) (fun j => ?_) (by simpa using hsz) (I.step hok ho (by omega)) S'
        · rw [List.length_erase_of_mem hirem]; omega
        rw [hnd.mem_erase_iff, hr j]
        have hil : i < listed.size := by omega
        simp only [Array.getD_eq_getD_getElem?, Array.getElem?_setIfInBounds]
        by_cases hji : i = j
        · subst hji; simp [hil]
        · rw [if_neg hji]
          constructor
          · rintro ⟨_, h3⟩; exact h3
          · intro h3; exact ⟨fun e => hji e.symm, h3⟩
/-- A region that draws its order and leaves memory as it is, run in the text's order. -/
theorem ac_quiet {fl : Nat} {Q : Exit → St → Prop} {st : St} {id : Nat} (hm : P.follows .mixedOrders = true) (hok : qOK ops = true)
    (h : aQ P ops st.n st.nt st.h (st.n + ops.size) (fun s => Q .normal ⟨st.nt, s, st.h, st.n + ops.size⟩) 0 ops.toList st.s) : ACode P fl (.region id ops true) Q st := by
  intro r w0 G a w hr S hf
  have S' : Sim w0 G st a w.drew := ⟨S.inv.drew, S.size, S.defers, S.slots, S.fresh⟩
  obtain ⟨X, _, hF, hK⟩ := aQ_facts (S0 := st.s) ops.toList 0 (fun _ => .undef) rfl h
  refine wpIn_region_any hm (quiet_ok r (base := st.n) (G0 := G) (w0 := w0) (nt := st.nt) (n := st.n + ops.size) (h := st.h) (S0 := st.s) (X := X) hok hf (fun i o ho => hF i o (Nat.zero_le i) ho) (fun G' s a' w' S1 hq => ?_) ops.size (List.range ops.size) _ G st.s a w.drew (by simp) (List.pairwise_lt_range) (fun j => ?_) (by simp) ?_ (region_start S' hf ops.size _ (fun j hj => by simpa using hj)))
  · refine ⟨G', ⟨st.nt, canon ops st.s X ops.size, st.h, st.n + ops.size⟩, S1.ext, S1.lim, ⟨S1.sim.inv, S1.sim.size, S1.sim.defers, fun t => ?_, S1.sim.fresh⟩, hK⟩
    have := S1.sim.slots t
    rw [hq t] at this
    exact this
  · simp only [List.mem_range]
    constructor
    · intro hj; exact ⟨hj, by simp [Array.getD_eq_getD_getElem?, hj]⟩
    · exact fun h => h.1
  · refine ⟨fun t j o hj _ hl => ?_, fun t _ => rfl⟩
    have hj' := (Array.getElem?_eq_some_iff.1 hj).1
    simp [Array.getD_eq_getD_getElem?, hj'] at hl
end
end Go.AM

namespace Go.AM
open Go.RowKit
/-- E: the operations that change memory, each bound to the one ahead of it; the last one is the region's last and waits for all others -/
def chOK (E : List Nat) (ops : Array Oper) : Bool := (qOK ops && (List.range E.length).all fun k => (List.range k).all fun l => decide (E.getD l 0 < E.getD k 0)) &&
  ((List.range E.length).all fun k => k == 0 || (match ops[E.getD k 0]? with | some o => o.after.toList.any fun e => e.on == E.getD (k - 1) 0 && Region.binds .any e | none => false)) &&
  E.getLast? == some (ops.size - 1) &&
  (List.range (ops.size - 1)).all fun p => ((ancGo [] ops.toList).getD (ops.size - 1) 0).testBit p
section
variable {P : Program} {ops : Array Oper}
def aC (P : Program) (ops : Array Oper) (E : List Nat) (Hp : AHeap → Prop) (base nt : Nat) (n : Nat) (K : List (Nat × AV) → AHeap → Prop) : Nat → List Oper → List (Nat × AV) → AHeap → Prop
  | _, [], s, h => K s h
  | i, o :: r, s, h => dstOk nt o.dst = true ∧ ((i ∈ E ∧ ∃ x h2, aVal P ops (base + i) o s h n (fun x' h' n' => x' = x ∧ h' = h2 ∧ n' = n) ∧ (r = [] ∨ Hp h2) ∧ aC P ops E Hp base nt n K (i + 1) r (pS o.dst x s) h2) ∨
      (i ∉ E ∧ ∃ x, (∀ h', Hp h' → aVal P ops (base + i) o s h' n (fun x' h2 n' => x' = x ∧ h2 = h' ∧ n' = n)) ∧ aC P ops E Hp base nt n K (i + 1) r (pS o.dst x s) h))
/-- memory where the text has come to an operation -/
def CF (P : Program) (ops : Array Oper) (E : List Nat) (Hp : AHeap → Prop) (base nt : Nat) (n : Nat) (S0 : List (Nat × AV)) (X : Nat → AV) (M : Nat → AHeap) (i : Nat) (o : Oper) : Prop :=
  dstOk nt o.dst = true ∧ ((i ∈ E ∧ aVal P ops (base + i) o (canon ops S0 X i) (M i) n (fun x' h' n' => x' = X i ∧ h' = M (i + 1) ∧ n' = n) ∧ (i + 1 = ops.size ∨ Hp (M (i + 1)))) ∨
    (i ∉ E ∧ M (i + 1) = M i ∧ ∀ h', Hp h' → aVal P ops (base + i) o (canon ops S0 X i) h' n (fun x' h2 n' => x' = X i ∧ h2 = h' ∧ n' = n)))
theorem aC_facts {E : List Nat} {Hp : AHeap → Prop} {base nt : Nat} {n : Nat} {K : List (Nat × AV) → AHeap → Prop} {S0 : List (Nat × AV)} : ∀ (l : List Oper) (i : Nat) (X0 : Nat → AV) (M0 : Nat → AHeap), ops.toList.drop i = l → i ≤ ops.size → aC P ops E Hp base nt n K i l (canon ops S0 X0 i) (M0 i) →
    ∃ X M, (∀ j, j < i → X j = X0 j) ∧ (∀ j, j ≤ i → M j = M0 j) ∧ (∀ j o, i ≤ j → ops[j]? = some o → CF P ops E Hp base nt n S0 X M j o) ∧ K (canon ops S0 X ops.size) (M ops.size)
  | [], i, X0, M0, hd, hi, hq => by
    have hle : ops.size ≤ i := by
      have := congrArg List.length hd
      rw [List.length_drop, Array.length_toList] at this
      simp at this; omega
    have he : i = ops.size := by omega
    subst he
    exact ⟨X0, M0, fun _ _ => rfl, fun _ _ => rfl, fun j o hj ho => by have := (Array.getElem?_eq_some_iff.1 ho).1; omega, hq⟩
  | o :: r, i, X0, M0, hd, hi, hq => by
    obtain ⟨h1, h2⟩ := hq
    have hio : ops[i]? = some o := by
      have := congrArg List.head? hd
      rw [List.head?_drop] at this
      simpa using this
    have hlt := (Array.getElem?_eq_some_iff.1 hio).1
    have hd2 : ops.toList.drop (i + 1) = r := by
      have := congrArg List.tail hd
      rw [List.tail_drop] at this
      simpa using this
    have hlen : r = [] → i + 1 = ops.size := fun e => by
      have := congrArg List.length hd2
      rw [e, List.length_drop, Array.length_toList] at this
      simp at this; omega
    obtain ⟨x, m, h3, h4⟩ : ∃ x m, aC P ops E Hp base nt n K (i + 1) r (pS o.dst x (canon ops S0 X0 i)) m ∧ ((i ∈ E ∧ aVal P ops (base + i) o (canon ops S0 X0 i) (M0 i) n (fun x' h' n' => x' = x ∧ h' = m ∧ n' = n) ∧ (i + 1 = ops.size ∨ Hp m)) ∨ (i ∉ E ∧ m = M0 i ∧ ∀ h', Hp h' → aVal P ops (base + i) o (canon ops S0 X0 i) h' n (fun x' h2 n' => x' = x ∧ h2 = h' ∧ n' = n))) := by
      rcases h2 with ⟨a, x, m, b, c, d⟩ | ⟨a, x, b, c⟩
      · exact ⟨x, m, d, .inl ⟨a, b, c.imp hlen id⟩⟩
      · exact ⟨x, M0 i, c, .inr ⟨a, rfl, b⟩⟩
    obtain ⟨X1, hX1⟩ : ∃ X1 : Nat → AV, X1 = fun j => if j = i then x else X0 j := ⟨_, rfl⟩
    obtain ⟨M1, hM1⟩ : ∃ M1 : Nat → AHeap, M1 = fun j => if j = i + 1 then m else M0 j := ⟨_, rfl⟩
    have e0 : canon ops S0 X1 i = canon ops S0 X0 i := canon_congr i fun j hj => by rw [hX1]; simp only; rw [if_neg (by omega)]
    have e1 : X1 i = x := by rw [hX1]; simp
    have e2 : canon ops S0 X1 (i + 1) = pS o.dst x (canon ops S0 X0 i) := by
      simp only [canon]; rw [hio, e0, e1]
    have e3 : M1 (i + 1) = m := by rw [hM1]; simp
    rw [← e2, ← e3] at h3
    obtain ⟨X, M, g1, g2, g3, g4⟩ := aC_facts r (i + 1) X1 M1 hd2 (by omega) h3
    have eX : canon ops S0 X i = canon ops S0 X0 i := by rw [← e0]; exact canon_congr i fun j hj => g1 j (by omega)
    have eM : M i = M0 i := by rw [g2 i (by omega), hM1]; simp
    have eM1 : M (i + 1) = m := by rw [g2 (i + 1) (Nat.le_refl _), e3]
    have eXi : X i = x := by rw [g1 i (by omega), e1]
    refine ⟨X, M, fun j hj => ?_, fun j hj => ?_, fun j o' hj ho' => ?_, g4⟩
    · rw [g1 j (by omega), hX1]; simp only; rw [if_neg (by omega)]
    · rw [g2 j (by omega), hM1]; simp only; rw [if_neg (by omega)]
    · by_cases hji : j = i
      · subst hji
        rw [hio] at ho'; cases ho'
        refine ⟨h1, ?_⟩
        rw [eX, eM, eM1, eXi]
        exact h4
      · exact g3 j o' (by omega) ho'
/-- the mask of what stands ahead: closed under what is waited for -/
theorem chOK_q {E : List Nat} (hok : chOK E ops = true) : qOK ops = true := by
  simp only [chOK, Bool.and_eq_true] at hok; exact hok.1.1.1.1
theorem chOK_sort {E : List Nat} (hok : chOK E ops = true) {k l a b : Nat} (hk : E[k]? = some b) (hl : E[l]? = some a) (h : l < k) : a < b := by
  simp only [chOK, Bool.and_eq_true] at hok
  have hlt := (List.getElem?_eq_some_iff.1 hk).1
  have h1 := List.all_eq_true.1 hok.1.1.1.2 k (by simpa using hlt)
  have h2 := List.all_eq_true.1 h1 l (by simpa using h)
  rw [decide_eq_true_eq, List.getD_eq_getElem?_getD, hl, List.getD_eq_getElem?_getD, hk] at h2
  exact h2
theorem chOK_last {E : List Nat} (hok : chOK E ops = true) : E.getLast? = some (ops.size - 1) := by
  simp only [chOK, Bool.and_eq_true, beq_iff_eq] at hok; exact hok.1.2
theorem chOK_prev {E : List Nat} (hok : chOK E ops = true) {k i j : Nat} (hj : E[k]? = some j) (hi : E[k + 1]? = some i) {o : Oper} (ho : ops[i]? = some o) : ∃ e ∈ o.after, e.on = j ∧ Region.binds .any e = true := by
  simp only [chOK, Bool.and_eq_true] at hok
  have hlt := (List.getElem?_eq_some_iff.1 hi).1
  have h1 := List.all_eq_true.1 hok.1.1.2 (k + 1) (by simpa using hlt)
  have e1 : E.getD (k + 1) 0 = i := by rw [List.getD_eq_getElem?_getD, hi]; rfl
  have e2 : E.getD (k + 1 - 1) 0 = j := by rw [List.getD_eq_getElem?_getD, Nat.add_sub_cancel, hj]; rfl
  rw [e1, e2, ho] at h1
  simp only [Bool.or_eq_true, beq_iff_eq, Nat.add_eq_zero_iff, Nat.one_ne_zero, and_false, false_or, List.any_eq_true, Bool.and_eq_true] at h1
  obtain ⟨e, he, h2, h3⟩ := h1
  exact ⟨e, by simpa using he, h2, h3⟩
theorem chOK_anc {E : List Nat} (hok : chOK E ops = true) {p : Nat} (hp : p < ops.size - 1) : ((ancGo [] ops.toList).getD (ops.size - 1) 0).testBit p = true := by
  simp only [chOK, Bool.and_eq_true] at hok
  exact List.all_eq_true.1 hok.2 p (by simpa using hp)
section
variable {E : List Nat} {Hp : AHeap → Prop} {base nt n : Nat} {S0 : List (Nat × AV)} {X : Nat → AV} {M : Nat → AHeap}
theorem m_const (hF : ∀ i o, ops[i]? = some o → CF P ops E Hp base nt n S0 X M i o) {a : Nat} : ∀ (d : Nat), a + d ≤ ops.size → (∀ j, a ≤ j → j < a + d → j ∉ E) → M (a + d) = M a
  | 0, _, _ => rfl
  | d + 1, h, hn => by
    have ih := m_const hF (a := a) d (by omega) fun j h1 h2 => hn j h1 (by omega)
    obtain ⟨_, h3⟩ := hF (a + d) ops[a + d] (Array.getElem?_eq_getElem (by omega))
    rcases h3 with ⟨h4, _⟩ | ⟨_, h5, _⟩
    · exact absurd h4 (hn _ (by omega) (by omega))
    · rw [← Nat.add_assoc, h5, ih]
theorem m_hp (hF : ∀ i o, ops[i]? = some o → CF P ops E Hp base nt n S0 X M i o) (h0 : Hp (M 0)) : ∀ (i : Nat), i < ops.size → Hp (M i)
  | 0, _ => h0
  | i + 1, h => by
    have ih := m_hp hF h0 i (by omega)
    obtain ⟨_, h3⟩ := hF i ops[i] (Array.getElem?_eq_getElem (by omega))
    rcases h3 with ⟨_, _, h4⟩ | ⟨_, h5, _⟩
    · rcases h4 with h4 | h4
      · omega
      · exact h4
    · rw [h5]; exact ih
/-- the first operation of E that has not run -/
def nx (E : List Nat) (sz : Nat) (listed : Array Bool) : Nat := (E.find? fun e => !listed.getD e false).getD sz
theorem chain_ok (r : Option Nat) (hok : chOK E ops = true) {w0 : World} {G0 : Gh} {fl : Nat} (hfl : fl ≤ base) {Q : Exit → Act → World → Prop} (hF : ∀ i o, ops[i]? = some o → CF P ops E Hp base nt n S0 X M i o) (hH0 : Hp (M 0))
    (hQ : ∀ G s a w, RSim w0 G0 fl base [] G ⟨nt, s, M ops.size, n⟩ a w → (∀ t, get s t = get (canon ops S0 X ops.size) t) → Q .normal a w) : ∀ (fuel : Nat) (rem : List Nat) (listed : Array Bool) (G : Gh) (s : List (Nat × AV)) (a : Act) (w : World),
    rem.length ≤ fuel → rem.Pairwise (· < ·) → (∀ j, j ∈ rem ↔ j < ops.size ∧ listed.getD j true = false) → listed.size = ops.size → SI ops S0 X listed s →
    (∀ (i : Nat) o, ops[i]? = some o → listed.getD i false = true → ∀ e ∈ o.after, Region.binds .any e = true → listed.getD e.on false = true) →
    RSim w0 G0 fl base rem G ⟨nt, s, M (nx E ops.size listed), n⟩ a w → wpAnyIn (FR r) 0 P .any ops Q fuel listed a w := by
  have hq := chOK_q hok
  have hlast := chOK_last hok
  intro fuel
  have hend : ∀ (listed : Array Bool) (G : Gh) (s : List (Nat × AV)) (a : Act) (w : World), (∀ j, j ∈ ([] : List Nat) ↔ j < ops.size ∧ listed.getD j true = false) → listed.size = ops.size → SI ops S0 X listed s → RSim w0 G0 fl base [] G ⟨nt, s, M (nx E ops.size listed), n⟩ a w → Q .normal a w := by
    intro listed G s a w hr hsz I S
    have hl : ∀ j, j < ops.size → listed.getD j false = true := by
      intro j hj
      have h1 : ¬ (j < ops.size ∧ listed.getD j true = false) := fun h => by have := (hr j).2 h; simp at this
      have hlt : j < listed.size := by omega
      simp only [Array.getD_eq_getD_getElem?, Array.getElem?_eq_getElem hlt, Option.getD_some] at h1 ⊢
      cases hv : listed[j] with
      | true => rfl
      | false => exact absurd ⟨hj, hv⟩ h1
    have hnx : M (nx E ops.size listed) = M ops.size := by
      unfold nx
      cases hf : E.find? fun e => !listed.getD e false with
      | none => rfl
      | some e =>
        have h1 := List.find?_some hf
        by_cases he : e < ops.size
        · rw [hl e he] at h1; cases h1
        · -- beyond the region: nothing runs there
          have hle : ∀ k : Nat, ∀ e, E[k]? = some e → e ≤ ops.size - 1 := by
            intro k e hk
            have hlt := (List.getElem?_eq_some_iff.1 hk).1
            rw [List.getLast?_eq_getElem?] at hlast
            by_cases hk2 : k = E.length - 1
            · subst hk2; rw [hk] at hlast; cases hlast; exact Nat.le_refl _
            · have := chOK_sort hok hlast hk (by omega); omega
          obtain ⟨k, hk⟩ := List.getElem?_of_mem (List.mem_of_find?_eq_some hf)
          have := hle k e hk
          have h0 : ops.size = 0 := by omega
          have he0 : e = 0 := by omega
          simp only [Option.getD_some]
          rw [he0, h0]
    rw [hnx] at S
    refine hQ G s a w S fun t => ?_
    by_cases hx : ∃ (j : Nat) (q : Oper), ops[j]? = some q ∧ q.dst = some t
    · obtain ⟨j, q, hq2, hd⟩ := hx
      have hj := (Array.getElem?_eq_some_iff.1 hq2).1
      rw [canon_in hq hq2 hd _ hj, I.done t j q hq2 hd (hl j hj)]
    · rw [canon_out _ fun j q _ hq hd => hx ⟨j, q, hq, hd⟩, I.not t fun j q hq hd => absurd ⟨j, q, hq, hd⟩ hx]
  induction fuel with
  | zero =>
    intro rem listed G s a w hf hs hr hsz I hd S
    have : rem = [] := List.length_eq_zero_iff.1 (by omega)
    subst this
    refine ⟨?_, hend listed G s a w hr hsz I S⟩
    cases hrd : Region.ready .any ops listed with
    | nil => rfl
    | cons i r =>
      obtain ⟨h1, h2, _⟩ := ready_mem (by rw [hrd]; simp : i ∈ Region.ready .any ops listed)
      have := (hr i).2 ⟨h1, h2⟩
      simp at this
  | succ fuel ih =>
    intro rem listed G s a w hf hs hr hsz I hd S
    refine ⟨fun hnil => ?_, fun i hi => ?_⟩
    · cases rem with
      | nil => exact hend listed G s a w hr hsz I S
      | cons i r =>
        exfalso
        obtain ⟨hi1, hi2⟩ := (hr i).1 (by simp)
        have hready : i ∈ Region.ready .any ops listed := by
          simp only [Region.ready, List.mem_filter, List.mem_range, Bool.and_eq_true, Bool.not_eq_true']
          refine ⟨hi1, hi2, ?_⟩
          rw [Array.getElem?_eq_getElem hi1]
          simp only [Option.map_some, Option.getD_some]
          refine Array.all_eq_true_iff_forall_mem.2 fun e he => ?_
          by_cases hb : Region.binds .any e = true
          · have hlt := qOK_edge hq (Array.getElem?_eq_getElem hi1) e he hb
            have : listed.getD e.on false = true := by
              have hne : e.on ∉ i :: r := by
                intro hm
                rcases List.mem_cons.1 hm with h' | h'
                · omega
                · have := (List.pairwise_cons.1 hs).1 _ h'; omega
              have h3 : ¬ (e.on < ops.size ∧ listed.getD e.on true = false) := fun h' => hne ((hr _).2 h')
              have hlt2 : e.on < listed.size := by omega
              simp only [Array.getD_eq_getD_getElem?, Array.getElem?_eq_getElem hlt2, Option.getD_some] at h3 ⊢
              cases hv : listed[e.on] with
              | true => rfl
              | false => exact absurd ⟨by omega, hv⟩ h3
            simp [this]
          · simp [hb]
        rw [hnil] at hready
        cases hready
    · obtain ⟨h1, h2, o, ho, h3⟩ := ready_mem hi
      have hirem : i ∈ rem := (hr i).2 ⟨h1, h2⟩
      have hnd : rem.Nodup := hs.imp (fun h => Nat.ne_of_lt h)
      have hmove : ∀ j, j ∈ i :: rem.erase i → j ∈ rem := fun j hj => by
        rcases List.mem_cons.1 hj with rfl | hj
        · exact hirem
        · exact List.mem_of_mem_erase hj
      have hnot : i ∉ rem.erase i := fun h' => (hnd.mem_erase_iff.1 h').1 rfl
      have hil : i < listed.size := by omega
      have hif : listed.getD i false = false := by
        simp only [Array.getD_eq_getD_getElem?, Array.getElem?_eq_getElem hil, Option.getD_some] at h2 ⊢
        exact h2
      have hget : ∀ j, (listed.setIfInBounds i true).getD j false = if i = j then true else listed.getD j false := by
        intro j
        simp only [Array.getD_eq_getD_getElem?, Array.getElem?_setIfInBounds]
        by_cases e : i = j
        · subst e; simp [hil]
        · simp [e]
      obtain ⟨f1, f2⟩ := hF i o ho
      have hop : aOp P ops (base + i) o ⟨nt, s, M (nx E ops.size listed), n⟩ (fun st' => st' = ⟨nt, pS o.dst (X i) s, M (nx E ops.size (listed.setIfInBounds i true)), n⟩) := by
        rcases f2 with ⟨hE, f3, _⟩ | ⟨hE, f3, f4⟩
        · -- of the chain
          obtain ⟨k, hk⟩ := List.getElem?_of_mem hE
          have hpre : ∀ l a, l < k → E[l]? = some a → listed.getD a false = true := by
            have step : ∀ d, ∀ l a, l + d + 1 = k → E[l]? = some a → listed.getD a false = true := by
              intro d
              induction d with
              | zero =>
                intro l a hl ha
                have hk2 : E[l + 1]? = some i := by rw [show l + 1 = k by omega]; exact hk
                obtain ⟨e, he, e1, e2⟩ := chOK_prev hok ha hk2 ho
                rw [← e1]; exact h3 e he e2
              | succ d ih2 =>
                intro l a hl ha
                have hl1 : l + 1 < E.length := by have := (List.getElem?_eq_some_iff.1 hk).1; omega
                have hb : E[l + 1]? = some E[l + 1] := List.getElem?_eq_getElem hl1
                have hlb := ih2 (l + 1) _ (by omega) hb
                have hbs : E[l + 1] < ops.size := by
                  have := chOK_sort hok hk hb (by omega); omega
                obtain ⟨e, he, e1, e2⟩ := chOK_prev hok ha hb (Array.getElem?_eq_getElem hbs)
                rw [← e1]; exact hd _ _ (Array.getElem?_eq_getElem hbs) hlb e he e2
            intro l a hl ha
            exact step (k - l - 1) l a (by omega) ha
          have hklt := (List.getElem?_eq_some_iff.1 hk).1
          have hsp : E = E.take k ++ i :: E.drop (k + 1) := by
            have hki := (List.getElem?_eq_some_iff.1 hk).2
            rw [← hki, List.getElem_cons_drop hklt, List.take_append_drop]
          have htk : ∀ x ∈ E.take k, listed.getD x false = true := by
            intro x hx
            obtain ⟨l, hl⟩ := List.getElem?_of_mem hx
            have hl2 := (List.getElem?_eq_some_iff.1 hl).1
            rw [List.length_take] at hl2
            rw [List.getElem?_take_of_lt (by omega)] at hl
            exact hpre l x (by omega) hl
          have hn1 : nx E ops.size listed = i := by
            unfold nx
            rw [hsp, List.find?_append, List.find?_eq_none.2 (by intro x hx; rw [htk x hx]; simp)]
            simp only [Option.none_or, List.find?_cons, hif, Bool.not_false, Option.getD_some]
          have hdr : ∀ x ∈ E.drop (k + 1), i < x ∧ listed.getD x false = false := by
            intro x hx
            obtain ⟨l, hl⟩ := List.getElem?_of_mem hx
            rw [List.getElem?_drop] at hl
            refine ⟨chOK_sort hok hl hk (by omega), ?_⟩
            -- what stands behind has not run
            have hno : ∀ d x, E[k + 1 + d]? = some x → listed.getD x false = false := by
              intro d
              induction d with
              | zero =>
                intro x hx
                cases hv : listed.getD x false with
                | false => rfl
                | true =>
                  have hxs : x < ops.size := by
                    rcases Nat.lt_or_ge x ops.size with h | h
                    · exact h
                    · simp [Array.getD_eq_getD_getElem?, Array.getElem?_eq_none (show listed.size ≤ x by omega)] at hv
                  obtain ⟨e, he, e1, e2⟩ := chOK_prev hok hk hx (Array.getElem?_eq_getElem hxs)
                  have := hd _ _ (Array.getElem?_eq_getElem hxs) hv e he e2
                  rw [e1, hif] at this; cases this
              | succ d ih2 =>
                intro x hx
                obtain ⟨y, hb⟩ : ∃ y, E[k + 1 + d]? = some y := ⟨_, List.getElem?_eq_getElem (show k + 1 + d < E.length by have := (List.getElem?_eq_some_iff.1 hx).1; omega)⟩
                cases hv : listed.getD x false with
                | false => rfl
                | true =>
                  have hxs : x < ops.size := by
                    rcases Nat.lt_or_ge x ops.size with h | h
                    · exact h
                    · simp [Array.getD_eq_getD_getElem?, Array.getElem?_eq_none (show listed.size ≤ x by omega)] at hv
                  obtain ⟨e, he, e1, e2⟩ := chOK_prev hok hb (by rw [show k + 1 + d + 1 = k + 1 + (d + 1) by omega]; exact hx) (Array.getElem?_eq_getElem hxs)
                  have := hd _ _ (Array.getElem?_eq_getElem hxs) hv e he e2
                  rw [e1, ih2 _ hb] at this; cases this
            exact hno l x hl
          have hn2 : M (nx E ops.size (listed.setIfInBounds i true)) = M (i + 1) := by
            unfold nx
            rw [hsp, List.find?_append, List.find?_eq_none.2 (by
              intro x hx
              rw [hget]
              by_cases e : i = x
              · simp [e]
              · rw [if_neg e, htk x hx]; simp)]
            simp only [Option.none_or, List.find?_cons, hget, if_true, Bool.not_true]
            cases hdl : E.drop (k + 1) with
            | nil =>
              simp only [List.find?_nil, Option.getD_none]
              have hlen := congrArg List.length hdl
              rw [List.length_drop] at hlen
              simp only [List.length_nil] at hlen
              rw [List.getLast?_eq_getElem?] at hlast
              have : k = E.length - 1 := by omega
              subst this
              rw [hk] at hlast
              cases hlast
              rw [show ops.size - 1 + 1 = ops.size by omega]
            | cons x rr =>
              have hx : E[k + 1]? = some x := by
                have := congrArg List.head? hdl
                rw [List.head?_drop] at this
                simpa using this
              obtain ⟨hx1, hx2⟩ := hdr x (by rw [hdl]; simp)
              simp only [List.find?_cons]
              rw [if_neg (by omega), hx2]
              simp only [Bool.not_false, Option.getD_some]
              have hxs : x ≤ ops.size := by
                rw [List.getLast?_eq_getElem?] at hlast
                by_cases e : k + 1 = E.length - 1
                · rw [e, hlast] at hx; cases hx; omega
                · have := chOK_sort hok hlast hx (by have := (List.getElem?_eq_some_iff.1 hx).1; omega); omega
              have := m_const hF (a := i + 1) (x - (i + 1)) (by omega) (fun j j1 j2 hj => by
                obtain ⟨l, hl⟩ := List.getElem?_of_mem hj
                rcases Nat.lt_trichotomy l k with g | g | g
                · have := chOK_sort hok hk hl g; omega
                · subst g; rw [hk] at hl; cases hl; omega
                · rcases Nat.lt_trichotomy l (k + 1) with g2 | g2 | g2
                  · omega
                  · subst g2; rw [hx] at hl; cases hl; omega
                  · have := chOK_sort hok hl hx g2; omega)
              rw [show i + 1 + (x - (i + 1)) = x by omega] at this
              exact this
          rw [hn1, hn2]
          exact ⟨f1, aVal_mono ((aVal_agree (I.agree hq ho h3)).1 f3) fun x h' n' ⟨e1, e2, e3⟩ => by subst e1; subst e2; subst e3; exact put_pS _ _ _ _ _ _⟩
        · -- one that leaves memory as it is
          have hne : ∀ e ∈ E, i ≠ e := fun e he e2 => hE (e2 ▸ he)
          have hn1 : nx E ops.size (listed.setIfInBounds i true) = nx E ops.size listed := by
            unfold nx
            have : ∀ l : List Nat, (∀ e ∈ l, i ≠ e) → l.find? (fun e => !(listed.setIfInBounds i true).getD e false) = l.find? (fun e => !listed.getD e false) := by
              intro l
              induction l with
              | nil => intro _; rfl
              | cons x r ih3 =>
                intro hl
                rw [List.find?_cons, List.find?_cons, hget, if_neg (hl x (by simp)), ih3 fun e he => hl e (by simp [he])]
            rw [this E hne]
          have hlm : ops.size - 1 ∈ E := List.mem_of_getLast? hlast
          have hil2 : i < ops.size - 1 := by
            have := hne _ hlm
            omega
          have hll : listed.getD (ops.size - 1) false = false := by
            cases hv : listed.getD (ops.size - 1) false with
            | false => rfl
            | true =>
              have hsz2 : ops.size - 1 < ops.size := by omega
              have g := anc_good (ops := ops.toList) (listed := fun j => listed.getD j false = true) (fun j q hq2 hl => hd j q (by simpa using hq2) hl) ops.toList [] rfl (Nat.zero_le _) (fun a b hab => by simp at hab)
              have hml : (ancGo [] ops.toList)[ops.size - 1]? = some ((ancGo [] ops.toList).getD (ops.size - 1) 0) := by
                have hlen := ancGo_length ops.toList []
                rw [List.getD_eq_getElem?_getD, List.getElem?_eq_getElem (by rw [hlen]; simp; omega)]
                rfl
              have hoL : ops.toList[ops.size - 1]? = some ops[ops.size - 1] := by simp
              have := g _ _ hml _ hoL (fun e he hb => hd _ _ (Array.getElem?_eq_getElem hsz2) hv e he hb) i (chOK_anc hok hil2)
              simp only [hif] at this; cases this
          have hnlt : nx E ops.size listed < ops.size := by
            unfold nx
            cases hf2 : E.find? fun e => !listed.getD e false with
            | none =>
              have := List.find?_eq_none.1 hf2 _ hlm
              rw [hll] at this; simp at this
            | some e =>
              simp only [Option.getD_some]
              obtain ⟨k, hk⟩ := List.getElem?_of_mem (List.mem_of_find?_eq_some hf2)
              rw [List.getLast?_eq_getElem?] at hlast
              by_cases e2 : k = E.length - 1
              · subst e2; rw [hk] at hlast; cases hlast; omega
              · have := chOK_sort hok hlast hk (by have := (List.getElem?_eq_some_iff.1 hk).1; omega); omega
          have hp := m_hp hF hH0 _ hnlt
          rw [hn1]
          exact ⟨f1, aVal_mono ((aVal_agree (I.agree hq ho h3)).1 (f4 _ hp)) fun x h' n' ⟨e1, e2, e3⟩ => by subst e1; subst e2; subst e3; exact put_pS _ _ _ _ _ _⟩
      have hres := op_ok (Q := Q) (S.sub hmove) hfl hnot hop (next := wpAnyIn (FR r) 0 P .any ops Q fuel (listed.setIfInBounds i true)) ?_ r
      · unfold wpOpIn
        rw [ho]
        simp only
        split at hres
        · rename_i hw; rw [if_pos hw]; exact hres
        · rename_i hw; rw [if_neg hw]; exact hres
      · intro G' st' a' w' S' h'
        subst h'
        refine ih (rem.erase i) _ G' _ a' w' ?_ (hs.sublist List.erase_sublist) (fun j => ?_) (by simpa using hsz) (I.step hq ho (by omega)) (fun j q hq2 hl e he hb => ?_) S'
        · rw [List.length_erase_of_mem hirem]; omega
        · rw [hnd.mem_erase_iff, hr j]
          simp only [Array.getD_eq_getD_getElem?, Array.getElem?_setIfInBounds]
          by_cases hji : i = j
          · subst hji; simp [hil]
          · rw [if_neg hji]
            constructor
            · rintro ⟨_, h3⟩; exact h3
            · intro h3; exact ⟨fun e => hji e.symm, h3⟩
        · rw [hget] at hl ⊢
          by_cases e1 : i = e.on
          · rw [if_pos e1]
          · rw [if_neg e1]
            by_cases e2 : i = j
            · subst e2
              rw [ho] at hq2; cases hq2
              exact h3 e he hb
            · rw [if_neg e2] at hl
              exact hd j q hq2 hl e he hb
end
/-- A region that draws its order, with a chain of changes of memory, run in the text's order. -/
theorem ac_chain (E : List Nat) (Hp : AHeap → Prop) {fl : Nat} {Q : Exit → St → Prop} {st : St} {id : Nat} (hm : P.follows .mixedOrders = true) (hok : chOK E ops = true) (hp : Hp st.h)
    (h : aC P ops E Hp st.n st.nt (st.n + ops.size) (fun s h => Q .normal ⟨st.nt, s, h, st.n + ops.size⟩) 0 ops.toList st.s st.h) : ACode P fl (.region id ops true) Q st := by
  intro r w0 G a w hr S hf
  have S' : Sim w0 G st a w.drew := ⟨S.inv.drew, S.size, S.defers, S.slots, S.fresh⟩
  obtain ⟨X, M, _, hM, hF, hK⟩ := aC_facts (S0 := st.s) ops.toList 0 (fun _ => .undef) (fun _ => st.h) rfl (Nat.zero_le _) h
  have hM0 : M 0 = st.h := hM 0 (Nat.le_refl _)
  have hF2 : ∀ i o, ops[i]? = some o → CF P ops E Hp st.n st.nt (st.n + ops.size) st.s X M i o := fun i o ho => hF i o (Nat.zero_le i) ho
  have hnf : ∀ j, (Array.replicate ops.size false).getD j false = false := fun j => by
    simp only [Array.getD_eq_getD_getElem?, Array.getElem?_replicate]
    split <;> rfl
  have hnx : M (nx E ops.size (Array.replicate ops.size false)) = st.h := by
    have hlast := chOK_last hok
    cases hE : E with
    | nil => rw [hE] at hlast; cases hlast
    | cons x rr =>
      have hx0 : E[0]? = some x := by rw [hE]; rfl
      unfold nx
      rw [List.find?_cons, hnf]
      simp only [Bool.not_false, Option.getD_some]
      have hxs : x ≤ ops.size := by
        rw [List.getLast?_eq_getElem?] at hlast
        by_cases e : 0 = E.length - 1
        · rw [← e, hx0] at hlast; cases hlast; omega
        · have := chOK_sort hok hlast hx0 (by omega); omega
      have := m_const hF2 (a := 0) x (by omega) (fun j _ j2 hj => by
        obtain ⟨l, hl⟩ := List.getElem?_of_mem hj
        rcases Nat.eq_zero_or_pos l with g | g
        · subst g; rw [hx0] at hl; cases hl; omega
        · have := chOK_sort hok hl hx0 g; omega)
      rw [Nat.zero_add] at this
      rw [this, hM0]
  refine wpIn_region_any hm (chain_ok r (base := st.n) (G0 := G) (w0 := w0) (nt := st.nt) (n := st.n + ops.size) (S0 := st.s) (X := X) (M := M) hok hf hF2 (by rw [hM0]; exact hp) (fun G' s a' w' S1 hq => ?_) ops.size (List.range ops.size) (Array.replicate ops.size false) G st.s a w.drew (by simp) (List.pairwise_lt_range) (fun j => ?_) (by simp) ?_ (fun i o _ hl => by rw [hnf] at hl; cases hl) (by rw [hnx]; exact region_start S' hf ops.size _ (fun j hj => by simpa using hj)))
  · refine ⟨G', ⟨st.nt, canon ops st.s X ops.size, M ops.size, st.n + ops.size⟩, S1.ext, S1.lim, ⟨S1.sim.inv, S1.sim.size, S1.sim.defers, fun t => ?_, S1.sim.fresh⟩, hK⟩
    have := S1.sim.slots t
    rw [hq t] at this
    exact this
  · simp only [List.mem_range]
    constructor
    · intro hj; exact ⟨hj, by simp [Array.getD_eq_getD_getElem?, hj]⟩
    · exact fun h => h.1
  · refine ⟨fun t j o hj _ hl => ?_, fun t _ => rfl⟩
    rw [hnf] at hl; cases hl
end
end Go.AM

namespace Go.AM
open Go.RowKit
theorem fzD_scalar (m : Nat) (c : List AV) (agg : Bool) (x : AV) (h : x.scalar = true) : (fzD m c agg x).scalar = true := by
  cases x <;> simp only [fzD] <;> try exact h
  split <;> rfl
theorem fzDL_scalar (m : Nat) (c : List AV) (agg : Bool) : ∀ (l : List AV), l.all AV.scalar = true → (fzDL m c agg l).all AV.scalar = true
  | [], _ => rfl
  | x :: r, h => by
    simp only [List.all_cons, Bool.and_eq_true] at h
    simp only [fzDL, List.all_cons, Bool.and_eq_true]
    exact ⟨fzD_scalar m c agg x h.1, fzDL_scalar m c agg r h.2⟩
theorem fzDL_length (m : Nat) (c : List AV) (agg : Bool) : ∀ (l : List AV), (fzDL m c agg l).length = l.length
  | [] => rfl
  | x :: r => by simp only [fzDL, List.length_cons, fzDL_length m c agg r]
theorem Inv.fzcell {w0 : World} {G : Gh} {h : AHeap} {w : World} (I : Inv w0 G h w) {m p : Nat} {c L : List AV} (agg : Bool) (hmp : p ≠ m) (hm : h m = some (.cells c)) (hp : h p = some (.cells L)) {r : Nat × Nat × Nat} (hr : G.reg m = some r) :
    Inv w0 (G.freeze w r) ((h.upd m none).upd p (some (.cells (fzDL m c agg L)))) w := by
  have I1 := I.freeze hm hr
  have e0 : (h.upd m none) p = some (.cells L) := by rw [upd_ne _ _ _ _ hmp]; exact hp
  have hx : ∀ k o, ((h.upd m none).upd p (some (.cells (fzDL m c agg L)))) k = some o → ∃ o', (h.upd m none) k = some o' := by
    intro k o hk
    by_cases e : k = p
    · subst e; exact ⟨_, e0⟩
    · rw [upd_ne _ _ _ _ e] at hk; exact ⟨o, hk⟩
  refine ⟨I1.below, I1.imm, fun k o hk => ?_, fun a b o q r1 r2 hab h1 h2 => ?_, fun a o r1 x v h1 => ?_, I1.oth⟩
  · by_cases e : k = p
    · subst e
      rw [upd_same] at hk
      cases hk
      obtain ⟨r', vs, g1, g2⟩ := I.obj k _ hp
      exact ⟨r', vs, g1, ⟨g2.base, g2.lt, by rw [fzDL_length]; exact g2.len, fzDL_scalar m c agg L g2.sc, fzDL_ok I hm hr agg L vs g2.rel, g2.val, g2.some, g2.free⟩⟩
    · rw [upd_ne _ _ _ _ e] at hk; exact I1.obj k o hk
  · obtain ⟨o', k1⟩ := hx a o h1
    obtain ⟨q', k2⟩ := hx b q h2
    exact I1.disj a b o' q' r1 r2 hab k1 k2
  · obtain ⟨o', k1⟩ := hx a o h1
    exact I1.sep a o' r1 x v k1
section
variable {P : Program} {fl : Nat}
theorem ac_fzcell {code : Code} {Q : Exit → St → Prop} {st : St} (m p : Nat) {c L : List AV} (agg : Bool) (hmp : p ≠ m) (hm : st.h m = some (.cells c)) (hp : st.h p = some (.cells L))
    (h : ACode P fl code Q { st with h := (st.h.upd m none).upd p (some (.cells (fzDL m c agg L))) }) : ACode P fl code Q st := by
  intro r w0 G a w hr S hf
  obtain ⟨rg, hreg⟩ := (S.inv.obj m _ hm).hasReg
  have hle := Gh.le_freeze S.inv hm hreg
  have hx : Ext fl G (G.freeze w rg) := ⟨fun _ _ => rfl, hle.imm, ⟨[], rfl⟩, rfl, fun _ e => e⟩
  exact wpIn_mono (h r w0 (G.freeze w rg) a w hr ⟨S.inv.fzcell agg hmp hm hp hreg, S.size, S.defers, fun t' => (S.slots t').mono hle.v _ _, S.fresh⟩ hf) fun _ _ _ ⟨G', st', e1, e2⟩ => ⟨G', st', hx.trans e1, e2⟩
theorem ret_fzcell {K : AV → AHeap → Nat → Prop} {x : AV} {h : AHeap} {n : Nat} (m p : Nat) {c L : List AV} (agg : Bool) (hmp : p ≠ m) (hm : h m = some (.cells c)) (hp : h p = some (.cells L))
    (hk : RetOk fl K x ((h.upd m none).upd p (some (.cells (fzDL m c agg L)))) n) : RetOk fl K x h n := by
  refine ret_step (fun w0 G w v I f hr hl => ?_) hk
  obtain ⟨r, hreg⟩ := (I.obj m _ hm).hasReg
  have hle := Gh.le_freeze I hm hreg
  exact ⟨G.freeze w r, ⟨⟨fun _ _ => rfl, hle.imm, ⟨[], rfl⟩, rfl, fun _ e => e⟩, rfl⟩, I.fzcell agg hmp hm hp hreg, f, hr.mono hle.v _ _, hl⟩
end
end Go.AM

namespace Go.AM
section
variable {P : Program} {ops : Array Oper} {base nt n nm : Nat} {o : Oper} {s : List (Nat × AV)} {h h2 : AHeap} {x : AV}
theorem aVal_f0 (hc : callOf o.op = none) (hf : fVal P ops nm o s h = some (x, h2)) : aVal P ops nm o s h n (fun x' h' n' => x' = x ∧ h' = h2 ∧ n' = n) := by
  rw [aVal_nc hc, hf]; exact ⟨rfl, rfl, rfl⟩
theorem aC_q {E : List Nat} {Hp : AHeap → Prop} {K : List (Nat × AV) → AHeap → Prop} {i : Nat} {r : List Oper} (hd : dstOk nt o.dst = true) (hi : i ∉ E) (hc : callOf o.op = none) (hf : ∀ h', Hp h' → fVal P ops (base + i) o s h' = some (x, h'))
    (hr : aC P ops E Hp base nt n K (i + 1) r (pS o.dst x s) h) : aC P ops E Hp base nt n K i (o :: r) s h := by
  refine ⟨hd, .inr ⟨hi, x, fun h' hh => aVal_f0 hc (hf h' hh), hr⟩⟩
theorem aC_e {E : List Nat} {Hp : AHeap → Prop} {K : List (Nat × AV) → AHeap → Prop} {i : Nat} {r : List Oper} (hd : dstOk nt o.dst = true) (hi : i ∈ E) (hc : callOf o.op = none) (hf : fVal P ops (base + i) o s h = some (x, h2)) (hh : r = [] ∨ Hp h2)
    (hr : aC P ops E Hp base nt n K (i + 1) r (pS o.dst x s) h2) : aC P ops E Hp base nt n K i (o :: r) s h :=
  ⟨hd, .inl ⟨hi, x, h2, aVal_f0 hc hf, hh, hr⟩⟩
theorem aQ_s {K : List (Nat × AV) → Prop} {i : Nat} {r : List Oper} (hd : dstOk nt o.dst = true) (hc : callOf o.op = none) (hf : fVal P ops (base + i) o s h = some (x, h)) (hr : aQ P ops base nt h n K (i + 1) r (pS o.dst x s)) : aQ P ops base nt h n K i (o :: r) s :=
  ⟨hd, x, aVal_f0 hc hf, hr⟩
theorem aQ_c {K : List (Nat × AV) → Prop} {i : Nat} {r : List Oper} (hd : dstOk nt o.dst = true) (hf : aVal P ops (base + i) o s h n (fun x' h' n' => x' = x ∧ h' = h ∧ n' = n)) (hr : aQ P ops base nt h n K (i + 1) r (pS o.dst x s)) : aQ P ops base nt h n K i (o :: r) s :=
  ⟨hd, x, hf, hr⟩
theorem aC_end {E : List Nat} {Hp : AHeap → Prop} {K : List (Nat × AV) → AHeap → Prop} {i : Nat} (hk : K s h) : aC P ops E Hp base nt n K i [] s h := by unfold aC; exact hk
theorem aQ_end {K : List (Nat × AV) → Prop} {i : Nat} (hk : K s) : aQ P ops base nt h n K i [] s := by unfold aQ; exact hk
theorem pS_some (t : Tmp) (x : AV) (s : List (Nat × AV)) : pS (some t) x s = (t, x) :: s := rfl
theorem pS_none (x : AV) (s : List (Nat × AV)) : pS none x s = s := rfl
end
end Go.AM
