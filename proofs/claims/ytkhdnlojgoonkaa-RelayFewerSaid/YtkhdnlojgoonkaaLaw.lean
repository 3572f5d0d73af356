/- Nets as plain data, and what holds of them. Conditions: as each theorem says. -/
import Derived.Test.YtkhdnlojgoonkaaAmd
namespace Nets
structure Span where
  lo : Int
  hi : Int
structure Link where
  fr : Int
  to : Int
  delay : Int
  nl : Bool
  opn : List Span
structure Net where
  st : Int
  nl : Bool
  links : List Link
structure Hop where
  link : Int
  tick : Int
def within (a lo hi : Int) : Bool := decide (lo ≤ a) && decide (a ≤ hi)
def badAt (l : List Span) (i : Nat) : Bool :=
  match l[i]? with
  | none => false
  | some s => decide (s.lo < 0) || decide (s.lo > s.hi) || decide (s.hi > 1048576) || (decide (0 < i) && match l[i - 1]? with | some p => decide (s.lo ≤ p.hi) | none => false)
def spansE (l : List Span) : Int := if l.length > 12 then 2 else if (List.range l.length).any (badAt l) then 1 else 0
/-- a link is right, but for its stations -/
def right (l : Link) : Bool := within l.delay 1 1440 && spansE l.opn == 0
/-- the error of a link, but for its stations -/
def linkE (l : Link) : Int := if within l.delay 1 1440 then spansE l.opn else 1
/-- the error of a link of a net -/
def linkIn (st : Int) (l : Link) : Int :=
  if !(within l.fr 0 (st - 1)) || !(within l.to 0 (st - 1)) || l.fr == l.to then 1 else linkE l
/-- the first error of links -/
def linksE (st : Int) : List Link → Int
  | [] => 0
  | l :: r => if linkIn st l ≠ 0 then linkIn st l else linksE st r
def checkE (n : Net) : Int := if within n.st 1 10 then (if n.links.length > 40 then 2 else linksE n.st n.links) else 1
def leaveGo (delay tick : Int) : List Span → Int × Bool
  | [] => (0, false)
  | s :: r => if max s.lo tick ≤ s.hi - delay then (max s.lo tick, true) else leaveGo delay tick r
def leave (l : Link) (tick : Int) : Int × Bool := if right l then leaveGo l.delay tick l.opn else (0, false)
def lastGo (delay tick : Int) : List Span → Int × Bool
  | [] => (0, false)
  | s :: r => if s.lo ≤ min s.hi (max tick (-1)) - delay then (min s.hi (max tick (-1)) - delay, true) else lastGo delay tick r
def last (l : Link) (tick : Int) : Int × Bool := if right l then lastGo l.delay tick l.opn.reverse else (0, false)

theorem spansE_cases (l : List Span) : spansE l = 0 ∨ spansE l = 1 ∨ spansE l = 2 := by
  unfold spansE; split
  · simp
  · split <;> simp
theorem right_spans {l : Link} (h : right l = true) : 1 ≤ l.delay ∧ l.delay ≤ 1440 ∧ l.opn.length ≤ 12 ∧ ∀ (i : Nat) (s : Span), l.opn[i]? = some s → 0 ≤ s.lo ∧ s.lo ≤ s.hi ∧ s.hi ≤ 1048576 := by
  simp only [right, within, Bool.and_eq_true, decide_eq_true_eq, beq_iff_eq] at h
  obtain ⟨⟨h1, h2⟩, h3⟩ := h
  unfold spansE at h3
  split at h3
  · cases h3
  · rename_i hl
    split at h3
    · cases h3
    · rename_i ha
      refine ⟨h1, h2, by omega, fun i s hs => ?_⟩
      have hi : i < l.opn.length := (List.getElem?_eq_some_iff.1 hs).1
      have : badAt l.opn i = false := by
        cases hb : badAt l.opn i with
        | false => rfl
        | true => exact absurd (List.any_eq_true.2 ⟨i, by simpa using hi, hb⟩) ha
      simp only [badAt, hs, Bool.or_eq_false_iff, decide_eq_false_iff_not] at this
      omega
theorem drop_at {α : Type} {l : List α} {k : Nat} {x : α} (h : l[k]? = some x) : l.drop k = x :: l.drop (k + 1) := by
  obtain ⟨hk, rfl⟩ := List.getElem?_eq_some_iff.1 h
  exact List.drop_eq_getElem_cons hk
theorem reverse_at {α : Type} {l : List α} {k : Nat} {x : α} (h : l[k]? = some x) : (l.take (k + 1)).reverse = x :: (l.take k).reverse := by
  obtain ⟨hk, rfl⟩ := List.getElem?_eq_some_iff.1 h
  rw [List.take_succ_eq_append_getElem hk]; simp
theorem linkE_of {l : Link} : linkE l = 0 ↔ right l = true := by
  simp only [linkE, right, Bool.and_eq_true, beq_iff_eq]; split <;> simp_all
end Nets

namespace Nets
def at' (o : List Int) (i : Int) : Int := o.getD i.toNat 0
/-- the specification's step of Earliest -/
def relaxR (l : Link) (out : List Int) : List Int :=
  if at' out l.fr < 0 then out else if (leave l (at' out l.fr)).2 = true ∧ (at' out l.to < 0 ∨ (leave l (at' out l.fr)).1 + l.delay < at' out l.to) then out.set l.to.toNat ((leave l (at' out l.fr)).1 + l.delay) else out
def passR : List Link → List Int → List Int
  | [], out => out
  | l :: r, out => passR r (relaxR l out)
def roundsR (ls : List Link) : Nat → List Int → List Int
  | 0, out => out
  | k + 1, out => roundsR ls k (passR ls out)
def startR (st : Nat) (s t : Int) : List Int := (List.replicate st (-1)).set s.toNat t
def earlR (N : Net) (s t : Int) : List Int := roundsR N.links (N.st.toNat + 1) (startR N.st.toNat s t)
/-- the specification's step of Latest -/
def relaxL (l : Link) (out : List Int) : List Int :=
  if at' out l.to < 0 then out else if (last l (at' out l.to)).2 = true ∧ (last l (at' out l.to)).1 > at' out l.fr then out.set l.fr.toNat (last l (at' out l.to)).1 else out
def passL : List Link → List Int → List Int
  | [], out => out
  | l :: r, out => passL r (relaxL l out)
def roundsL (ls : List Link) : Nat → List Int → List Int
  | 0, out => out
  | k + 1, out => roundsL ls k (passL ls out)
def lateR (N : Net) (s t : Int) : List Int := roundsL N.links (N.st.toNat + 1) (startR N.st.toNat s t)

/-- a link of a right net -/
structure LOk (st : Int) (l : Link) : Prop where
  fr0 : 0 ≤ l.fr
  fr1 : l.fr < st
  to0 : 0 ≤ l.to
  to1 : l.to < st
  ne : l.fr ≠ l.to
  ok : right l = true
theorem links_ok {st : Int} : ∀ {ls : List Link}, linksE st ls = 0 → ∀ l ∈ ls, LOk st l
  | [], _, l, hl => by simp at hl
  | x :: r, h, l, hl => by
    simp only [linksE] at h
    split at h
    · rename_i hne; exact absurd h hne
    · rename_i he
      rcases List.mem_cons.1 hl with rfl | hl
      · have he : linkIn st l = 0 := by simpa using he
        unfold linkIn at he
        split at he
        · cases he
        · rename_i hw
          simp only [Bool.or_eq_true, Bool.not_eq_true', not_or, Bool.not_eq_false, beq_iff_eq] at hw
          obtain ⟨⟨h1, h2⟩, h3⟩ := hw
          simp only [within, Bool.and_eq_true, decide_eq_true_eq] at h1 h2
          exact ⟨h1.1, by omega, h2.1, by omega, h3, linkE_of.1 he⟩
      · exact links_ok h l hl
theorem checkE_ok {N : Net} (h : checkE N = 0) : 1 ≤ N.st ∧ N.st ≤ 10 ∧ N.links.length ≤ 40 ∧ ∀ l ∈ N.links, LOk N.st l := by
  unfold checkE at h
  split at h
  · rename_i hw
    simp only [within, Bool.and_eq_true, decide_eq_true_eq] at hw
    split at h
    · cases h
    · exact ⟨hw.1, hw.2, by omega, links_ok h⟩
  · cases h
theorem leaveGo_bounds {delay t : Int} : ∀ {l : List Span} {d : Int}, (∀ s ∈ l, s.hi ≤ 1048576) → leaveGo delay t l = (d, true) → t ≤ d ∧ d + delay ≤ 1048576
  | [], d, _, h => by simp [leaveGo] at h
  | s :: r, d, hb, h => by
    simp only [leaveGo] at h
    split at h
    · have := hb s (by simp)
      simp only [Prod.mk.injEq, and_true] at h
      omega
    · exact leaveGo_bounds (fun s hs => hb s (by simp [hs])) h
theorem leave_bounds {l : Link} {t : Int} (h : (leave l t).2 = true) : right l = true ∧ t ≤ (leave l t).1 ∧ (leave l t).1 + l.delay ≤ 1048576 := by
  unfold leave at h ⊢
  split
  · rename_i hr
    rw [if_pos hr] at h
    obtain ⟨_, _, _, hs⟩ := right_spans hr
    refine ⟨hr, leaveGo_bounds (delay := l.delay) (t := t) (l := l.opn) (fun s hs' => ?_) (by rw [← h])⟩
    obtain ⟨i, hi⟩ := List.getElem?_of_mem hs'
    exact (hs i s hi).2.2
  · rename_i hr; rw [if_neg hr] at h; cases h
theorem leave_range {l : Link} (hr : right l = true) (t : Int) : 0 ≤ (leave l t).1 ∧ (leave l t).1 + l.delay ≤ 1048576 := by
  obtain ⟨d1, d2, _, hs⟩ := right_spans hr
  have go : ∀ ls : List Span, (∀ s ∈ ls, 0 ≤ s.lo ∧ s.hi ≤ 1048576) → 0 ≤ (leaveGo l.delay t ls).1 ∧ (leaveGo l.delay t ls).1 + l.delay ≤ 1048576 := by
    intro ls
    induction ls with
    | nil => intro _; simp [leaveGo]; omega
    | cons s r ih =>
      intro h
      have := h s (by simp)
      simp only [leaveGo]
      split
      · simp only; omega
      · exact ih fun s hs => h s (by simp [hs])
  unfold leave
  rw [if_pos hr]
  refine go _ fun s hs' => ?_
  obtain ⟨i, hi⟩ := List.getElem?_of_mem hs'
  exact ⟨(hs i s hi).1, (hs i s hi).2.2⟩
theorem last_range {l : Link} (hr : right l = true) (t : Int) : 0 ≤ (last l t).1 ∧ (last l t).1 ≤ 1048576 := by
  obtain ⟨d1, d2, _, hs⟩ := right_spans hr
  have go : ∀ ls : List Span, (∀ s ∈ ls, 0 ≤ s.lo ∧ s.hi ≤ 1048576) → 0 ≤ (lastGo l.delay t ls).1 ∧ (lastGo l.delay t ls).1 ≤ 1048576 := by
    intro ls
    induction ls with
    | nil => intro _; simp [lastGo]
    | cons s r ih =>
      intro h
      have := h s (by simp)
      simp only [lastGo]
      split
      · simp only; omega
      · exact ih fun s hs => h s (by simp [hs])
  unfold last
  rw [if_pos hr]
  refine go _ fun s hs' => ?_
  obtain ⟨i, hi⟩ := List.getElem?_of_mem (List.mem_reverse.1 hs')
  exact ⟨(hs i s hi).1, (hs i s hi).2.2⟩
def Vals (out : List Int) : Prop := ∀ v ∈ out, -1 ≤ v ∧ v ≤ 1048576
theorem at_get {o : List Int} {i : Int} (h0 : 0 ≤ i) (h1 : i < o.length) : o[i.toNat]? = some (at' o i) := by
  have : i.toNat < o.length := by omega
  simp [at', List.getElem?_eq_getElem this]
theorem at_get' {o : List Int} (i : Int) (h : i.toNat < o.length) : o[i.toNat] = at' o i := by
  simp [at', List.getElem?_eq_getElem h]
theorem Vals.at {o : List Int} (h : Vals o) {i : Int} (h0 : 0 ≤ i) (h1 : i < o.length) : -1 ≤ at' o i ∧ at' o i ≤ 1048576 :=
  h _ (List.mem_of_getElem? (at_get h0 h1))
theorem Vals.set {o : List Int} (h : Vals o) (k : Nat) {x : Int} (hx : -1 ≤ x ∧ x ≤ 1048576) : Vals (o.set k x) := fun v hv => by
  rcases List.mem_or_eq_of_mem_set hv with h' | h'
  · exact h v h'
  · rw [h']; exact hx
theorem at_set {o : List Int} {i j : Int} (x : Int) (h0 : 0 ≤ i) (h1 : i < o.length) (j0 : 0 ≤ j) : at' (o.set i.toNat x) j = if j = i then x else at' o j := by
  unfold at'
  rw [List.getD_eq_getElem?_getD, List.getD_eq_getElem?_getD]
  by_cases hj : j = i
  · subst hj
    rw [if_pos rfl, List.getElem?_set_self (by omega)]; rfl
  · rw [if_neg hj, List.getElem?_set_ne (by omega)]
theorem relaxR_len (l : Link) (o : List Int) : (relaxR l o).length = o.length := by unfold relaxR; split <;> (try split) <;> simp
theorem relaxR_vals {st : Int} {l : Link} {o : List Int} (hl : LOk st l) (h : Vals o) : Vals (relaxR l o) := by
  unfold relaxR
  split
  · exact h
  · split
    · rename_i h0 hc
      obtain ⟨_, h2, h3⟩ := leave_bounds hc.1
      have := hl.fr0; have := hl.fr1
      obtain ⟨d1, _⟩ := right_spans hl.ok
      exact h.set _ (by omega)
    · exact h
theorem passR_len : ∀ (ls : List Link) (o : List Int), (passR ls o).length = o.length
  | [], o => rfl
  | l :: r, o => by simp [passR, passR_len r, relaxR_len]
theorem passR_vals {st : Int} : ∀ {ls : List Link} {o : List Int}, (∀ l ∈ ls, LOk st l) → Vals o → Vals (passR ls o)
  | [], _, _, h => h
  | l :: r, o, hl, h => by rw [passR]; exact passR_vals (fun x hx => hl x (by simp [hx])) (relaxR_vals (hl l (by simp)) h)
theorem startR_len (st : Nat) (s t : Int) : (startR st s t).length = st := by simp [startR]
theorem startR_vals {st : Nat} {s t : Int} (h0 : 0 ≤ t) (h1 : t ≤ 1048576) : Vals (startR st s t) :=
  Vals.set (fun v hv => by rw [List.eq_of_mem_replicate hv]; omega) _ (by omega)
theorem startR_cells {β : Type} (f : Int → β) {st : Nat} {s t : Int} (h : s.toNat < st) : (startR st s t).map f = List.replicate s.toNat (f (-1)) ++ f t :: List.replicate (st - (s.toNat + 1)) (f (-1)) := by
  rw [startR, List.set_eq_take_append_cons_drop, if_pos (by simpa using h)]
  simp [List.take_replicate, Nat.min_eq_left (Nat.le_of_lt h)]
theorem relaxL_len (l : Link) (o : List Int) : (relaxL l o).length = o.length := by unfold relaxL; split <;> (try split) <;> simp
theorem relaxL_vals {st : Int} {l : Link} {o : List Int} (hl : LOk st l) (h : Vals o) : Vals (relaxL l o) := by
  unfold relaxL
  split
  · exact h
  · split
    · have := last_range hl.ok (at' o l.to)
      exact h.set _ (by omega)
    · exact h
theorem passL_len : ∀ (ls : List Link) (o : List Int), (passL ls o).length = o.length
  | [], o => rfl
  | l :: r, o => by simp [passL, passL_len r, relaxL_len]
theorem passL_vals {st : Int} : ∀ {ls : List Link} {o : List Int}, (∀ l ∈ ls, LOk st l) → Vals o → Vals (passL ls o)
  | [], _, _, h => h
  | l :: r, o, hl, h => by rw [passL]; exact passL_vals (fun x hx => hl x (by simp [hx])) (relaxL_vals (hl l (by simp)) h)
end Nets

namespace Nets
def better (least : Bool) (v x : Int) : Bool := decide (v < 0) || if least then decide (x < v) else decide (v < x)
structure PS where
  out : List Int
  way : List Hop
  ch : Bool
def stepP (from_ : Int) (i : Nat) (l : Link) (s : PS) : PS :=
  if at' s.out l.fr < 0 ∨ l.to = from_ then s
  else if (leave l (at' s.out l.fr)).2 = true ∧ better true (at' s.out l.to) ((leave l (at' s.out l.fr)).1 + l.delay) = true then
    ⟨s.out.set l.to.toNat ((leave l (at' s.out l.fr)).1 + l.delay), s.way.set l.to.toNat ⟨i, (leave l (at' s.out l.fr)).1⟩, true⟩
  else s
def passP (from_ : Int) : Nat → List Link → PS → PS
  | _, [], s => s
  | i, l :: r, s => passP from_ (i + 1) r (stepP from_ i l s)
def runP (from_ : Int) (ls : List Link) : Nat → PS → PS
  | 0, s => s
  | f + 1, s => if (passP from_ 0 ls { s with ch := false }).ch = true then runP from_ ls f (passP from_ 0 ls { s with ch := false }) else passP from_ 0 ls { s with ch := false }
def meas : List Int → Nat
  | [] => 0
  | v :: r => (if v < 0 then 2097152 else v.toNat) + meas r
theorem meas_set : ∀ {o : List Int} {k : Nat} {x v : Int}, o[k]? = some v → 0 ≤ x → x ≤ 1048576 → (v < 0 ∨ x < v) → meas (o.set k x) < meas o
  | [], k, x, v, h, _, _, _ => by simp at h
  | a :: r, 0, x, v, h, h0, h1, h2 => by
    simp at h; subst h
    simp only [List.set_cons_zero, meas]
    split <;> split <;> omega
  | a :: r, k + 1, x, v, h, h0, h1, h2 => by
    have := meas_set (o := r) (k := k) (by simpa using h) h0 h1 h2
    simp only [List.set_cons_succ, meas]; omega
structure PSOk (st : Nat) (s : PS) : Prop where
  lo : s.out.length = st
  lw : s.way.length = st
  vals : Vals s.out
theorem stepP_ok {st : Nat} {f : Int} {i : Nat} {l : Link} {s : PS} (hl : LOk st l) (h : PSOk st s) : PSOk st (stepP f i l s) := by
  unfold stepP
  split
  · exact h
  · split
    · have := leave_range hl.ok (at' s.out l.fr)
      have := (right_spans hl.ok).1
      exact ⟨by simpa using h.lo, by simpa using h.lw, h.vals.set _ (by omega)⟩
    · exact h
theorem stepP_meas {st : Nat} {f : Int} {i : Nat} {l : Link} {s : PS} (hl : LOk st l) (h : PSOk st s) : stepP f i l s = s ∨ ((stepP f i l s).ch = true ∧ meas (stepP f i l s).out < meas s.out) := by
  unfold stepP
  split
  · exact .inl rfl
  · split
    · rename_i h1 h2
      right
      refine ⟨rfl, ?_⟩
      have := leave_range hl.ok (at' s.out l.fr)
      have := (right_spans hl.ok).1
      have hlo := h.lo
      have := hl.to0; have := hl.to1
      refine meas_set (at_get hl.to0 (by omega)) (by omega) (by omega) ?_
      have h3 := h2.2
      simpa [better] using h3
    · exact .inl rfl
theorem passP_ok {st : Nat} {f : Int} : ∀ {ls : List Link} {i : Nat} {s : PS}, (∀ l ∈ ls, LOk st l) → PSOk st s → PSOk st (passP f i ls s)
  | [], _, _, _, h => h
  | l :: r, i, s, hl, h => by rw [passP]; exact passP_ok (fun x hx => hl x (by simp [hx])) (stepP_ok (hl l (by simp)) h)
theorem passP_meas {st : Nat} {f : Int} : ∀ {ls : List Link} {i : Nat} {s : PS}, (∀ l ∈ ls, LOk st l) → PSOk st s → passP f i ls s = s ∨ ((passP f i ls s).ch = true ∧ meas (passP f i ls s).out < meas s.out)
  | [], _, _, _, _ => .inl rfl
  | l :: r, i, s, hl, h => by
    rw [passP]
    rcases stepP_meas (f := f) (i := i) (hl l (by simp)) h with e | ⟨e1, e2⟩
    · rw [e]; exact passP_meas (fun x hx => hl x (by simp [hx])) h
    · rcases passP_meas (f := f) (ls := r) (i := i + 1) (fun x hx => hl x (by simp [hx])) (stepP_ok (f := f) (i := i) (hl l (by simp)) h) with e | ⟨e3, e4⟩
      · rw [e]; exact .inr ⟨e1, e2⟩
      · exact .inr ⟨e3, Nat.lt_trans e4 e2⟩
theorem passP_ch {st : Nat} {f : Int} {ls : List Link} {i : Nat} {s : PS} (hl : ∀ l ∈ ls, LOk st l) (h : PSOk st s) (hc : (passP f i ls { s with ch := false }).ch = true) : meas (passP f i ls { s with ch := false }).out < meas s.out := by
  rcases passP_meas (f := f) (i := i) (s := { s with ch := false }) hl ⟨h.lo, h.lw, h.vals⟩ with e | ⟨_, e⟩
  · rw [e] at hc; cases hc
  · exact e
def startP (st : Nat) (s t : Int) : PS := ⟨startR st s t, List.replicate st ⟨0, 0⟩, true⟩
def arrP (N : Net) (s t : Int) : PS := runP s N.links (meas (startR N.st.toNat s t) + 1) (startP N.st.toNat s t)
end Nets

namespace Nets
/-- the error of a net, stations and a minute -/
def bad (N : Net) (s : Int) : Bool := !within s 0 (N.st - 1)
def arrivesR (N : Net) (from_ to t e : Int) : Int × Int :=
  if e ≠ 0 then (0, e) else if bad N to = true then (0, 1) else if at' (earlR N from_ t) to < 0 then (0, 5) else (at' (earlR N from_ t) to, 0)
def cwGo (ls : List Link) : Int → Int → List Hop → Option (Int × Int)
  | at_, now, [] => some (at_, now)
  | at_, now, h :: r => if within h.link 0 ((ls.length : Int) - 1) = false then none else match ls[h.link.toNat]? with
    | none => none
    | some x => if x.fr ≠ at_ ∨ h.tick < now then none else if (leave x h.tick).2 = false ∨ (leave x h.tick).1 ≠ h.tick then none else cwGo ls x.to (h.tick + x.delay) r
def cwE (N : Net) (from_ to t : Int) (l : List Hop) : Int × Int :=
  if l.length > 40 then (0, 2) else match cwGo N.links from_ t l with
    | none => (0, 8)
    | some (a, now) => if a = to then (now, 0) else (0, 8)
def checkWay (N : Net) (from_ to t e : Int) (l : List Hop) : Int × Int := if e ≠ 0 then (0, e) else cwE N from_ to t l
def cbStep (l : List Int) (x : Link) : Bool := if at' l x.fr < 0 then true else !((leave x (at' l x.fr)).2 && !within (at' l x.to) 0 ((leave x (at' l x.fr)).1 + x.delay))
def cbE (N : Net) (s t : Int) (l : List Int) : Int :=
  if (l.length : Int) ≠ N.st then 8 else if l.any (fun m => !within m (-1) 1048576) = true then 8 else if within (at' l s) 0 t = false then 8 else if N.links.all (cbStep l) = true then 0 else 8
def checkBounds (N : Net) (s t e : Int) (l : List Int) : Int := if e ≠ 0 then e else cbE N s t l
theorem cbE_step {N : Net} {s t : Int} {l : List Int} (h1 : (l.length : Int) = N.st) (h2 : l.any (fun m => !within m (-1) 1048576) = false) (h3 : within (at' l s) 0 t = true) {k : Nat} {x : Link} (hx : N.links[k]? = some x) (h : cbStep l x = false) : cbE N s t l = 8 := by
  unfold cbE
  rw [if_neg (by simpa using h1), if_neg (by rw [h2]; simp), if_neg (by rw [h3]; simp), if_neg]
  intro ha
  have := List.all_eq_true.1 ha x (List.mem_of_getElem? hx)
  rw [h] at this; cases this
theorem cbE_all {N : Net} {s t : Int} {l : List Int} (h1 : (l.length : Int) = N.st) (h2 : l.any (fun m => !within m (-1) 1048576) = false) (h3 : within (at' l s) 0 t = true) (h : ∀ k x, k < N.links.length → N.links[k]? = some x → cbStep l x = true) : cbE N s t l = 0 := by
  unfold cbE
  rw [if_neg (by simpa using h1), if_neg (by rw [h2]; simp), if_neg (by rw [h3]; simp), if_pos]
  refine List.all_eq_true.2 fun x hx => ?_
  obtain ⟨k, hk⟩ := List.getElem?_of_mem hx
  exact h k x (List.getElem?_eq_some_iff.1 hk).1 hk
end Nets

namespace Nets
structure Edge where
  a : Int
  b : Int
  g : Int → Option Int
structure EOk (st : Nat) (key : Int → Int) (e : Edge) : Prop where
  a0 : 0 ≤ e.a
  a1 : e.a < st
  b0 : 0 ≤ e.b
  b1 : e.b < st
  mono : ∀ x y y', 0 ≤ x → key x ≤ key y → e.g y = some y' → ∃ x', e.g x = some x' ∧ key x' ≤ key y'
  lt : ∀ x x', 0 ≤ x → e.g x = some x' → key x < key x'
  pos : ∀ x x', e.g x = some x' → 0 ≤ x'
def relaxA (key : Int → Int) (e : Edge) (o : List Int) : List Int :=
  if at' o e.a < 0 then o else match e.g (at' o e.a) with
    | none => o
    | some y => if at' o e.b < 0 ∨ key y < key (at' o e.b) then o.set e.b.toNat y else o
def passA (key : Int → Int) : List Edge → List Int → List Int
  | [], o => o
  | e :: r, o => passA key r (relaxA key e o)
def roundsA (key : Int → Int) (es : List Edge) : Nat → List Int → List Int
  | 0, o => o
  | k + 1, o => roundsA key es k (passA key es o)
theorem relaxA_len (key : Int → Int) (e : Edge) (o : List Int) : (relaxA key e o).length = o.length := by
  unfold relaxA; split
  · rfl
  · split
    · rfl
    · split <;> simp
theorem passA_len (key : Int → Int) : ∀ (es : List Edge) (o : List Int), (passA key es o).length = o.length
  | [], o => rfl
  | e :: r, o => by rw [passA, passA_len key r, relaxA_len]
theorem roundsA_len (key : Int → Int) (es : List Edge) : ∀ (k : Nat) (o : List Int), (roundsA key es k o).length = o.length
  | 0, o => rfl
  | k + 1, o => by rw [roundsA, roundsA_len key es k, passA_len]
/-- a list is not better than another one -/
def Ge (key : Int → Int) (st : Nat) (E o : List Int) : Prop := ∀ v : Int, 0 ≤ v → v < st → 0 ≤ at' o v → 0 ≤ at' E v ∧ key (at' E v) ≤ key (at' o v)
def Closed (key : Int → Int) (es : List Edge) (E : List Int) : Prop := ∀ e ∈ es, 0 ≤ at' E e.a → ∀ y, e.g (at' E e.a) = some y → 0 ≤ at' E e.b ∧ key (at' E e.b) ≤ key y
theorem relaxA_cases (key : Int → Int) (e : Edge) (o : List Int) : relaxA key e o = o ∨ ∃ y, 0 ≤ at' o e.a ∧ e.g (at' o e.a) = some y ∧ (at' o e.b < 0 ∨ key y < key (at' o e.b)) ∧ relaxA key e o = o.set e.b.toNat y := by
  unfold relaxA
  split
  · exact .inl rfl
  · rename_i h
    split
    · exact .inl rfl
    · rename_i y hy
      split
      · rename_i hc; exact .inr ⟨y, by omega, hy, hc, rfl⟩
      · exact .inl rfl
theorem relaxA_ge {key : Int → Int} {st : Nat} {es : List Edge} {E o : List Int} {e : Edge} (he : e ∈ es) (hk : EOk st key e) (hl : o.length = st) (hc : Closed key es E) (h : Ge key st E o) : Ge key st E (relaxA key e o) := by
  rcases relaxA_cases key e o with h1 | ⟨y, h1, h2, h3, h4⟩
  · rw [h1]; exact h
  · rw [h4]
    intro v v0 v1 hv
    rw [at_set y hk.b0 (by rw [hl]; exact hk.b1) v0] at hv ⊢
    split
    · rename_i hvb
      subst hvb
      obtain ⟨g1, g2⟩ := h e.a hk.a0 hk.a1 h1
      obtain ⟨x', e1, e2⟩ := hk.mono _ _ _ g1 g2 h2
      obtain ⟨c1, c2⟩ := hc e he g1 x' e1
      exact ⟨c1, Int.le_trans c2 e2⟩
    · rename_i hvb; rw [if_neg hvb] at hv; exact h v v0 v1 hv
/-- what is known stays, or gets better -/
def Le' (key : Int → Int) (st : Nat) (o' o : List Int) : Prop := ∀ v : Int, 0 ≤ v → v < st → 0 ≤ at' o v → 0 ≤ at' o' v ∧ key (at' o' v) ≤ key (at' o v)
theorem Le'.refl (key : Int → Int) (st : Nat) (o : List Int) : Le' key st o o := fun _ _ _ h => ⟨h, Int.le_refl _⟩
theorem Le'.trans {key : Int → Int} {st : Nat} {a b c : List Int} (h : Le' key st a b) (k : Le' key st b c) : Le' key st a c := fun v v0 v1 hv =>
  let ⟨h1, h2⟩ := k v v0 v1 hv
  let ⟨h3, h4⟩ := h v v0 v1 h1
  ⟨h3, Int.le_trans h4 h2⟩
theorem relaxA_le {key : Int → Int} {st : Nat} {o : List Int} {e : Edge} (hk : EOk st key e) (hl : o.length = st) : Le' key st (relaxA key e o) o := by
  rcases relaxA_cases key e o with h1 | ⟨y, h1, h2, h3, h4⟩
  · rw [h1]; exact Le'.refl _ _ _
  · rw [h4]
    intro v v0 v1 hv
    rw [at_set y hk.b0 (by rw [hl]; exact hk.b1) v0]
    split
    · rename_i hvb
      subst hvb
      refine ⟨hk.pos _ _ h2, ?_⟩
      rcases h3 with h3 | h3
      · omega
      · exact Int.le_of_lt h3
    · exact ⟨hv, Int.le_refl _⟩
theorem passA_le {key : Int → Int} {st : Nat} : ∀ {es : List Edge} {o : List Int}, (∀ e ∈ es, EOk st key e) → o.length = st → Le' key st (passA key es o) o
  | [], _, _, _ => Le'.refl _ _ _
  | e :: r, o, hk, hl => (passA_le (es := r) (fun x hx => hk x (by simp [hx])) (by rw [relaxA_len]; exact hl)).trans (relaxA_le (hk e (by simp)) hl)
theorem passA_ge {key : Int → Int} {st : Nat} {es0 : List Edge} {E : List Int} (hc : Closed key es0 E) : ∀ {es : List Edge} {o : List Int}, (∀ e ∈ es, e ∈ es0) → (∀ e ∈ es, EOk st key e) → o.length = st → Ge key st E o → Ge key st E (passA key es o)
  | [], _, _, _, _, h => h
  | e :: r, o, hs, hk, hl, h => passA_ge hc (es := r) (fun x hx => hs x (by simp [hx])) (fun x hx => hk x (by simp [hx])) (by rw [relaxA_len]; exact hl) (relaxA_ge (hs e (by simp)) (hk e (by simp)) hl hc h)
/-- behind a pass an edge is done -/
theorem passA_edge {key : Int → Int} {st : Nat} : ∀ {es : List Edge} {o : List Int}, (∀ e ∈ es, EOk st key e) → o.length = st → ∀ e ∈ es, 0 ≤ at' o e.a →
    ∀ x y, 0 ≤ x → key (at' o e.a) ≤ key x → e.g x = some y → (∀ x', 0 ≤ x' → key x' ≤ key (at' o e.a) → True) → 0 ≤ at' (passA key es o) e.b ∧ key (at' (passA key es o) e.b) ≤ key y
  | [], _, _, _, e, he => by simp at he
  | f :: r, o, hk, hl, e, he => by
    intro h0 x y hx hxk hg _
    have hkr : ∀ e ∈ r, EOk st key e := fun x hx => hk x (by simp [hx])
    have hl' : (relaxA key f o).length = st := by rw [relaxA_len]; exact hl
    have hke := hk e he
    have hle := relaxA_le (hk f (by simp)) hl
    rw [passA]
    rcases List.mem_cons.1 he with rfl | he
    · -- the edge itself
      obtain ⟨x', e1, e2⟩ := hke.mono _ _ _ h0 hxk hg
      have done : 0 ≤ at' (relaxA key e o) e.b ∧ key (at' (relaxA key e o) e.b) ≤ key y := by
        unfold relaxA
        rw [if_neg (by omega), e1]
        simp only
        split
        · rename_i hc
          rw [at_set x' hke.b0 (by rw [hl]; exact hke.b1) hke.b0, if_pos rfl]
          exact ⟨hke.pos _ _ e1, e2⟩
        · rename_i hc
          have : ¬ at' o e.b < 0 := fun h => hc (.inl h)
          have h2 : ¬ key x' < key (at' o e.b) := fun h => hc (.inr h)
          exact ⟨by omega, by omega⟩
      obtain ⟨p1, p2⟩ := passA_le hkr hl' e.b hke.b0 hke.b1 done.1
      exact ⟨p1, Int.le_trans p2 done.2⟩
    · obtain ⟨q1, q2⟩ := hle e.a hke.a0 hke.a1 h0
      exact passA_edge hkr hl' e he q1 x y hx (Int.le_trans q2 hxk) hg (fun _ _ _ => trivial)
theorem countP_lt {α : Type} {p q : α → Bool} : ∀ {l : List α}, (∀ x ∈ l, p x = true → q x = true) → (∃ x ∈ l, q x = true ∧ p x = false) → l.countP p < l.countP q
  | [], _, ⟨x, hx, _⟩ => by simp at hx
  | a :: r, h, ⟨x, hx, h1, h2⟩ => by
    have hr : ∀ x ∈ r, p x = true → q x = true := fun x hx => h x (by simp [hx])
    have hle : r.countP p ≤ r.countP q := List.countP_mono_left hr
    rcases List.mem_cons.1 hx with rfl | hx
    · rw [List.countP_cons_of_neg (by simp [h2]), List.countP_cons_of_pos h1]; omega
    · have := countP_lt hr ⟨x, hx, h1, h2⟩
      rw [List.countP_cons, List.countP_cons]
      have ha := h a (by simp)
      cases hpa : p a
      · simp; omega
      · rw [ha hpa]; simp; omega
def rank (key : Int → Int) (st : Nat) (E : List Int) (v : Int) : Nat := (List.range st).countP fun u : Nat => decide (0 ≤ at' E u) && decide (key (at' E u) < key (at' E v))
theorem rank_le (key : Int → Int) (st : Nat) (E : List Int) (v : Int) : rank key st E v ≤ st := by
  have := List.countP_le_length (p := fun u : Nat => decide (0 ≤ at' E u) && decide (key (at' E u) < key (at' E v))) (l := List.range st)
  simpa [rank] using this
theorem rank_lt {key : Int → Int} {st : Nat} {E : List Int} {a v : Int} (a0 : 0 ≤ a) (a1 : a < st) (ha : 0 ≤ at' E a) (h : key (at' E a) < key (at' E v)) : rank key st E a < rank key st E v := by
  refine countP_lt (fun u _ hu => ?_) ⟨a.toNat, by simp; omega, ?_, ?_⟩
  · simp only [Bool.and_eq_true, decide_eq_true_eq] at hu ⊢; omega
  · have : ((a.toNat : Nat) : Int) = a := by omega
    simp only [this, Bool.and_eq_true, decide_eq_true_eq]; exact ⟨ha, h⟩
  · have : ((a.toNat : Nat) : Int) = a := by omega
    simp [this]
/-- what is closed and supported -/
structure Fix (key : Int → Int) (st : Nat) (es : List Edge) (s t : Int) (E : List Int) : Prop where
  len : E.length = st
  start : at' E s = t
  closed : Closed key es E
  supp : ∀ v : Int, 0 ≤ v → v < st → v ≠ s → 0 ≤ at' E v → ∃ e ∈ es, e.b = v ∧ 0 ≤ at' E e.a ∧ e.g (at' E e.a) = some (at' E v)
theorem rounds_fix {key : Int → Int} {st : Nat} {es : List Edge} {s t : Int} {E : List Int} (hk : ∀ e ∈ es, EOk st key e) (h0 : 0 ≤ s) (h1 : s < st) (ht : 0 ≤ t) (F : Fix key st es s t E) : ∀ (k j : Nat) (o : List Int), o.length = st → Ge key st E o →
    (∀ v : Int, 0 ≤ v → v < st → 0 ≤ at' E v → (v = s ∨ rank key st E v < j) → 0 ≤ at' o v ∧ key (at' o v) ≤ key (at' E v)) →
    Ge key st E (roundsA key es k o) ∧ ∀ v : Int, 0 ≤ v → v < st → 0 ≤ at' E v → (v = s ∨ rank key st E v < j + k) → 0 ≤ at' (roundsA key es k o) v ∧ key (at' (roundsA key es k o) v) ≤ key (at' E v)
  | 0, j, o, hl, hg, hr => ⟨hg, hr⟩
  | k + 1, j, o, hl, hg, hr => by
    have hg' := passA_ge F.closed (es := es) (fun _ h => h) hk hl hg
    have hle := passA_le (key := key) (st := st) hk hl
    have := rounds_fix hk h0 h1 ht F k (j + 1) (passA key es o) (by rw [passA_len]; exact hl) hg' (fun v v0 v1 hv hrk => ?_)
    · rw [roundsA]; rw [show j + (k + 1) = j + 1 + k by omega]; exact this
    · by_cases hvs : v = s
      · obtain ⟨p1, p2⟩ := hr v v0 v1 hv (.inl hvs)
        obtain ⟨q1, q2⟩ := hle v v0 v1 p1
        exact ⟨q1, Int.le_trans q2 p2⟩
      · obtain ⟨e, he, hb, ha, hgv⟩ := F.supp v v0 v1 hvs hv
        have hke := hk e he
        have hlt := hke.lt _ _ ha hgv
        have hrl := rank_lt (v := v) hke.a0 hke.a1 ha hlt
        have hrv : rank key st E v < j + 1 := hrk.resolve_left hvs
        obtain ⟨p1, p2⟩ := hr e.a hke.a0 hke.a1 ha (.inr (by omega))
        have := passA_edge hk hl e he p1 (at' E e.a) (at' E v) ha p2 hgv (fun _ _ _ => trivial)
        rw [hb] at this; exact this
theorem fix_unique {key : Int → Int} {st : Nat} {es : List Edge} {s t : Int} {E : List Int} (hinj : ∀ x y, key x ≤ key y → key y ≤ key x → x = y) (hk : ∀ e ∈ es, EOk st key e) (h0 : 0 ≤ s) (h1 : s < st) (ht : 0 ≤ t) (F : Fix key st es s t E)
    (hE : ∀ v ∈ E, -1 ≤ v) (hv : ∀ v ∈ roundsA key es (st + 1) (startR st s t), -1 ≤ v) : roundsA key es (st + 1) (startR st s t) = E := by
  have hs0 : ∀ v : Int, 0 ≤ v → v < st → at' (startR st s t) v = if v = s then t else -1 := fun v v0 v1 => by
    rw [startR, at_set t h0 (by simpa using h1) v0]
    split
    · rfl
    · unfold at'; rw [List.getD_eq_getElem?_getD, List.getElem?_replicate, if_pos (by omega)]; rfl
  obtain ⟨g1, g2⟩ := rounds_fix hk h0 h1 ht F (st + 1) 0 (startR st s t) (startR_len _ _ _) (fun v v0 v1 hv => by
    rw [hs0 v v0 v1] at hv ⊢
    split
    · rename_i e; subst e; rw [F.start]; exact ⟨ht, Int.le_refl _⟩
    · rename_i e; rw [if_neg e] at hv; omega) (fun v v0 v1 hv hr => by
    rcases hr with rfl | hr
    · rw [hs0 v v0 v1, if_pos rfl, F.start]; exact ⟨ht, Int.le_refl _⟩
    · omega)
  have hlen : (roundsA key es (st + 1) (startR st s t)).length = st := by rw [roundsA_len, startR_len]
  refine List.ext_getElem? fun i => ?_
  rcases Nat.lt_or_ge i st with hi | hi
  · have e1 := at_get (o := roundsA key es (st + 1) (startR st s t)) (i := (i : Int)) (by omega) (by omega)
    have e2 := at_get (o := E) (i := (i : Int)) (by omega) (by rw [F.len]; omega)
    simp only [Int.toNat_natCast] at e1 e2
    rw [e1, e2]
    have m1 := hv _ (List.mem_of_getElem? e1)
    have m2 := hE _ (List.mem_of_getElem? e2)
    by_cases c : 0 ≤ at' E i
    · obtain ⟨p1, p2⟩ := g2 i (by omega) (by omega) c (.inr (by have := rank_le key st E i; omega))
      obtain ⟨_, q2⟩ := g1 i (by omega) (by omega) p1
      rw [hinj _ _ p2 q2]
    · by_cases c2 : 0 ≤ at' (roundsA key es (st + 1) (startR st s t)) i
      · exact absurd (g1 i (by omega) (by omega) c2).1 c
      · congr 1; omega
  · rw [List.getElem?_eq_none (by omega), List.getElem?_eq_none (by rw [F.len]; omega)]
end Nets

namespace Nets
theorem spans_sorted : ∀ {l : List Span}, (∀ (i : Nat) (a : Span), l[i]? = some a → a.lo ≤ a.hi) → (∀ (i : Nat) (a b : Span), l[i]? = some a → l[i + 1]? = some b → a.hi < b.lo) → l.Pairwise fun a b => a.hi < b.lo
  | [], _, _ => List.Pairwise.nil
  | [a], _, _ => by simp
  | a :: b :: r, h1, h2 => by
    have ih := spans_sorted (l := b :: r) (fun i x hx => h1 (i + 1) x (by simpa using hx)) (fun i x y hx hy => h2 (i + 1) x y (by simpa using hx) (by simpa using hy))
    refine List.pairwise_cons.2 ⟨fun x hx => ?_, ih⟩
    have hab := h2 0 a b rfl rfl
    rcases List.mem_cons.1 hx with rfl | hx
    · exact hab
    · have := (List.pairwise_cons.1 ih).1 x hx
      have := h1 1 b rfl
      omega
theorem right_sorted {l : Link} (h : right l = true) : l.opn.Pairwise fun a b => a.hi < b.lo := by
  obtain ⟨_, _, _, hs⟩ := right_spans h
  refine spans_sorted (fun i a ha => (hs i a ha).2.1) fun i a b ha hb => ?_
  simp only [right, Bool.and_eq_true, beq_iff_eq] at h
  have h3 := h.2
  unfold spansE at h3
  split at h3
  · cases h3
  · split at h3
    · cases h3
    · rename_i hn
      have hi : i + 1 < l.opn.length := (List.getElem?_eq_some_iff.1 hb).1
      have : badAt l.opn (i + 1) = false := by
        cases hb' : badAt l.opn (i + 1) with
        | false => rfl
        | true => exact absurd (List.any_eq_true.2 ⟨i + 1, by simpa using hi, hb'⟩) hn
      simp only [badAt, hb, Nat.add_sub_cancel, ha, Bool.or_eq_false_iff, decide_eq_false_iff_not, Bool.and_eq_false_iff] at this
      obtain ⟨_, h4⟩ := this
      rcases h4 with h4 | h4
      · omega
      · omega
theorem leaveGo_lo {delay t : Int} : ∀ {l : List Span} {d : Int}, leaveGo delay t l = (d, true) → ∃ s ∈ l, s.lo ≤ d
  | [], d, h => by simp [leaveGo] at h
  | s :: r, d, h => by
    simp only [leaveGo] at h
    split at h
    · simp only [Prod.mk.injEq, and_true] at h; exact ⟨s, by simp, by omega⟩
    · obtain ⟨x, hx, h'⟩ := leaveGo_lo h; exact ⟨x, by simp [hx], h'⟩
theorem leaveGo_mono {delay t t' : Int} (hd : 1 ≤ delay) (ht : t ≤ t') : ∀ {l : List Span} {d' : Int}, l.Pairwise (fun a b => a.hi < b.lo) → leaveGo delay t' l = (d', true) → ∃ d, leaveGo delay t l = (d, true) ∧ d ≤ d'
  | [], d', _, h => by simp [leaveGo] at h
  | s :: r, d', hp, h => by
    obtain ⟨hp1, hp2⟩ := List.pairwise_cons.1 hp
    simp only [leaveGo] at h ⊢
    by_cases c : max s.lo t ≤ s.hi - delay
    · rw [if_pos c]
      refine ⟨_, rfl, ?_⟩
      split at h
      · simp only [Prod.mk.injEq, and_true] at h; omega
      · obtain ⟨x, hx, h'⟩ := leaveGo_lo h
        have := hp1 x hx; omega
    · rw [if_neg c]
      rw [if_neg (by omega)] at h
      exact leaveGo_mono hd ht hp2 h
theorem leave_mono {l : Link} (hr : right l = true) {t t' : Int} (ht : t ≤ t') (h : (leave l t').2 = true) : (leave l t).2 = true ∧ (leave l t).1 ≤ (leave l t').1 := by
  unfold leave at h ⊢
  rw [if_pos hr] at h
  rw [if_pos hr, if_pos hr]
  obtain ⟨d, h1, h2⟩ := leaveGo_mono (right_spans hr).1 ht (right_sorted hr) (d' := (leaveGo l.delay t' l.opn).1) (by rw [← h])
  rw [h1]; exact ⟨rfl, h2⟩
theorem leaveGo_idem {delay t : Int} : ∀ {l : List Span} {d : Int}, leaveGo delay t l = (d, true) → t ≤ d → leaveGo delay d l = (d, true)
  | [], d, h, _ => by simp [leaveGo] at h
  | s :: r, d, h, hd => by
    simp only [leaveGo] at h ⊢
    split at h
    · simp only [Prod.mk.injEq, and_true] at h
      rw [if_pos (by omega)]; simp; omega
    · rw [if_neg (by omega)]; exact leaveGo_idem h hd
theorem leave_idem {l : Link} {t : Int} (h : (leave l t).2 = true) : leave l (leave l t).1 = ((leave l t).1, true) := by
  obtain ⟨hr, h1, _⟩ := leave_bounds h
  have e : ∀ x, leave l x = leaveGo l.delay x l.opn := fun x => by simp [leave, hr]
  have e1 : leaveGo l.delay t l.opn = ((leave l t).1, true) := by rw [← e, ← h]
  rw [e (leave l t).1]
  exact leaveGo_idem e1 h1
theorem lastGo_hi {delay t : Int} : ∀ {l : List Span} {d : Int}, (0 ≤ delay) → lastGo delay t l = (d, true) → ∃ s ∈ l, d ≤ s.hi
  | [], d, _, h => by simp [lastGo] at h
  | s :: r, d, h0, h => by
    simp only [lastGo] at h
    split at h
    · simp only [Prod.mk.injEq, and_true] at h; exact ⟨s, by simp, by omega⟩
    · obtain ⟨x, hx, h'⟩ := lastGo_hi h0 h; exact ⟨x, by simp [hx], h'⟩
theorem lastGo_mono {delay t t' : Int} (hd : 1 ≤ delay) (ht : t ≤ t') : ∀ {l : List Span} {d : Int}, l.Pairwise (fun a b => b.hi < a.lo) → lastGo delay t l = (d, true) → ∃ d', lastGo delay t' l = (d', true) ∧ d ≤ d'
  | [], d, _, h => by simp [lastGo] at h
  | s :: r, d, hp, h => by
    obtain ⟨hp1, hp2⟩ := List.pairwise_cons.1 hp
    simp only [lastGo] at h ⊢
    by_cases c : s.lo ≤ min s.hi (max t' (-1)) - delay
    · rw [if_pos c]
      refine ⟨_, rfl, ?_⟩
      split at h
      · simp only [Prod.mk.injEq, and_true] at h; omega
      · obtain ⟨x, hx, h'⟩ := lastGo_hi (by omega) h
        have := hp1 x hx; omega
    · rw [if_neg c]
      rw [if_neg (by omega)] at h
      exact lastGo_mono hd ht hp2 h
theorem last_mono {l : Link} (hr : right l = true) {t t' : Int} (ht : t ≤ t') (h : (last l t).2 = true) : (last l t').2 = true ∧ (last l t).1 ≤ (last l t').1 := by
  unfold last at h ⊢
  rw [if_pos hr] at h
  rw [if_pos hr, if_pos hr]
  obtain ⟨d, h1, h2⟩ := lastGo_mono (right_spans hr).1 ht (by rw [List.pairwise_reverse]; exact right_sorted hr) (d := (lastGo l.delay t l.opn.reverse).1) (by rw [← h])
  rw [h1]; exact ⟨rfl, h2⟩
theorem lastGo_le {delay t : Int} (hd : 1 ≤ delay) : ∀ {l : List Span} {d : Int}, (∀ s ∈ l, 0 ≤ s.lo) → lastGo delay t l = (d, true) → 0 ≤ d ∧ d + delay ≤ t
  | [], d, _, h => by simp [lastGo] at h
  | s :: r, d, h0, h => by
    have := h0 s (by simp)
    simp only [lastGo] at h
    split at h
    · simp only [Prod.mk.injEq, and_true] at h; omega
    · exact lastGo_le hd (fun s hs => h0 s (by simp [hs])) h
theorem last_le {l : Link} (hr : right l = true) {t : Int} (h : (last l t).2 = true) : 0 ≤ (last l t).1 ∧ (last l t).1 + l.delay ≤ t := by
  unfold last at h ⊢
  rw [if_pos hr] at h ⊢
  obtain ⟨d1, _, _, hs⟩ := right_spans hr
  refine lastGo_le d1 (l := l.opn.reverse) (fun s hs' => ?_) (by rw [← h])
  obtain ⟨i, hi⟩ := List.getElem?_of_mem (List.mem_reverse.1 hs')
  exact (hs i s hi).1
/-- links as edges -/
def eE (l : Link) : Edge := ⟨l.fr, l.to, fun x => if (leave l x).2 = true then some ((leave l x).1 + l.delay) else none⟩
def eL (l : Link) : Edge := ⟨l.to, l.fr, fun x => if (last l x).2 = true then some (last l x).1 else none⟩
def kE : Int → Int := fun x => x
def kL : Int → Int := fun x => -x
theorem eE_ok {st : Nat} {l : Link} (h : LOk st l) : EOk st kE (eE l) := by
  refine ⟨h.fr0, h.fr1, h.to0, h.to1, fun x y y' _ hk hg => ?_, fun x x' _ hg => ?_, fun x x' hg => ?_⟩
  · simp only [eE] at hg ⊢
    split at hg
    · rename_i hy
      obtain ⟨h1, h2⟩ := leave_mono h.ok (show x ≤ y from hk) hy
      rw [if_pos h1]
      simp only [Option.some.injEq] at hg
      exact ⟨_, rfl, by simp only [kE]; omega⟩
    · cases hg
  · simp only [eE] at hg
    split at hg
    · rename_i hy
      obtain ⟨_, h1, _⟩ := leave_bounds hy
      have := (right_spans h.ok).1
      simp only [Option.some.injEq] at hg
      simp only [kE]; omega
    · cases hg
  · simp only [eE] at hg
    split at hg
    · have := leave_range h.ok x
      have := (right_spans h.ok).1
      simp only [Option.some.injEq] at hg
      omega
    · cases hg
theorem eL_ok {st : Nat} {l : Link} (h : LOk st l) : EOk st kL (eL l) := by
  refine ⟨h.to0, h.to1, h.fr0, h.fr1, fun x y y' _ hk hg => ?_, fun x x' _ hg => ?_, fun x x' hg => ?_⟩
  · simp only [eL] at hg ⊢
    split at hg
    · rename_i hy
      obtain ⟨h1, h2⟩ := last_mono h.ok (show y ≤ x by simp only [kL] at hk; omega) hy
      rw [if_pos h1]
      simp only [Option.some.injEq] at hg
      exact ⟨_, rfl, by simp only [kL]; omega⟩
    · cases hg
  · simp only [eL] at hg
    split at hg
    · rename_i hy
      have := last_le h.ok hy
      have := (right_spans h.ok).1
      simp only [Option.some.injEq] at hg
      simp only [kL]; omega
    · cases hg
  · simp only [eL] at hg
    split at hg
    · rename_i hy
      have := last_le h.ok hy
      simp only [Option.some.injEq] at hg
      omega
    · cases hg
theorem relaxR_eq (l : Link) (o : List Int) : relaxR l o = relaxA kE (eE l) o := by
  unfold relaxR relaxA
  simp only [eE, kE]
  by_cases h : at' o l.fr < 0
  · simp [h]
  · cases h2 : (leave l (at' o l.fr)).2
    · simp [h]
    · by_cases hc : at' o l.to < 0 ∨ (leave l (at' o l.fr)).1 + l.delay < at' o l.to <;> simp [h, hc]
theorem passR_eq : ∀ (ls : List Link) (o : List Int), passR ls o = passA kE (ls.map eE) o
  | [], o => rfl
  | l :: r, o => by rw [passR, List.map_cons, passA, ← relaxR_eq, passR_eq r]
theorem roundsR_eq (ls : List Link) : ∀ (k : Nat) (o : List Int), roundsR ls k o = roundsA kE (ls.map eE) k o
  | 0, o => rfl
  | k + 1, o => by rw [roundsR, roundsA, ← passR_eq, roundsR_eq ls k]
theorem relaxA_at {key : Int → Int} {e : Edge} {o : List Int} {y : Int} (h : ¬ at' o e.a < 0) (hg : e.g (at' o e.a) = some y) : relaxA key e o = if at' o e.b < 0 ∨ key y < key (at' o e.b) then o.set e.b.toNat y else o := by
  unfold relaxA; rw [if_neg h, hg]
theorem relaxL_eq {st : Nat} {l : Link} (h : LOk st l) (o : List Int) : relaxL l o = relaxA kL (eL l) o := by
  by_cases h1 : at' o l.to < 0
  · have h1' : at' o (eL l).a < 0 := h1
    unfold relaxL relaxA; rw [if_pos h1, if_pos h1']
  · have h1' : ¬ at' o (eL l).a < 0 := h1
    cases h2 : (last l (at' o l.to)).2
    · have hg : (eL l).g (at' o (eL l).a) = none := by simp [eL, h2]
      unfold relaxL relaxA; rw [if_neg h1, if_neg h1', hg, if_neg (by rw [h2]; simp)]
    · have hg : (eL l).g (at' o (eL l).a) = some (last l (at' o l.to)).1 := by simp [eL, h2]
      have := last_le h.ok h2
      rw [relaxA_at h1' hg]
      unfold relaxL
      rw [if_neg h1]
      by_cases hc : at' o (eL l).b < 0 ∨ kL (last l (at' o l.to)).1 < kL (at' o (eL l).b)
      · have hc' : at' o l.fr < 0 ∨ -(last l (at' o l.to)).1 < -at' o l.fr := hc
        rw [if_pos hc, if_pos ⟨h2, by omega⟩]; rfl
      · have hc' : ¬ (at' o l.fr < 0 ∨ -(last l (at' o l.to)).1 < -at' o l.fr) := hc
        rw [if_neg hc, if_neg (fun h => hc' (by omega))]
theorem passL_eq {st : Nat} : ∀ {ls : List Link} (o : List Int), (∀ l ∈ ls, LOk st l) → passL ls o = passA kL (ls.map eL) o
  | [], o, _ => rfl
  | l :: r, o, h => by rw [passL, List.map_cons, passA, ← relaxL_eq (h l (by simp)), passL_eq _ (fun x hx => h x (by simp [hx]))]
theorem roundsL_eq {st : Nat} {ls : List Link} (h : ∀ l ∈ ls, LOk st l) : ∀ (k : Nat) (o : List Int), roundsL ls k o = roundsA kL (ls.map eL) k o
  | 0, o => rfl
  | k + 1, o => by rw [roundsL, roundsA, ← passL_eq o h, roundsL_eq h k]
end Nets

namespace Nets
theorem passP_fix {st : Nat} {f : Int} {ls : List Link} (hl : ∀ l ∈ ls, LOk st l) : ∀ (n j : Nat) (p : PS), ls.length - j = n → PSOk st p → p.ch = false → (passP f j (ls.drop j) p).ch = false → passP f j (ls.drop j) p = p ∧ ∀ i l, j ≤ i → ls[i]? = some l → stepP f i l p = p
  | 0, j, p, hn, hp, hc, h => by
    have : ls.drop j = [] := List.drop_eq_nil_of_le (by omega)
    rw [this]
    refine ⟨rfl, fun i l hi hl' => ?_⟩
    have := (List.getElem?_eq_some_iff.1 hl').1; omega
  | n + 1, j, p, hn, hp, hc, h => by
    have hj : j < ls.length := by omega
    have hd := List.drop_eq_getElem_cons hj
    have hm : ls[j] ∈ ls := List.getElem_mem hj
    rw [hd, passP] at h ⊢
    rcases stepP_meas (f := f) (i := j) (hl _ hm) hp with e | ⟨e1, e2⟩
    · rw [e] at h ⊢
      obtain ⟨h1, h2⟩ := passP_fix hl n (j + 1) p (by omega) hp hc h
      refine ⟨h1, fun i l hi hl' => ?_⟩
      by_cases hij : i = j
      · subst hij
        rw [List.getElem?_eq_getElem hj] at hl'
        cases hl'; exact e
      · exact h2 i l (by omega) hl'
    · exfalso
      have hr : ∀ l ∈ ls.drop (j + 1), LOk st l := fun l hl' => hl l (List.mem_of_mem_drop hl')
      rcases passP_meas (f := f) (i := j + 1) hr (stepP_ok (f := f) (i := j) (hl _ hm) hp) with e | ⟨e3, _⟩
      · rw [e, e1] at h; cases h
      · rw [e3] at h; cases h
theorem passP_inv {P : PS → Prop} {f : Int} {ls : List Link} (hP : ∀ q (i : Nat) l, ls[i]? = some l → P q → P (stepP f i l q)) : ∀ (n j : Nat) (p : PS), ls.length - j = n → P p → P (passP f j (ls.drop j) p)
  | 0, j, p, hn, h => by
    have : ls.drop j = [] := List.drop_eq_nil_of_le (by omega)
    rw [this]; exact h
  | n + 1, j, p, hn, h => by
    have hj : j < ls.length := by omega
    rw [List.drop_eq_getElem_cons hj, passP]
    exact passP_inv hP n (j + 1) _ (by omega) (hP _ _ _ (List.getElem?_eq_getElem hj) h)
theorem runP_spec {st : Nat} {P : PS → Prop} {s : Int} {ls : List Link} (hl : ∀ l ∈ ls, LOk st l) (hP : ∀ q (i : Nat) l, ls[i]? = some l → P q → P (stepP s i l q)) (hc : ∀ q, P q → P { q with ch := false }) :
    ∀ (f : Nat) (p : PS), PSOk st p → P p → meas p.out < f → PSOk st (runP s ls f p) ∧ P (runP s ls f p) ∧ ∀ (i : Nat) l, ls[i]? = some l → stepP s i l (runP s ls f p) = runP s ls f p
  | 0, p, _, _, h => by omega
  | f + 1, p, hp, hq, h => by
    have hp0 : PSOk st { p with ch := false } := ⟨hp.lo, hp.lw, hp.vals⟩
    rw [runP]
    cases hch : (passP s 0 ls { p with ch := false }).ch
    · rw [if_neg (by simp)]
      have := passP_fix (f := s) hl ls.length 0 { p with ch := false } rfl hp0 rfl hch
      obtain ⟨h1, h2⟩ := this
      simp only [List.drop_zero] at h1
      rw [h1]
      exact ⟨hp0, hc _ hq, fun i l hi => h2 i l (by omega) hi⟩
    · rw [if_pos rfl]
      have hm := passP_ch (f := s) (i := 0) hl hp hch
      exact runP_spec hl hP hc f _ (passP_ok hl hp0) (passP_inv hP ls.length 0 _ rfl (hc _ hq)) (by omega)
structure WInv (ls : List Link) (st : Nat) (s t : Int) (p : PS) : Prop where
  ok : PSOk st p
  start : at' p.out s = t
  ge : ∀ v : Int, 0 ≤ v → v < st → 0 ≤ at' p.out v → t ≤ at' p.out v
  hop : ∀ v : Int, 0 ≤ v → v < st → v ≠ s → 0 ≤ at' p.out v → ∃ (i : Nat) (l : Link) (d : Int), p.way[v.toNat]? = some ⟨i, d⟩ ∧ ls[i]? = some l ∧ l.to = v ∧ at' p.out v = d + l.delay ∧ 0 ≤ at' p.out l.fr ∧ at' p.out l.fr ≤ d ∧ leave l d = (d, true)
theorem stepP_winv {ls : List Link} {st : Nat} {s t : Int} (hs0 : 0 ≤ s) (hl : ∀ l ∈ ls, LOk st l) (q : PS) (i : Nat) (l : Link) (hi : ls[i]? = some l) (h : WInv ls st s t q) : WInv ls st s t (stepP s i l q) := by
  have hlm := hl l (List.mem_of_getElem? hi)
  have hok := stepP_ok (f := s) (i := i) hlm h.ok
  have hlo := h.ok.lo
  have hlw := h.ok.lw
  unfold stepP at hok ⊢
  split at hok <;> rename_i h1
  · rw [if_pos h1]; exact h
  · rw [if_neg h1]
    split at hok <;> rename_i h2
    · rw [if_pos h2]
      obtain ⟨h2, h3⟩ := h2
      have h1a : ¬ at' q.out l.fr < 0 := fun e => h1 (.inl e)
      have h1b : l.to ≠ s := fun e => h1 (.inr e)
      obtain ⟨hr, h4, h5⟩ := leave_bounds h2
      have hd := (right_spans hr).1
      have hge := h.ge l.fr hlm.fr0 hlm.fr1 (by omega)
      have hset : ∀ v : Int, 0 ≤ v → at' (q.out.set l.to.toNat ((leave l (at' q.out l.fr)).1 + l.delay)) v = if v = l.to then (leave l (at' q.out l.fr)).1 + l.delay else at' q.out v := fun v v0 =>
        at_set _ hlm.to0 (by rw [hlo]; exact hlm.to1) v0
      refine ⟨hok, ?_, fun v v0 v1 hv => ?_, fun v v0 v1 hvs hv => ?_⟩
      · show at' (q.out.set _ _) s = t
        rw [hset s hs0, if_neg (Ne.symm h1b)]; exact h.start
      · rw [hset v v0] at hv ⊢
        split
        · omega
        · rename_i hne; rw [if_neg hne] at hv; exact h.ge v v0 v1 hv
      · rw [hset v v0] at hv ⊢
        simp only
        have hbv : at' q.out l.to < 0 ∨ (leave l (at' q.out l.fr)).1 + l.delay < at' q.out l.to := by simpa [better] using h3
        have hfr : ∀ x : Int, 0 ≤ x → 0 ≤ at' q.out x → ∀ d, at' q.out x ≤ d → 0 ≤ at' (q.out.set l.to.toNat ((leave l (at' q.out l.fr)).1 + l.delay)) x ∧ at' (q.out.set l.to.toNat ((leave l (at' q.out l.fr)).1 + l.delay)) x ≤ d := fun x x0 hx d hxd => by
          rw [hset x x0]
          split
          · rename_i e; subst e; omega
          · exact ⟨hx, hxd⟩
        by_cases hvt : v = l.to
        · subst hvt
          rw [if_pos rfl] at hv ⊢
          obtain ⟨f1, f2⟩ := hfr l.fr hlm.fr0 (by omega) _ h4
          refine ⟨i, l, (leave l (at' q.out l.fr)).1, ?_, hi, rfl, rfl, f1, f2, leave_idem h2⟩
          rw [List.getElem?_set_self (by rw [hlw]; have := hlm.to0; have := hlm.to1; omega)]
        · rw [if_neg hvt] at hv ⊢
          obtain ⟨i', l', d', g1, g2, g3, g4, g5, g6, g7⟩ := h.hop v v0 v1 hvs hv
          have hlm' := hl l' (List.mem_of_getElem? g2)
          obtain ⟨f1, f2⟩ := hfr l'.fr hlm'.fr0 g5 d' g6
          refine ⟨i', l', d', ?_, g2, g3, g4, f1, f2, g7⟩
          rw [List.getElem?_set_ne (by have := hlm.to0; omega)]; exact g1
    · rw [if_neg h2]; exact h
theorem startP_winv {ls : List Link} {st : Nat} {s t : Int} (h0 : 0 ≤ s) (h1 : s < st) (t0 : 0 ≤ t) (t1 : t ≤ 1048576) : WInv ls st s t (startP st s t) := by
  have hs : ∀ v : Int, 0 ≤ v → v < st → at' (startR st s t) v = if v = s then t else -1 := fun v v0 v1 => by
    rw [startR, at_set t h0 (by simpa using h1) v0]
    split
    · rfl
    · unfold at'; rw [List.getD_eq_getElem?_getD, List.getElem?_replicate, if_pos (by omega)]; rfl
  refine ⟨⟨startR_len _ _ _, by simp [startP], startR_vals t0 t1⟩, ?_, fun v v0 v1 hv => ?_, fun v v0 v1 hvs hv => ?_⟩
  · show at' (startR st s t) s = t
    rw [hs s h0 h1, if_pos rfl]
  · have hv : 0 ≤ at' (startR st s t) v := hv
    show t ≤ at' (startR st s t) v
    rw [hs v v0 v1] at hv ⊢
    split
    · omega
    · rename_i e; rw [if_neg e] at hv; omega
  · have hv : 0 ≤ at' (startR st s t) v := hv
    rw [hs v v0 v1, if_neg hvs] at hv; omega
theorem arrP_spec {N : Net} {s t : Int} (hC : checkE N = 0) (h0 : 0 ≤ s) (h1 : s < N.st) (t0 : 0 ≤ t) (t1 : t ≤ 1048576) :
    WInv N.links N.st.toNat s t (arrP N s t) ∧ ∀ (i : Nat) l, N.links[i]? = some l → stepP s i l (arrP N s t) = arrP N s t := by
  obtain ⟨s1, s2, _, hok⟩ := checkE_ok hC
  have hst : ((N.st.toNat : Nat) : Int) = N.st := by omega
  have hl : ∀ l ∈ N.links, LOk (N.st.toNat : Nat) l := fun l hl => by rw [hst]; exact hok l hl
  have hw := startP_winv (ls := N.links) (st := N.st.toNat) h0 (by omega) t0 t1
  obtain ⟨_, h2, h3⟩ := runP_spec (P := WInv N.links N.st.toNat s t) (s := s) hl (fun q i l hi hq => stepP_winv h0 hl q i l hi hq) (fun q hq => ⟨⟨hq.ok.lo, hq.ok.lw, hq.ok.vals⟩, hq.start, hq.ge, hq.hop⟩) (meas (startR N.st.toNat s t) + 1) (startP N.st.toNat s t) hw.ok hw (by simp [startP])
  exact ⟨h2, h3⟩
/-- The program's arrivals are closed and supported. -/
theorem arrP_fix {N : Net} {s t : Int} (hC : checkE N = 0) (h0 : 0 ≤ s) (h1 : s < N.st) (t0 : 0 ≤ t) (t1 : t ≤ 1048576) : Fix kE N.st.toNat (N.links.map eE) s t (arrP N s t).out := by
  obtain ⟨W, hfix⟩ := arrP_spec hC h0 h1 t0 t1
  obtain ⟨s1, s2, _, hok⟩ := checkE_ok hC
  have hst : ((N.st.toNat : Nat) : Int) = N.st := by omega
  have hlo := W.ok.lo
  have closed : Closed kE (N.links.map eE) (arrP N s t).out := by
    intro e he ha y hg
    obtain ⟨l, hl, rfl⟩ := List.mem_map.1 he
    obtain ⟨i, hi⟩ := List.getElem?_of_mem hl
    have hlm := hok l hl
    have ha : 0 ≤ at' (arrP N s t).out l.fr := ha
    show 0 ≤ at' (arrP N s t).out l.to ∧ at' (arrP N s t).out l.to ≤ y
    simp only [eE] at hg
    split at hg
    · rename_i h2
      simp only [Option.some.injEq] at hg
      obtain ⟨hr, h4, h5⟩ := leave_bounds h2
      have hd := (right_spans hr).1
      have hge := W.ge l.fr hlm.fr0 (by rw [hst]; exact hlm.fr1) ha
      by_cases hto : l.to = s
      · rw [hto, W.start]; omega
      · have hs := hfix i l hi
        unfold stepP at hs
        rw [if_neg (by intro h; rcases h with h | h; omega; exact hto h)] at hs
        by_cases hb : better true (at' (arrP N s t).out l.to) ((leave l (at' (arrP N s t).out l.fr)).1 + l.delay) = true
        · rw [if_pos ⟨h2, hb⟩] at hs
          have e := congrArg PS.out hs
          simp only at e
          have e2 := at_set (o := (arrP N s t).out) ((leave l (at' (arrP N s t).out l.fr)).1 + l.delay) hlm.to0 (by rw [hlo, hst]; exact hlm.to1) hlm.to0
          rw [e, if_pos rfl] at e2
          omega
        · simp [better] at hb
          omega
    · cases hg
  refine ⟨hlo, W.start, closed, fun v v0 v1 hvs hv => ?_⟩
  obtain ⟨i, l, d, g1, g2, g3, g4, g5, g6, g7⟩ := W.hop v v0 v1 hvs hv
  have hlm := hok l (List.mem_of_getElem? g2)
  refine ⟨eE l, List.mem_map.2 ⟨l, List.mem_of_getElem? g2, rfl⟩, g3, g5, ?_⟩
  obtain ⟨m1, m2⟩ := leave_mono hlm.ok g6 (by rw [g7])
  rw [g7] at m2
  have hg : (eE l).g (at' (arrP N s t).out (eE l).a) = some ((leave l (at' (arrP N s t).out l.fr)).1 + l.delay) := by simp [eE, m1]
  obtain ⟨_, c2⟩ := closed (eE l) (List.mem_map.2 ⟨l, List.mem_of_getElem? g2, rfl⟩) g5 _ hg
  have c2 : at' (arrP N s t).out l.to ≤ (leave l (at' (arrP N s t).out l.fr)).1 + l.delay := c2
  rw [g3, g4] at c2
  rw [hg, g4]
  simp only [Option.some.injEq]
  simp only at m2
  omega
theorem kE_inj (x y : Int) (h : kE x ≤ kE y) (k : kE y ≤ kE x) : x = y := Int.le_antisymm h k
theorem kL_inj (x y : Int) (h : kL x ≤ kL y) (k : kL y ≤ kL x) : x = y := by simp only [kL] at h k; omega
theorem roundsR_vals {st : Int} {ls : List Link} (h : ∀ l ∈ ls, LOk st l) : ∀ (k : Nat) (o : List Int), Vals o → Vals (roundsR ls k o)
  | 0, _, h => h
  | k + 1, o, ho => by rw [roundsR]; exact roundsR_vals h k _ (passR_vals h ho)
theorem roundsL_vals {st : Int} {ls : List Link} (h : ∀ l ∈ ls, LOk st l) : ∀ (k : Nat) (o : List Int), Vals o → Vals (roundsL ls k o)
  | 0, _, h => h
  | k + 1, o, ho => by rw [roundsL]; exact roundsL_vals h k _ (passL_vals h ho)
/-- The program's arrivals are the specification's. -/
theorem arr_eq {N : Net} {s t : Int} (hC : checkE N = 0) (h0 : 0 ≤ s) (h1 : s < N.st) (t0 : 0 ≤ t) (t1 : t ≤ 1048576) : (arrP N s t).out = earlR N s t := by
  obtain ⟨W, _⟩ := arrP_spec hC h0 h1 t0 t1
  obtain ⟨s1, s2, _, hok⟩ := checkE_ok hC
  have hst : ((N.st.toNat : Nat) : Int) = N.st := by omega
  have hl : ∀ l ∈ N.links, LOk (N.st.toNat : Nat) l := fun l hl => by rw [hst]; exact hok l hl
  have F := arrP_fix hC h0 h1 t0 t1
  have hk : ∀ e ∈ N.links.map eE, EOk N.st.toNat kE e := fun e he => by
    obtain ⟨l, hl', rfl⟩ := List.mem_map.1 he
    exact eE_ok (hl l hl')
  rw [earlR, roundsR_eq]
  refine (fix_unique kE_inj hk h0 (by omega) t0 F (fun v hv => (W.ok.vals v hv).1) fun v hv => ?_).symm
  rw [← roundsR_eq] at hv
  exact (roundsR_vals hok _ _ (startR_vals t0 t1) v hv).1
end Nets

namespace Nets
structure QS where
  out : List Int
  ch : Bool
def stepQ (s : Int) (l : Link) (q : QS) : QS :=
  if at' q.out l.to < 0 ∨ l.fr = s then q
  else if (last l (at' q.out l.to)).2 = true ∧ better false (at' q.out l.fr) (last l (at' q.out l.to)).1 = true then ⟨q.out.set l.fr.toNat (last l (at' q.out l.to)).1, true⟩
  else q
def passQ (s : Int) : List Link → QS → QS
  | [], q => q
  | l :: r, q => passQ s r (stepQ s l q)
def runQ (s : Int) (ls : List Link) : Nat → QS → QS
  | 0, q => q
  | f + 1, q => if (passQ s ls { q with ch := false }).ch = true then runQ s ls f (passQ s ls { q with ch := false }) else passQ s ls { q with ch := false }
def measL : List Int → Nat
  | [] => 0
  | v :: r => (if v < 0 then 2097152 else (1048576 - v).toNat) + measL r
theorem measL_set : ∀ {o : List Int} {k : Nat} {x v : Int}, o[k]? = some v → 0 ≤ x → x ≤ 1048576 → (v < 0 ∨ v < x) → measL (o.set k x) < measL o
  | [], k, x, v, h, _, _, _ => by simp at h
  | a :: r, 0, x, v, h, h0, h1, h2 => by
    simp at h; subst h
    simp only [List.set_cons_zero, measL]
    split <;> split <;> omega
  | a :: r, k + 1, x, v, h, h0, h1, h2 => by
    have := measL_set (o := r) (k := k) (by simpa using h) h0 h1 h2
    simp only [List.set_cons_succ, measL]; omega
structure QSOk (st : Nat) (q : QS) : Prop where
  lo : q.out.length = st
  vals : Vals q.out
theorem stepQ_ok {st : Nat} {s : Int} {l : Link} {q : QS} (hl : LOk st l) (h : QSOk st q) : QSOk st (stepQ s l q) := by
  unfold stepQ
  split
  · exact h
  · split
    · have := last_range hl.ok (at' q.out l.to)
      exact ⟨by simpa using h.lo, h.vals.set _ (by omega)⟩
    · exact h
theorem stepQ_meas {st : Nat} {s : Int} {l : Link} {q : QS} (hl : LOk st l) (h : QSOk st q) : stepQ s l q = q ∨ ((stepQ s l q).ch = true ∧ measL (stepQ s l q).out < measL q.out) := by
  unfold stepQ
  split
  · exact .inl rfl
  · split
    · rename_i h1 h2
      right
      refine ⟨rfl, ?_⟩
      have := last_range hl.ok (at' q.out l.to)
      have hlo := h.lo
      have := hl.fr0; have := hl.fr1
      refine measL_set (at_get hl.fr0 (by omega)) (by omega) (by omega) ?_
      have h3 := h2.2
      simpa [better] using h3
    · exact .inl rfl
theorem passQ_ok {st : Nat} {s : Int} : ∀ {ls : List Link} {q : QS}, (∀ l ∈ ls, LOk st l) → QSOk st q → QSOk st (passQ s ls q)
  | [], _, _, h => h
  | l :: r, q, hl, h => by rw [passQ]; exact passQ_ok (fun x hx => hl x (by simp [hx])) (stepQ_ok (hl l (by simp)) h)
theorem passQ_meas {st : Nat} {s : Int} : ∀ {ls : List Link} {q : QS}, (∀ l ∈ ls, LOk st l) → QSOk st q → passQ s ls q = q ∨ ((passQ s ls q).ch = true ∧ measL (passQ s ls q).out < measL q.out)
  | [], _, _, _ => .inl rfl
  | l :: r, q, hl, h => by
    rw [passQ]
    rcases stepQ_meas (s := s) (hl l (by simp)) h with e | ⟨e1, e2⟩
    · rw [e]; exact passQ_meas (fun x hx => hl x (by simp [hx])) h
    · rcases passQ_meas (s := s) (ls := r) (fun x hx => hl x (by simp [hx])) (stepQ_ok (s := s) (hl l (by simp)) h) with e | ⟨e3, e4⟩
      · rw [e]; exact .inr ⟨e1, e2⟩
      · exact .inr ⟨e3, Nat.lt_trans e4 e2⟩
theorem passQ_ch {st : Nat} {s : Int} {ls : List Link} {q : QS} (hl : ∀ l ∈ ls, LOk st l) (h : QSOk st q) (hc : (passQ s ls { q with ch := false }).ch = true) : measL (passQ s ls { q with ch := false }).out < measL q.out := by
  rcases passQ_meas (s := s) (q := { q with ch := false }) hl ⟨h.lo, h.vals⟩ with e | ⟨_, e⟩
  · rw [e] at hc; cases hc
  · exact e
theorem passQ_fix {st : Nat} {s : Int} : ∀ {ls : List Link} {q : QS}, (∀ l ∈ ls, LOk st l) → QSOk st q → q.ch = false → (passQ s ls q).ch = false → passQ s ls q = q ∧ ∀ l ∈ ls, stepQ s l q = q
  | [], q, _, _, _, _ => ⟨rfl, fun l h => by simp at h⟩
  | l :: r, q, hl, hq, hc, h => by
    rw [passQ] at h ⊢
    rcases stepQ_meas (s := s) (hl l (by simp)) hq with e | ⟨e1, e2⟩
    · rw [e] at h ⊢
      obtain ⟨h1, h2⟩ := passQ_fix (fun x hx => hl x (by simp [hx])) hq hc h
      refine ⟨h1, fun x hx => ?_⟩
      rcases List.mem_cons.1 hx with rfl | hx
      · exact e
      · exact h2 x hx
    · exfalso
      rcases passQ_meas (s := s) (ls := r) (fun x hx => hl x (by simp [hx])) (stepQ_ok (s := s) (hl l (by simp)) hq) with e | ⟨e3, _⟩
      · rw [e, e1] at h; cases h
      · rw [e3] at h; cases h
theorem passQ_inv {P : QS → Prop} {s : Int} : ∀ {ls : List Link} {q : QS}, (∀ q l, l ∈ ls → P q → P (stepQ s l q)) → P q → P (passQ s ls q)
  | [], _, _, h => h
  | l :: r, q, hP, h => by rw [passQ]; exact passQ_inv (fun q x hx => hP q x (by simp [hx])) (hP q l (by simp) h)
theorem runQ_spec {st : Nat} {P : QS → Prop} {s : Int} {ls : List Link} (hl : ∀ l ∈ ls, LOk st l) (hP : ∀ q l, l ∈ ls → P q → P (stepQ s l q)) (hc : ∀ q, P q → P { q with ch := false }) :
    ∀ (f : Nat) (q : QS), QSOk st q → P q → measL q.out < f → QSOk st (runQ s ls f q) ∧ P (runQ s ls f q) ∧ ∀ l ∈ ls, stepQ s l (runQ s ls f q) = runQ s ls f q
  | 0, q, _, _, h => by omega
  | f + 1, q, hq, hp, h => by
    have hq0 : QSOk st { q with ch := false } := ⟨hq.lo, hq.vals⟩
    rw [runQ]
    cases hch : (passQ s ls { q with ch := false }).ch
    · rw [if_neg (by simp)]
      obtain ⟨h1, h2⟩ := passQ_fix (s := s) hl hq0 rfl hch
      rw [h1]
      exact ⟨hq0, hc _ hp, h2⟩
    · rw [if_pos rfl]
      have hm := passQ_ch (s := s) hl hq hch
      exact runQ_spec hl hP hc f _ (passQ_ok hl hq0) (passQ_inv hP (hc _ hp)) (by omega)
structure QInv (ls : List Link) (st : Nat) (s t : Int) (q : QS) : Prop where
  ok : QSOk st q
  start : at' q.out s = t
  le : ∀ v : Int, 0 ≤ v → v < st → at' q.out v ≤ t
  supp : ∀ v : Int, 0 ≤ v → v < st → v ≠ s → 0 ≤ at' q.out v → ∃ l ∈ ls, l.fr = v ∧ 0 ≤ at' q.out l.to ∧ ∃ x, x ≤ at' q.out l.to ∧ last l x = (at' q.out v, true)
theorem stepQ_qinv {ls : List Link} {st : Nat} {s t : Int} (hs0 : 0 ≤ s) (_ : 0 ≤ t) (hl : ∀ l ∈ ls, LOk st l) (q : QS) (l : Link) (hi : l ∈ ls) (h : QInv ls st s t q) : QInv ls st s t (stepQ s l q) := by
  have hlm := hl l hi
  have hok := stepQ_ok (s := s) hlm h.ok
  have hlo := h.ok.lo
  unfold stepQ at hok ⊢
  split at hok <;> rename_i h1
  · rw [if_pos h1]; exact h
  · rw [if_neg h1]
    split at hok <;> rename_i h2
    · rw [if_pos h2]
      obtain ⟨h2, h3⟩ := h2
      have h1a : ¬ at' q.out l.to < 0 := fun e => h1 (.inl e)
      have h1b : l.fr ≠ s := fun e => h1 (.inr e)
      have hle := last_le hlm.ok h2
      have hd := (right_spans hlm.ok).1
      have hge := h.le l.to hlm.to0 hlm.to1
      have hset : ∀ v : Int, 0 ≤ v → at' (q.out.set l.fr.toNat (last l (at' q.out l.to)).1) v = if v = l.fr then (last l (at' q.out l.to)).1 else at' q.out v := fun v v0 =>
        at_set _ hlm.fr0 (by rw [hlo]; exact hlm.fr1) v0
      refine ⟨hok, ?_, fun v v0 v1 => ?_, fun v v0 v1 hvs hv => ?_⟩
      · show at' (q.out.set _ _) s = t
        rw [hset s hs0, if_neg (Ne.symm h1b)]; exact h.start
      · rw [hset v v0]
        split
        · omega
        · exact h.le v v0 v1
      · rw [hset v v0] at hv ⊢
        simp only
        have hbv : at' q.out l.fr < 0 ∨ at' q.out l.fr < (last l (at' q.out l.to)).1 := by simpa [better] using h3
        have hto : ∀ x : Int, 0 ≤ x → 0 ≤ at' q.out x → ∀ d, d ≤ at' q.out x → 0 ≤ at' (q.out.set l.fr.toNat (last l (at' q.out l.to)).1) x ∧ d ≤ at' (q.out.set l.fr.toNat (last l (at' q.out l.to)).1) x := fun x x0 hx d hxd => by
          rw [hset x x0]
          split
          · rename_i e; subst e; omega
          · exact ⟨hx, hxd⟩
        by_cases hvt : v = l.fr
        · subst hvt
          rw [if_pos rfl] at hv ⊢
          obtain ⟨f1, f2⟩ := hto l.to hlm.to0 (by omega) _ (Int.le_refl _)
          exact ⟨l, hi, rfl, f1, at' q.out l.to, f2, by rw [← h2]⟩
        · rw [if_neg hvt] at hv ⊢
          obtain ⟨l', g1, g2, g3, x, g4, g5⟩ := h.supp v v0 v1 hvs hv
          have hlm' := hl l' g1
          obtain ⟨f1, f2⟩ := hto l'.to hlm'.to0 g3 x g4
          exact ⟨l', g1, g2, f1, x, f2, g5⟩
    · rw [if_neg h2]; exact h
def startQ (st : Nat) (s t : Int) : QS := ⟨startR st s t, true⟩
def lateP (N : Net) (s t : Int) : QS := runQ s N.links (measL (startR N.st.toNat s t) + 1) (startQ N.st.toNat s t)
theorem startR_at {st : Nat} {s t : Int} (h0 : 0 ≤ s) (h1 : s < st) (v : Int) (v0 : 0 ≤ v) (v1 : v < st) : at' (startR st s t) v = if v = s then t else -1 := by
  rw [startR, at_set t h0 (by simpa using h1) v0]
  split
  · rfl
  · unfold at'; rw [List.getD_eq_getElem?_getD, List.getElem?_replicate, if_pos (by omega)]; rfl
theorem startQ_qinv {ls : List Link} {st : Nat} {s t : Int} (h0 : 0 ≤ s) (h1 : s < st) (t0 : 0 ≤ t) (t1 : t ≤ 1048576) : QInv ls st s t (startQ st s t) := by
  refine ⟨⟨startR_len _ _ _, startR_vals t0 t1⟩, ?_, fun v v0 v1 => ?_, fun v v0 v1 hvs hv => ?_⟩
  · show at' (startR st s t) s = t
    rw [startR_at h0 h1 s h0 h1, if_pos rfl]
  · show at' (startR st s t) v ≤ t
    rw [startR_at h0 h1 v v0 v1]; split <;> omega
  · have hv : 0 ≤ at' (startR st s t) v := hv
    rw [startR_at h0 h1 v v0 v1, if_neg hvs] at hv; omega
theorem lateP_spec {N : Net} {s t : Int} (hC : checkE N = 0) (h0 : 0 ≤ s) (h1 : s < N.st) (t0 : 0 ≤ t) (t1 : t ≤ 1048576) :
    QInv N.links N.st.toNat s t (lateP N s t) ∧ ∀ l ∈ N.links, stepQ s l (lateP N s t) = lateP N s t := by
  obtain ⟨s1, s2, _, hok⟩ := checkE_ok hC
  have hst : ((N.st.toNat : Nat) : Int) = N.st := by omega
  have hl : ∀ l ∈ N.links, LOk (N.st.toNat : Nat) l := fun l hl => by rw [hst]; exact hok l hl
  have hw := startQ_qinv (ls := N.links) (st := N.st.toNat) h0 (by omega) t0 t1
  obtain ⟨_, h2, h3⟩ := runQ_spec (P := QInv N.links N.st.toNat s t) (s := s) hl (fun q l hi hq => stepQ_qinv h0 t0 hl q l hi hq) (fun q hq => ⟨⟨hq.ok.lo, hq.ok.vals⟩, hq.start, hq.le, hq.supp⟩) (measL (startR N.st.toNat s t) + 1) (startQ N.st.toNat s t) hw.ok hw (by simp [startQ])
  exact ⟨h2, h3⟩
theorem lateP_fix {N : Net} {s t : Int} (hC : checkE N = 0) (h0 : 0 ≤ s) (h1 : s < N.st) (t0 : 0 ≤ t) (t1 : t ≤ 1048576) : Fix kL N.st.toNat (N.links.map eL) s t (lateP N s t).out := by
  obtain ⟨W, hfix⟩ := lateP_spec hC h0 h1 t0 t1
  obtain ⟨s1, s2, _, hok⟩ := checkE_ok hC
  have hst : ((N.st.toNat : Nat) : Int) = N.st := by omega
  have hlo := W.ok.lo
  have closed : Closed kL (N.links.map eL) (lateP N s t).out := by
    intro e he ha y hg
    obtain ⟨l, hl, rfl⟩ := List.mem_map.1 he
    have hlm := hok l hl
    have ha : 0 ≤ at' (lateP N s t).out l.to := ha
    show 0 ≤ at' (lateP N s t).out l.fr ∧ -(at' (lateP N s t).out l.fr) ≤ -y
    simp only [eL] at hg
    split at hg
    · rename_i h2
      simp only [Option.some.injEq] at hg
      have hle := last_le hlm.ok h2
      have hd := (right_spans hlm.ok).1
      have hge := W.le l.to hlm.to0 (by rw [hst]; exact hlm.to1)
      by_cases hto : l.fr = s
      · rw [hto, W.start]; omega
      · have hs := hfix l hl
        unfold stepQ at hs
        rw [if_neg (by intro h; rcases h with h | h; omega; exact hto h)] at hs
        by_cases hb : better false (at' (lateP N s t).out l.fr) (last l (at' (lateP N s t).out l.to)).1 = true
        · rw [if_pos ⟨h2, hb⟩] at hs
          have e := congrArg QS.out hs
          simp only at e
          have e2 := at_set (o := (lateP N s t).out) (last l (at' (lateP N s t).out l.to)).1 hlm.fr0 (by rw [hlo, hst]; exact hlm.fr1) hlm.fr0
          rw [e, if_pos rfl] at e2
          omega
        · simp [better] at hb
          omega
    · cases hg
  refine ⟨hlo, W.start, closed, fun v v0 v1 hvs hv => ?_⟩
  obtain ⟨l, g1, g2, g3, x, g4, g5⟩ := W.supp v v0 v1 hvs hv
  have hlm := hok l g1
  refine ⟨eL l, List.mem_map.2 ⟨l, g1, rfl⟩, g2, g3, ?_⟩
  obtain ⟨m1, m2⟩ := last_mono hlm.ok g4 (by rw [g5])
  rw [g5] at m2
  have hg : (eL l).g (at' (lateP N s t).out (eL l).a) = some (last l (at' (lateP N s t).out l.to)).1 := by simp [eL, m1]
  obtain ⟨_, c2⟩ := closed (eL l) (List.mem_map.2 ⟨l, g1, rfl⟩) g3 _ hg
  have c2 : -(at' (lateP N s t).out l.fr) ≤ -(last l (at' (lateP N s t).out l.to)).1 := c2
  rw [g2] at c2
  rw [hg]
  simp only [Option.some.injEq]
  simp only at m2
  omega
/-- The program's Latest is the specification's. -/
theorem late_eq {N : Net} {s t : Int} (hC : checkE N = 0) (h0 : 0 ≤ s) (h1 : s < N.st) (t0 : 0 ≤ t) (t1 : t ≤ 1048576) : (lateP N s t).out = lateR N s t := by
  obtain ⟨W, _⟩ := lateP_spec hC h0 h1 t0 t1
  obtain ⟨s1, s2, _, hok⟩ := checkE_ok hC
  have hst : ((N.st.toNat : Nat) : Int) = N.st := by omega
  have hl : ∀ l ∈ N.links, LOk (N.st.toNat : Nat) l := fun l hl => by rw [hst]; exact hok l hl
  have F := lateP_fix hC h0 h1 t0 t1
  have hk : ∀ e ∈ N.links.map eL, EOk N.st.toNat kL e := fun e he => by
    obtain ⟨l, hl', rfl⟩ := List.mem_map.1 he
    exact eL_ok (hl l hl')
  rw [lateR, roundsL_eq hl]
  refine (fix_unique kL_inj hk h0 (by omega) t0 F (fun v hv => (W.ok.vals v hv).1) fun v hv => ?_).symm
  rw [← roundsL_eq hl] at hv
  exact (roundsL_vals hok _ _ (startR_vals t0 t1) v hv).1
end Nets

namespace Nets
def wayGo (ls : List Link) (w : List Hop) (s : Int) : Nat → Int → List Hop → List Hop
  | 0, _, acc => acc
  | f + 1, v, acc => if v = s then acc else match w[v.toNat]? with
    | none => acc
    | some h => match ls[h.link.toNat]? with
      | none => acc
      | some l => wayGo ls w s f l.fr (acc ++ [h])
def wayP (N : Net) (s to t : Int) : List Hop := (wayGo N.links (arrP N s t).way s ((at' (arrP N s t).out to).toNat + 1) to []).reverse
def wayE (N : Net) (s to t e : Int) : Int := if e ≠ 0 then e else if at' (arrP N s t).out to < 0 then 5 else 0
def wayH (N : Net) (s to t e : Int) : List Hop := if wayE N s to t e = 0 then wayP N s to t else []
theorem wayGo_step {ls : List Link} {w : List Hop} {s v : Int} {f : Nat} {acc : List Hop} {h : Hop} {l : Link} (hv : v ≠ s) (hw : w[v.toNat]? = some h) (hl : ls[h.link.toNat]? = some l) : wayGo ls w s (f + 1) v acc = wayGo ls w s f l.fr (acc ++ [h]) := by
  rw [wayGo, if_neg hv]; simp only [hw, hl]
theorem cwGo_way {N : Net} {s t : Int} {p : PS} (hok : ∀ l ∈ N.links, LOk (N.st.toNat : Nat) l) (W : WInv N.links N.st.toNat s t p) : ∀ (f : Nat) (v : Int) (acc : List Hop), 0 ≤ v → v < N.st.toNat → 0 ≤ at' p.out v → (at' p.out v).toNat < f →
    cwGo N.links s t (wayGo N.links p.way s f v acc).reverse = cwGo N.links v (at' p.out v) acc.reverse
  | 0, v, acc, _, _, _, h => by omega
  | f + 1, v, acc, h0, h1, h2, h3 => by
    by_cases hv : v = s
    · subst hv; rw [wayGo, if_pos rfl, W.start]
    · obtain ⟨i, l, d, g1, g2, g3, g4, g5, g6, g7⟩ := W.hop v h0 h1 hv h2
      have hlm := hok l (List.mem_of_getElem? g2)
      have hd := (right_spans hlm.ok).1
      rw [wayGo_step hv g1 (by simpa using g2), cwGo_way hok W f l.fr _ hlm.fr0 hlm.fr1 g5 (by omega), List.reverse_append]
      have hi := (List.getElem?_eq_some_iff.1 g2).1
      simp only [List.reverse_cons, List.reverse_nil, List.nil_append, List.cons_append, cwGo]
      rw [if_neg (by simp [within]; omega)]
      simp only [Int.toNat_natCast, g2]
      rw [if_neg (by simp; omega), if_neg (by simp [g7]), g3, g4]
theorem cntLt {a b : Int} (ha : 0 ≤ a) (hab : a < b) : ∀ {o : List Int}, a ∈ o → o.countP (fun u => decide (0 ≤ u) && decide (u < a)) < o.countP (fun u => decide (0 ≤ u) && decide (u < b))
  | [], h => by simp at h
  | x :: r, h => by
    have hle : r.countP (fun u => decide (0 ≤ u) && decide (u < a)) ≤ r.countP (fun u => decide (0 ≤ u) && decide (u < b)) := List.countP_mono_left fun u _ hu => by simp at hu ⊢; omega
    simp only [List.countP_cons]
    rcases List.mem_cons.1 h with rfl | h
    · simp only [Int.lt_irrefl, decide_false, Bool.and_false, Bool.false_eq_true, if_false]
      rw [if_pos (by simp; omega)]; omega
    · have := cntLt ha hab h
      by_cases hx : (decide (0 ≤ x) && decide (x < a)) = true
      · rw [if_pos hx, if_pos (by simp at hx ⊢; omega)]; omega
      · rw [if_neg hx]; omega
theorem wayGo_len {N : Net} {s t : Int} {p : PS} (hok : ∀ l ∈ N.links, LOk (N.st.toNat : Nat) l) (W : WInv N.links N.st.toNat s t p) : ∀ (f : Nat) (v : Int) (acc : List Hop), 0 ≤ v → v < N.st.toNat → 0 ≤ at' p.out v →
    (wayGo N.links p.way s f v acc).length ≤ acc.length + p.out.countP (fun u => decide (0 ≤ u) && decide (u < at' p.out v))
  | 0, v, acc, _, _, _ => by rw [wayGo]; omega
  | f + 1, v, acc, h0, h1, h2 => by
    by_cases hv : v = s
    · rw [wayGo, if_pos hv]; omega
    · obtain ⟨i, l, d, g1, g2, g3, g4, g5, g6, g7⟩ := W.hop v h0 h1 hv h2
      have hlm := hok l (List.mem_of_getElem? g2)
      have hd := (right_spans hlm.ok).1
      rw [wayGo_step hv g1 (by simpa using g2)]
      have := wayGo_len hok W f l.fr (acc ++ [⟨i, d⟩]) hlm.fr0 hlm.fr1 g5
      have hm : at' p.out l.fr ∈ p.out := List.mem_of_getElem? (at_get hlm.fr0 (by rw [W.ok.lo]; exact hlm.fr1))
      have := cntLt (b := at' p.out v) g5 (by omega) hm
      simp only [List.length_append, List.length_cons, List.length_nil] at *
      omega
theorem wayP_ok {N : Net} {s to t : Int} (hC : checkE N = 0) (h0 : 0 ≤ s) (h1 : s < N.st) (k0 : 0 ≤ to) (k1 : to < N.st) (t0 : 0 ≤ t) (t1 : t ≤ 1048576) (hr : 0 ≤ at' (arrP N s t).out to) :
    (wayP N s to t).length ≤ 10 ∧ cwGo N.links s t (wayP N s to t) = some (to, at' (arrP N s t).out to) := by
  obtain ⟨W, _⟩ := arrP_spec hC h0 h1 t0 t1
  obtain ⟨s1, s2, _, hok⟩ := checkE_ok hC
  have hst : ((N.st.toNat : Nat) : Int) = N.st := by omega
  have hl : ∀ l ∈ N.links, LOk (N.st.toNat : Nat) l := fun l hl => by rw [hst]; exact hok l hl
  refine ⟨?_, ?_⟩
  · have h1 := wayGo_len hl W ((at' (arrP N s t).out to).toNat + 1) to [] k0 (by omega) hr
    have h2 := List.countP_le_length (p := fun u => decide (0 ≤ u) && decide (u < at' (arrP N s t).out to)) (l := (arrP N s t).out)
    have h3 := W.ok.lo
    simp only [List.length_nil] at h1
    rw [wayP, List.length_reverse]; omega
  · rw [wayP, cwGo_way hl W _ _ _ k0 (by omega) hr (by omega), List.reverse_nil, cwGo]
end Nets

namespace Nets
def shutL (x : Link) : Link := { x with nl := true, opn := [] }
def shutN (N : Net) (k : Nat) : Net := ⟨N.st, false, match N.links[k]? with | some x => N.links.set k (shutL x) | none => N.links⟩
def needAt (N : Net) (s to t : Int) (k : Nat) : Bool := decide (at' (arrP (shutN N k) s t).out to ≠ at' (arrP N s t).out to)
def needTo (N : Net) (s to t : Int) (k : Nat) : List Int := ((List.range k).filter (needAt N s to t)).map Int.ofNat
def needH (N : Net) (s to t e : Int) : List Int := if wayE N s to t e = 0 then needTo N s to t N.links.length else []
theorem needTo_succ (N : Net) (s to t : Int) (k : Nat) : needTo N s to t (k + 1) = if needAt N s to t k = true then needTo N s to t k ++ [(k : Int)] else needTo N s to t k := by
  unfold needTo
  rw [List.range_succ, List.filter_append]
  cases h : needAt N s to t k <;> simp [h]
theorem needTo_len (N : Net) (s to t : Int) : ∀ k, (needTo N s to t k).length ≤ k
  | 0 => by simp [needTo]
  | k + 1 => by
    have := needTo_len N s to t k
    rw [needTo_succ]; split
    · simp; omega
    · omega
theorem linksE_iff {st : Int} : ∀ {ls : List Link}, linksE st ls = 0 ↔ ∀ l ∈ ls, linkIn st l = 0
  | [] => by simp [linksE]
  | x :: r => by
    simp only [linksE, List.mem_cons, forall_eq_or_imp, ← linksE_iff (ls := r)]
    split
    · rename_i h; constructor
      · intro e; exact absurd e h
      · intro e; exact absurd e.1 h
    · rename_i h; simp only [ne_eq, Decidable.not_not] at h; simp [h]
theorem shutN_links {N : Net} {k : Nat} {x : Link} (h : N.links[k]? = some x) : (shutN N k).links = N.links.set k (shutL x) := by simp [shutN, h]
theorem shutN_ok {N : Net} {k : Nat} {x : Link} (h : N.links[k]? = some x) (hC : checkE N = 0) : checkE (shutN N k) = 0 := by
  unfold checkE at hC ⊢
  rw [shutN_links h]
  show (if within N.st 1 10 = true then _ else _) = _
  split at hC
  · rename_i hw
    rw [if_pos hw]
    split at hC
    · cases hC
    · rename_i hl
      rw [if_neg (by simpa using hl)]
      have hC := linksE_iff.1 hC
      refine linksE_iff.2 fun l hl => ?_
      rcases List.mem_or_eq_of_mem_set hl with h' | rfl
      · exact hC l h'
      · have := hC x (List.mem_of_getElem? h)
        unfold linkIn at this ⊢
        show (if (!within x.fr 0 (N.st - 1) || !within x.to 0 (N.st - 1) || x.fr == x.to) = true then _ else _) = _
        split at this
        · cases this
        · rename_i h2
          rw [if_neg h2]
          unfold linkE at this ⊢
          show (if within x.delay 1 1440 = true then _ else _) = _
          split at this
          · rename_i h3; rw [if_pos h3]; simp [shutL, spansE]
          · cases this
  · cases hC
end Nets
