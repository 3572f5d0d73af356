/- What the rows' arguments read as in the abstract machine, and the step from an abstract call to a row. Conditions: as each theorem says. -/
import Derived.Test.YtjbphojecieloaaRows
import Derived.ProofKit
import Derived.Lib.SmallJoins
import Derived.Deep.Slices
import Derived.Deep.Fields
import Derived.Test.YtjbphojecieloaaWf
namespace Go.AM
open Go.RowKit Go.ChangeShapes Go.WideShapes Go.Proofs Go.Deep Wl
set_option maxRecDepth 10000
/-- a ghost that knows all cells of a world, and owns nothing -/
def G0 (W : World) : Gh := ⟨fun _ => none, fun a => W.cell? a, [], [], []⟩
theorem inv0 (W : World) : Inv W (G0 W) (fun _ => none) W :=
  ⟨Below.refl _ _, fun _ _ h => h, fun _ _ h => by simp at h, fun _ _ _ _ _ _ _ h => by simp at h, fun _ _ _ _ _ h => by simp at h, ⟨fun b hb => by simp [G0] at hb, fun b hb => by simp [G0] at hb, List.nodup_nil, fun b hb => by simp [G0] at hb⟩⟩
theorem run_true {f : FuncId} {args : List AV} (hc : APure Try.prog f args (bv true)) (W : World) (vs : Array Value) (hv : RvL (G0 W) args vs.toList) :
    Calls Try.prog f vs W fun e W' => e = .returned (.bool true) ∧ Below W.heap.size W W' := by
  have h := (hc (fun _ => none) 0).2 W (G0 W) W vs.toList (inv0 W) (fun _ _ => rfl) hv
  rw [Array.toArray_toList] at h
  refine h.mono fun e W' ⟨G', r, x, h', n', e1, _, I, _, _, hr, hx, _⟩ => ?_
  subst hx
  simp only [Rv] at hr
  exact ⟨by rw [e1, hr.1], I.below⟩
theorem build {α : Type} {R : Nat → α → Prop} : ∀ (n : Nat), (∀ i, i < n → ∃ x, R i x) → ∃ l : List α, l.length = n ∧ ∀ i x, l[i]? = some x → R i x
  | 0, _ => ⟨[], rfl, by simp⟩
  | n + 1, h => by
    obtain ⟨l, h1, h2⟩ := build n fun i hi => h i (by omega)
    obtain ⟨x, hx⟩ := h n (by omega)
    refine ⟨l ++ [x], by simp [h1], fun i y hy => ?_⟩
    rcases Nat.lt_or_ge i n with hi | hi
    · rw [List.getElem?_append_left (by omega)] at hy; exact h2 i y hy
    · rw [List.getElem?_append_right (by omega), h1] at hy
      have : i - n = 0 := by
        rcases Nat.eq_zero_or_pos (i - n) with h' | h'
        · exact h'
        · rw [List.getElem?_eq_none (by simp; omega)] at hy; cases hy
      rw [this] at hy
      simp at hy; subst hy
      rw [show i = n by omega]; exact hx
theorem rvE_build {α : Type} {G : Gh} {a : Addr} {s : Nat} (f : α → AV) : ∀ (l : List α) (k : Nat), (∀ i x, l[i]? = some x → (cellsOf (f x)).all AV.scalar = true ∧ ∃ v, Rv G (f x) v ∧ v.cells.size = s ∧ ImmAt G (a.add ((k + i) * s)) v.cells.toList) → RvE G a s (k * s) (l.map f)
  | [], _, _ => by simp [RvE]
  | x :: r, k, h => by
    simp only [List.map_cons, RvE]
    refine ⟨by simpa using h 0 x rfl, ?_⟩
    rw [← Nat.succ_mul]
    exact rvE_build f r (k + 1) fun i y hy => by
      have := h (i + 1) y (by simpa using hy)
      rwa [show k + (i + 1) = k + 1 + i by omega] at this
section
variable {H : Type} {enc : TypeId × Value → H} {W : World} {base : Nat} {sp : Nat → Bool} {hd : Bool}
theorem rd_int {t : TypeId} {k : IntKind} {n : Nat} {v : Value} {y : DataW H × List MemPlace} (ht : Try.prog.underlying t = some (.int k)) (h : DataW.trod enc Try.prog W base sp hd n t [v] = some y) : ∃ m, v = .int k m := by
  obtain ⟨m, e, _⟩ := DataW.trod_int ht h
  simp at e; exact ⟨m, e⟩
theorem rd_slice {α : Type} {t e : TypeId} {s n : Nat} {v : Value} {y : DataW H × List MemPlace} (f : α → AV) (ht : Try.prog.underlying t = some (.slice e)) (hs : Try.prog.cellsOf e = s) (hsc : ∀ x, (cellsOf (f x)).all AV.scalar = true)
    (elem : ∀ cs n' y', cs.length = s → DataW.trod enc Try.prog W base sp hd n' e cs = some y' → ∃ x u, Rv (G0 W) (f x) u ∧ u.cells = cs.toArray)
    (h : DataW.trod enc Try.prog W base sp hd n t [v] = some y) : ∃ nl l, Rv (G0 W) (.fslc nl false s (l.map f)) v ∧ (nl = true → l = []) ∧ l.length ≤ maxLen := by
  rcases open_slice ht h with ⟨e1, _⟩ | ⟨a, len, cap, m, n2, D, Pl, hcs, hb, hl, hm, hmm, hx, hi⟩
  · simp at e1; subst e1
    exact ⟨true, [], by simp [Rv], by simp, by simp⟩
  · simp at hcs; subst hcs
    have hlm : len ≤ m := by rw [hmm]; split <;> omega
    rw [hs] at hi
    have hel : ∀ i, i < len → ∃ x : α, ∃ u, Rv (G0 W) (f x) u ∧ u.cells.size = s ∧ ImmAt (G0 W) (a.add (i * s)) u.cells.toList := fun i hil => by
      obtain ⟨cs, hc, ht'⟩ := hi i (by omega)
      obtain ⟨_, hcl, hat⟩ := World.cells?_some hc
      obtain ⟨x, u, h1, h2⟩ := elem cs _ _ hcl ht'
      refine ⟨x, u, h1, by rw [h2]; simpa using hcl, fun j w hj => ?_⟩
      rw [h2] at hj
      have hjl : j < s := by
        have := (List.getElem?_eq_some_iff.1 hj).1
        simp at this; omega
      have := hat j hjl
      show W.cell? _ = _
      rw [this]; exact hj
    obtain ⟨l, hl1, hl2⟩ := build len hel
    refine ⟨false, l, ?_, by simp, by omega⟩
    simp only [Rv]
    refine ⟨some a, cap, by simp [hl1], by simpa [hl1] using hl, by simp, by simp, fun _ => ⟨a, rfl, ?_⟩⟩
    have := rvE_build (G := G0 W) (a := a) (s := s) f l 0 fun i x hx => ⟨hsc x, by simpa using hl2 i x hx⟩
    simpa using this
theorem elem_int (cs : List Value) (n : Nat) (y : DataW H × List MemPlace) (hc : cs.length = 1) (h : DataW.trod enc Try.prog W base sp hd n 3 cs = some y) : ∃ x u, Rv (G0 W) (iv .i64 x) u ∧ u.cells = cs.toArray := by
  obtain ⟨m, e, _⟩ := DataW.trod_int Try.underlying3 h
  subst e
  exact ⟨m, .int .i64 m, by simp [Rv, Value.oneCell'], rfl⟩
theorem rd_str {n : Nat} {v : Value} {y : DataW H × List MemPlace} (h : DataW.trod enc Try.prog W base sp hd n 9 [v] = some y) : ∃ s, v = .string s := by
  obtain ⟨s, e, _⟩ := DataW.trod_string Try.underlying9 h
  simp at e; exact ⟨s, e⟩
theorem elem_step (cs : List Value) (n : Nat) (y : DataW H × List MemPlace) (hc : cs.length = 5) (h : DataW.trod enc Try.prog W base sp hd n 30 cs = some y) : ∃ x u, Rv (G0 W) (encStep x) u ∧ u.cells = cs.toArray := by
  obtain ⟨xs, n', _, _, _, hx, hf⟩ := DataW.trod_struct Try.underlying30 h
  obtain ⟨c0, c1, c2, c3, c4, rfl⟩ : ∃ c0 c1 c2 c3 c4, cs = [c0, c1, c2, c3, c4] := by
    match cs, hc with
    | [c0, c1, c2, c3, c4], _ => exact ⟨c0, c1, c2, c3, c4, rfl⟩
  have h3 : Try.prog.cellsOf 3 = 1 := by kernel_rfl
  have h9 : Try.prog.cellsOf 9 = 1 := by kernel_rfl
  have f0 : DataW.trod enc Try.prog W base sp hd n' 3 (List.take (Try.prog.cellsOf 3) (List.drop 0 [c0, c1, c2, c3, c4])) = xs[0]? := hf 0 _ rfl
  have f1 : DataW.trod enc Try.prog W base sp hd n' 3 (List.take (Try.prog.cellsOf 3) (List.drop 1 [c0, c1, c2, c3, c4])) = xs[1]? := hf 1 _ rfl
  have f2 : DataW.trod enc Try.prog W base sp hd n' 3 (List.take (Try.prog.cellsOf 3) (List.drop 2 [c0, c1, c2, c3, c4])) = xs[2]? := hf 2 _ rfl
  have f3 : DataW.trod enc Try.prog W base sp hd n' 3 (List.take (Try.prog.cellsOf 3) (List.drop 3 [c0, c1, c2, c3, c4])) = xs[3]? := hf 3 _ rfl
  have f4 : DataW.trod enc Try.prog W base sp hd n' 9 (List.take (Try.prog.cellsOf 9) (List.drop 4 [c0, c1, c2, c3, c4])) = xs[4]? := hf 4 _ rfl
  simp only [h3, h9, List.drop_zero, List.take_succ_cons, List.take_zero, List.drop_succ_cons] at f0 f1 f2 f3 f4
  obtain ⟨x0, x1, x2, x3, x4, rfl⟩ : ∃ x0 x1 x2 x3 x4, xs = [x0, x1, x2, x3, x4] := by
    match xs, hx with
    | [c0, c1, c2, c3, c4], _ => exact ⟨c0, c1, c2, c3, c4, rfl⟩
  obtain ⟨a, rfl⟩ := rd_int Try.underlying3 f0
  obtain ⟨b, rfl⟩ := rd_int Try.underlying3 f1
  obtain ⟨c, rfl⟩ := rd_int Try.underlying3 f2
  obtain ⟨d, rfl⟩ := rd_int Try.underlying3 f3
  obtain ⟨t, rfl⟩ := rd_str f4
  exact ⟨⟨a, b, c, d, t⟩, .agg #[.int .i64 a, .int .i64 b, .int .i64 c, .int .i64 d, .string t], by simp [Rv, RvL, Value.oneCell'], rfl⟩
theorem rd_steps {r : Reach} {b0 : Nat} {v : Value} {d : DataW H} {p : List MemPlace} (hv : Value.okWide Try.prog W r b0 22 v) (h : DataW.Trod enc Try.prog W base sp hd 22 v d p) : ∃ nl l, Rv (G0 W) (.fslc nl false 5 (l.map encStep)) v ∧ (nl = true → l = []) ∧ l.length ≤ 9223372036854775807 := by
  obtain ⟨a, len, cap, rfl⟩ := okWide_slice Try.underlying22 hv
  obtain ⟨fuel, hf⟩ := h
  exact rd_slice encStep Try.underlying22 (by kernel_rfl : Try.prog.cellsOf 30 = 5) (fun x => by simp [cellsOf, AV.scalar]) elem_step hf
theorem elem_u8 (cs : List Value) (n : Nat) (y : DataW H × List MemPlace) (hc : cs.length = 1) (h : DataW.trod enc Try.prog W base sp hd n 5 cs = some y) : ∃ x u, Rv (G0 W) (iv .u8 x) u ∧ u.cells = cs.toArray := by
  obtain ⟨m, e, _⟩ := DataW.trod_int Try.underlying5 h
  subst e
  exact ⟨m, .int .u8 m, by simp [Rv, Value.oneCell'], rfl⟩
theorem rd_u8 {r : Reach} {b0 : Nat} {v : Value} {d : DataW H} {p : List MemPlace} (hv : Value.okWide Try.prog W r b0 5 v) (h : DataW.Trod enc Try.prog W base sp hd 5 v d p) : ∃ m, Rv (G0 W) (iv .u8 m) v ∧ 0 ≤ m ∧ m < 256 := by
  obtain ⟨m, rfl, _, _, hw⟩ := open_int Try.underlying5 hv h
  refine ⟨m, by simp [Rv, Value.oneCell'], ?_⟩
  have e1 : IntKind.u8.min = 0 := by decide
  have e2 : IntKind.u8.max = 255 := by decide
  simp [Lit.wf, e1, e2] at hw
  omega
theorem rd_num {t : TypeId} {k : IntKind} {r : Reach} {b0 : Nat} {v : Value} {d : DataW H} {p : List MemPlace} (ht : Try.prog.underlying t = some (.int k)) (hv : Value.okWide Try.prog W r b0 t v) (h : DataW.Trod enc Try.prog W base sp hd t v d p) : ∃ m, Rv (G0 W) (iv k m) v := by
  obtain ⟨m, rfl, _⟩ := open_int ht hv h
  exact ⟨m, by simp [Rv, Value.oneCell']⟩
theorem elem_byte (cs : List Value) (n : Nat) (y : DataW H × List MemPlace) (hc : cs.length = 1) (h : DataW.trod enc Try.prog W base sp hd n 5 cs = some y) : ∃ x : { x : Int // 0 ≤ x ∧ x < 256 }, ∃ u, Rv (G0 W) (iv .u8 x.1) u ∧ u.cells = cs.toArray := by
  obtain ⟨m, e, hw⟩ := DataW.trod_int Try.underlying5 h
  subst e
  have e1 : IntKind.u8.min = 0 := by decide
  have e2 : IntKind.u8.max = 255 := by decide
  have hb : 0 ≤ m ∧ m < 256 := by
    simp [Lit.wf, e1, e2] at hw
    omega
  exact ⟨⟨m, hb⟩, .int .u8 m, by simp [Rv, Value.oneCell'], rfl⟩
theorem rd_bytes {r : Reach} {b0 : Nat} {v : Value} {d : DataW H} {p : List MemPlace} (hv : Value.okWide Try.prog W r b0 51 v) (h : DataW.Trod enc Try.prog W base sp hd 51 v d p) : ∃ nl l, Rv (G0 W) (.fslc nl false 1 (l.map (iv .u8))) v ∧ (nl = true → l = []) ∧ l.length ≤ 9223372036854775807 ∧ ∀ x ∈ l, 0 ≤ x ∧ x < 256 := by
  obtain ⟨a, len, cap, rfl⟩ := okWide_slice Try.underlying51 hv
  obtain ⟨fuel, hf⟩ := h
  obtain ⟨nl, l, h1, h2, h3⟩ := rd_slice (fun x : { x : Int // 0 ≤ x ∧ x < 256 } => iv .u8 x.1) Try.underlying51 (by kernel_rfl : Try.prog.cellsOf 5 = 1) (fun x => by simp [cellsOf, AV.scalar]) elem_byte hf
  refine ⟨nl, l.map (·.1), by rw [List.map_map]; exact h1, fun e => by rw [h2 e]; rfl, by rw [List.length_map]; exact h3, fun x hx => ?_⟩
  obtain ⟨y, _, rfl⟩ := List.mem_map.1 hx
  exact y.2
/-- the arguments read behind the call as they read before -/
theorem trodAll_below {W W' : World} (hb : Below W.heap.size W W') : ∀ {ts : List TypeId} {vs : List Value} {ds : List (DataW H)} {ps : List MemPlace}, (∀ t ∈ ts, Try.prog.readableRec t = true ∧ t < Try.prog.types.size) → (∀ x ∈ ps, x.block < W.heap.size) →
    DataW.TrodAll enc Try.prog W 0 (fun _ => true) true ts vs ds ps → DataW.TrodAll enc Try.prog W' 0 (fun b => decide (b < W.heap.size)) true ts vs ds ps
  | [], [], [], _, _, _, h => h
  | t :: ts, v :: vs, d :: ds, ps, ht, hp, ⟨p, q, h1, h2, e⟩ => by
    subst e
    have hl : laidOutB Try.prog = true := by kernel_rfl
    exact ⟨p, q, Below.trod hl (ht t (by simp)).1 (ht t (by simp)).2 h1 hb fun x hx => hp x (by simp [hx]), trodAll_below hb (fun t' h' => ht t' (by simp [h'])) (fun x hx => hp x (by simp [hx])) h2, rfl⟩
end
end Go.AM
