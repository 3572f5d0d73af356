/- What a list of orders reads as in the abstract machine. Conditions: as each theorem says. -/
import Derived.Test.YtbpbgiedemkciaaGreatDoorDr
import Derived.Test.YtbpbgiedemkciaaGreatDoorEc
namespace Go.AM
open Go.RowKit Go.ChangeShapes Go.WideShapes Go.Proofs Go.Deep Cw
set_option maxRecDepth 10000
section
variable {H : Type} {enc : TypeId × Value → H} {W : World} {base : Nat} {sp : Nat → Bool} {hd : Bool}
theorem okWide_array {P : Program} {w : World} {r : Reach} {b t n e : Nat} {v : Value} (ht : P.underlying t = some (.array n e)) (h : Value.okWide P w r b t v) : ∃ cs, v = .agg cs ∧ cs.size = P.cellsOf t := by
  simp only [Value.okWide, ht] at h
  obtain ⟨cs, h1, h2, _⟩ := h
  exact ⟨cs, h1, h2⟩
theorem rd_facts {r : Reach} {b0 : Nat} {v : Value} {d : DataW H} {p : List MemPlace} (hv : Value.okWide Tryz.prog W r b0 25 v) (h : DataW.Trod enc Tryz.prog W base sp hd 25 v d p) : ∃ fs : Fs, Rv (G0 W) (encF fs) v := by
  obtain ⟨cs, rfl, hsz⟩ := okWide_array Tryz.underlying25 hv
  have h25 : Tryz.prog.cellsOf 25 = 5 := by kernel_rfl
  have h3 : Tryz.prog.cellsOf 3 = 1 := by kernel_rfl
  rw [h25] at hsz
  obtain ⟨l⟩ := cs
  obtain ⟨c0, c1, c2, c3, c4, rfl⟩ : ∃ c0 c1 c2 c3 c4, l = [c0, c1, c2, c3, c4] := by
    match l, hsz with
    | [c0, c1, c2, c3, c4], _ => exact ⟨c0, c1, c2, c3, c4, rfl⟩
  obtain ⟨fuel, hf⟩ := h
  obtain ⟨xs, m, _, _, _, hx, hi⟩ := DataW.trod_array Tryz.underlying25 hf
  have f0 := hi 0 (by omega)
  have f1 := hi 1 (by omega)
  have f2 := hi 2 (by omega)
  have f3 := hi 3 (by omega)
  have f4 := hi 4 (by omega)
  simp only [Value.cells, h3, Nat.zero_mul, Nat.one_mul, Nat.reduceMul, List.drop_zero, List.take_succ_cons, List.take_zero, List.drop_succ_cons] at f0 f1 f2 f3 f4
  rw [List.getElem?_eq_getElem (by omega)] at f0 f1 f2 f3 f4
  obtain ⟨a, rfl⟩ := rd_int Tryz.underlying3 f0
  obtain ⟨b, rfl⟩ := rd_int Tryz.underlying3 f1
  obtain ⟨c, rfl⟩ := rd_int Tryz.underlying3 f2
  obtain ⟨d, rfl⟩ := rd_int Tryz.underlying3 f3
  obtain ⟨e, rfl⟩ := rd_int Tryz.underlying3 f4
  exact ⟨⟨a, b, c, d, e⟩, by simp [encF, Rv, RvL, Value.oneCell']⟩
end
end Go.AM

namespace Go.AM
open Go.RowKit Go.ChangeShapes Go.WideShapes Go.Proofs Go.Deep Cw
set_option maxRecDepth 10000
section
variable {H : Type} {enc : TypeId × Value → H} {W : World} {base : Nat} {sp : Nat → Bool} {hd : Bool}
theorem elem_order {n : Nat} {cs : List Value} {y : DataW H × List MemPlace} (hc : cs.length = 7) (h : DataW.trod enc Tryz.prog W base sp hd n 60 cs = some y) : ∃ x : Ordr, wf x.cond ∧ ∃ u, Rv (G0 W) (encO x) u ∧ u.cells = cs.toArray := by
  obtain ⟨xs, n', en, _, _, hx, hf⟩ := DataW.trod_struct Tryz.underlying60 h
  obtain ⟨c0, c1, c2, c3, c4, c5, c6, rfl⟩ : ∃ c0 c1 c2 c3 c4 c5 c6, cs = [c0, c1, c2, c3, c4, c5, c6] := by
    match cs, hc with
    | [c0, c1, c2, c3, c4, c5, c6], _ => exact ⟨c0, c1, c2, c3, c4, c5, c6, rfl⟩
  have h3 : Tryz.prog.cellsOf 3 = 1 := by kernel_rfl
  have h9 : Tryz.prog.cellsOf 9 = 1 := by kernel_rfl
  have h24 : Tryz.prog.cellsOf 24 = 5 := by kernel_rfl
  have f0 : DataW.trod enc Tryz.prog W base sp hd n' 9 (List.take (Tryz.prog.cellsOf 9) (List.drop 0 [c0, c1, c2, c3, c4, c5, c6])) = xs[0]? := hf 0 _ rfl
  have f1 : DataW.trod enc Tryz.prog W base sp hd n' 3 (List.take (Tryz.prog.cellsOf 3) (List.drop 1 [c0, c1, c2, c3, c4, c5, c6])) = xs[1]? := hf 1 _ rfl
  have f2 : DataW.trod enc Tryz.prog W base sp hd n' 24 (List.take (Tryz.prog.cellsOf 24) (List.drop 2 [c0, c1, c2, c3, c4, c5, c6])) = xs[2]? := hf 2 _ rfl
  simp only [h3, h9, h24, List.drop_zero, List.take_succ_cons, List.take_zero, List.drop_succ_cons] at f0 f1 f2
  obtain ⟨x0, x1, x2, rfl⟩ : ∃ x0 x1 x2, xs = [x0, x1, x2] := by
    match xs, hx with
    | [c0, c1, c2], _ => exact ⟨c0, c1, c2, rfl⟩
  obtain ⟨s, e0, _⟩ := DataW.trod_string Tryz.underlying9 f0
  simp at e0; subst e0
  obtain ⟨b, rfl⟩ := rd_int Tryz.underlying3 f1
  obtain ⟨c, hw, u, h1, h2⟩ := elem_cond n' n' _ _ (Nat.le_refl _) (by simp) f2
  refine ⟨⟨s, b, c⟩, hw, .agg #[.string s, .int .i64 b, c2, c3, c4, c5, c6], ?_, rfl⟩
  cases c
  simp only [encC] at h1
  simp only [encO]
  rw [Rv] at h1 ⊢
  obtain ⟨vs, e1, h3⟩ := h1
  subst e1
  have e2 : vs = #[c2, c3, c4, c5, c6] := by simpa [Value.cells] using h2
  subst e2
  exact ⟨_, rfl, _, _, rfl, by simp [Rv, Value.oneCell'], _, _, rfl, by simp [Rv, Value.oneCell'], h3⟩
theorem rd_orders {r : Reach} {b0 : Nat} {v : Value} {d : DataW H} {p : List MemPlace} (hv : Value.okWide Tryz.prog W r b0 42 v) (h : DataW.Trod enc Tryz.prog W base sp hd 42 v d p) : ∃ (nl : Bool) (l : List Ordr), (l = [] ∨ nl = false ∧ 7 = 7) ∧ wfO l ∧ l.length ≤ 9223372036854775807 ∧ Rv (G0 W) (.fslc nl false 7 (l.map encO)) v := by
  obtain ⟨fuel, hf⟩ := h
  obtain ⟨a0, n0, c0, rfl⟩ := okWide_slice Tryz.underlying42 hv
  obtain ⟨nl, l, hl, hnl, hlen⟩ := rd_slice (fun x : { x : Ordr // wf x.cond } => encO x.1) Tryz.underlying42 (by kernel_rfl : Tryz.prog.cellsOf 60 = 7) (fun x => cellsO_sc x.1)
    (fun cs' n2 y' hlt hc' h' => by
      obtain ⟨x, hw, u, h1, h2⟩ := elem_order hc' h'
      exact ⟨⟨x, hw⟩, u, h1, h2⟩) hf
  refine ⟨nl, l.map (·.1), ?_, fun o ho => ?_, ?_, ?_⟩
  · cases nl with
    | true => left; rw [hnl rfl]; rfl
    | false => right; exact ⟨rfl, rfl⟩
  · obtain ⟨z, _, rfl⟩ := List.mem_map.1 ho
    exact z.2
  · rw [List.length_map]; exact Nat.le_trans hlen (by decide)
  · rw [List.map_map]; exact hl
end
end Go.AM
