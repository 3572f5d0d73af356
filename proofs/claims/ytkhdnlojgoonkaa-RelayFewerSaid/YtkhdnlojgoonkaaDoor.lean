/- RelayTimes over the abstract machine, and the step from an abstract call to a row. Conditions: as each theorem says. -/
import Derived.Test.YtkhdnlojgoonkaaRows
import Derived.ProofKit
import Derived.Lib.SmallJoins
import Derived.Deep.Slices
import Derived.Deep.Fields
import Derived.Test.YtkhdnlojgoonkaaWd
namespace Go.AM
open Go.Proofs Nets
set_option maxRecDepth 10000
set_option maxHeartbeats 4000000
theorem relayTimes_spec (N : Net) (s t : Int) : APure Try.prog 4 [encNet N, iv .i64 s, iv .i64 t] (bv true) := by
  intro h n
  refine ACalls.pure (ACalls.entry (by kernel_rfl) fun hb _ => calls_of Try.func4 rfl (by kernel_rfl) (by simp [Try.ntmps4]) ?_)
  have c18 := earliest_spec N s t
  have c19 := earliest_ref N s t
  have c20 := latest_spec N s t
  have c21 := latest_ref N s t
  by_cases hE : askedE N t [s] = 0
  · obtain ⟨hC, hs, ht1, ht2⟩ := asked_zero hE
    obtain ⟨hs1, hs2⟩ := hs s (by simp)
    obtain ⟨s1, s2, hll, hok⟩ := checkE_ok hC
    have hlo := (arrP_spec hC hs1 hs2 ht1 ht2).1.ok.lo
    have hl2 := (lateP_spec hC hs1 hs2 ht1 ht2).1.ok.lo
    rw [hE, eInts_zero] at c18 c19 c20 c21
    rw [← arr_eq hC hs1 hs2 ht1 ht2] at c19
    rw [← late_eq hC hs1 hs2 ht1 ht2] at c21
    generalize (arrP N s t).out = A at *
    generalize (lateP N s t).out = B at *
    have c22a := sameInts_spec false false false false 1 1 A A (by omega) (by simp) (by simp)
    have c22b := sameInts_spec false false false false 1 1 B B (by omega) (by simp) (by simp)
    rw [decide_eq_true rfl] at c22a c22b
    replace hok : Hide _ := hok
    clear hs
    repeat' (first
      | (refine ac_seq_h fun K hK => ?_)
      | (refine ac_region_h fun K hK => ?_; simp (disch := omega) [go_sem, *, upd_ne, Try.ntmps4 ])
      | (refine ac_draw_h mixed (by kernel_rfl) fun K hK => ?_; simp (disch := omega) [go_sem, *, wrap64_id, upd_ne, mk3_true, flatten_replicate_one, stepK_if, ilt_true, ilt_false, ile_true, ile_false, Try.ntmps4 ])
      | (apply Hide.out hK; clear hK K; try with_reducible dsimp only [thenA])
      | (apply Hide.out ht; clear ht hf Kt Kf)
      | (apply Hide.out hf; clear ht hf Kt Kf)
      | (clear hK K; apply Hide.out hK; clear hK K; try with_reducible dsimp only [thenA])
      | (clear hK K; clear hK K; apply Hide.out hK; clear hK K; try with_reducible dsimp only [thenA])
      | (with_reducible refine APure.call (few_spec _) ?_; try simp (disch := omega) [go_sem, * ])
      | (with_reducible refine APure.call (nets_spec) ?_; try simp (disch := omega) [go_sem, *, upd_ne ])
      | (with_reducible refine APure.call (c18) ?_; try simp (disch := omega) [go_sem, * ])
      | (with_reducible refine APure.call (c19) ?_; try simp (disch := omega) [go_sem, * ])
      | (with_reducible refine APure.call (c20) ?_; try simp (disch := omega) [go_sem, * ])
      | (with_reducible refine APure.call (c21) ?_; try simp (disch := omega) [go_sem, * ])
      | (with_reducible refine APure.call (c22a) ?_; try simp (disch := omega) [go_sem, *, upd_ne ])
      | (with_reducible refine APure.call (c22b) ?_; try simp (disch := omega) [go_sem, * ])
      | (refine ac_block ?_)
      | (refine ac_skip ?_; simp only [thenA])
      | (refine ac_exit ?_; simp only [thenA, blockA, if_true, if_false, Nat.reduceEqDiff])
      | (with_reducible show nextK _ _ _ _ _ _ _; simp (disch := omega) [go_sem, *, wrap64_id, upd_ne, mk3_true, flatten_replicate_one, stepK_if, ilt_true, ilt_false, ile_true, ile_false, Try.ntmps4 ])
      | (refine wantK_split (fun hc => ?_) (fun hc => ?_) <;> (try simp only [Bool.not_eq_true', Bool.not_eq_false', Bool.not_eq_eq_eq_not, Bool.not_true, Bool.not_false, decide_eq_true_eq, decide_eq_false_iff_not, Int.not_lt, Int.not_le] at hc) <;> (try (exfalso; omega)) <;> (try simp (disch := omega) [go_sem, *, wrap64_id, upd_ne, mk3_true, flatten_replicate_one, stepK_if, ilt_true, ilt_false, ile_true, ile_false, Try.ntmps4 ]))
      | (refine ac_cond_h fun Kt Kf ht hf => ?_; simp (disch := omega) [go_sem, * ]; try (refine ⟨fun hc => ?_, fun hc => ?_⟩ <;> try (exfalso; omega))))
    all_goals (refine ac_ret ?_; try dsimp only [thenA, blockA]; refine ⟨by simp, _, (by first | rfl | (simp (disch := omega) [go_sem, upd_ne] <;> rfl)), ?_⟩; refine ret_id ⟨fun k hk => (by first | rfl | (repeat rw [upd_ne _ _ _ _ (by omega)])), (by simp [go_sem, below]), (by simp [go_sem] <;> omega), by simp, by simp⟩)
  · rw [eInts, if_neg hE] at c18 c19 c20 c21
    generalize askedE N t [s] = E at *
    have c22 : APure Try.prog 22 [.fslc true true 0 [], .fslc true true 0 []] (bv true) := sameInts_spec true true true true 0 0 [] [] (by simp) (by simp) (by simp)
    repeat' (first
      | (refine ac_seq_h fun K hK => ?_)
      | (refine ac_region_h fun K hK => ?_; simp (disch := omega) [go_sem, *, upd_ne, Try.ntmps4 ])
      | (refine ac_draw_h mixed (by kernel_rfl) fun K hK => ?_; simp (disch := omega) [go_sem, *, wrap64_id, upd_ne, mk3_true, flatten_replicate_one, stepK_if, ilt_true, ilt_false, ile_true, ile_false, Try.ntmps4 ])
      | (apply Hide.out hK; clear hK K; try with_reducible dsimp only [thenA])
      | (apply Hide.out ht; clear ht hf Kt Kf)
      | (apply Hide.out hf; clear ht hf Kt Kf)
      | (clear hK K; apply Hide.out hK; clear hK K; try with_reducible dsimp only [thenA])
      | (clear hK K; clear hK K; apply Hide.out hK; clear hK K; try with_reducible dsimp only [thenA])
      | (with_reducible refine APure.call (few_spec _) ?_; try simp (disch := omega) [go_sem, * ])
      | (with_reducible refine APure.call (nets_spec) ?_; try simp (disch := omega) [go_sem, *, upd_ne ])
      | (with_reducible refine APure.call (c18) ?_; try simp (disch := omega) [go_sem, * ])
      | (with_reducible refine APure.call (c19) ?_; try simp (disch := omega) [go_sem, * ])
      | (with_reducible refine APure.call (c20) ?_; try simp (disch := omega) [go_sem, * ])
      | (with_reducible refine APure.call (c21) ?_; try simp (disch := omega) [go_sem, * ])
      | (with_reducible refine APure.call (c22) ?_; try simp (disch := omega) [go_sem, *, upd_ne ])
      | (refine ac_block ?_)
      | (refine ac_skip ?_; simp only [thenA])
      | (refine ac_exit ?_; simp only [thenA, blockA, if_true, if_false, Nat.reduceEqDiff])
      | (with_reducible show nextK _ _ _ _ _ _ _; simp (disch := omega) [go_sem, *, wrap64_id, upd_ne, mk3_true, flatten_replicate_one, stepK_if, ilt_true, ilt_false, ile_true, ile_false, Try.ntmps4 ])
      | (refine wantK_split (fun hc => ?_) (fun hc => ?_) <;> (try simp only [Bool.not_eq_true', Bool.not_eq_false', Bool.not_eq_eq_eq_not, Bool.not_true, Bool.not_false, decide_eq_true_eq, decide_eq_false_iff_not, Int.not_lt, Int.not_le] at hc) <;> (try (exfalso; omega)) <;> (try simp (disch := omega) [go_sem, *, wrap64_id, upd_ne, mk3_true, flatten_replicate_one, stepK_if, ilt_true, ilt_false, ile_true, ile_false, Try.ntmps4 ]))
      | (refine ac_cond_h fun Kt Kf ht hf => ?_; simp (disch := omega) [go_sem, * ]; try (refine ⟨fun hc => ?_, fun hc => ?_⟩ <;> try (exfalso; omega))))
    all_goals (refine ac_ret ?_; try dsimp only [thenA, blockA]; refine ⟨by simp, _, (by first | rfl | (simp (disch := omega) [go_sem, upd_ne] <;> rfl)), ?_⟩; refine ret_id ⟨fun k hk => (by first | rfl | (repeat rw [upd_ne _ _ _ _ (by omega)])), (by simp [go_sem, below]), (by simp [go_sem] <;> omega), by simp, by simp⟩)
end Go.AM

namespace Go.AM
open Go.RowKit Go.ChangeShapes Go.WideShapes Go.Proofs Go.Deep Nets
set_option maxRecDepth 10000
/-- a ghost that knows all cells of a world, and owns nothing -/
def G0 (W : World) : Gh := ⟨fun _ => none, fun a => W.cell? a, [], [], []⟩
theorem inv0 (W : World) : Inv W (G0 W) (fun _ => none) W :=
  ⟨Below.refl _ _, fun _ _ h => h, fun _ _ h => by simp at h, fun _ _ _ _ _ _ _ h => by simp at h, fun _ _ _ _ _ h => by simp at h, ⟨fun b hb => by simp [G0] at hb, fun b hb => by simp [G0] at hb, List.nodup_nil, fun b hb => by simp [G0] at hb⟩⟩
theorem run_true {f : FuncId} {args : List AV} (hc : APure Try.prog f args (bv true)) (W : World) (vs : Array Value) (hv : RvL (G0 W) args vs.toList) :
    Calls Try.prog f vs W fun e W' => e = .returned (.bool true) ∧ Below W.heap.size W W' := by
  have h := (hc (fun _ => none) 0).2 W (G0 W) W vs.toList (inv0 W) (fun _ _ => rfl) hv
  rw [Array.toArray_toList] at h
  refine h.mono fun e W' ⟨G', r, x, h', n', e1, _, I, _, _, hr, hx, _⟩ => ?_
  subst hx
  simp only [Rv] at hr
  exact ⟨by rw [e1, hr.1], I.below⟩
theorem build {α : Type} {R : Nat → α → Prop} : ∀ (n : Nat), (∀ i, i < n → ∃ x, R i x) → ∃ l : List α, l.length = n ∧ ∀ i x, l[i]? = some x → R i x
  | 0, _ => ⟨[], rfl, by simp⟩
  | n + 1, h => by
    obtain ⟨l, h1, h2⟩ := build n fun i hi => h i (by omega)
    obtain ⟨x, hx⟩ := h n (by omega)
    refine ⟨l ++ [x], by simp [h1], fun i y hy => ?_⟩
    rcases Nat.lt_or_ge i n with hi | hi
    · rw [List.getElem?_append_left (by omega)] at hy; exact h2 i y hy
    · rw [List.getElem?_append_right (by omega), h1] at hy
      have : i - n = 0 := by
        rcases Nat.eq_zero_or_pos (i - n) with h' | h'
        · exact h'
        · rw [List.getElem?_eq_none (by simp; omega)] at hy; cases hy
      rw [this] at hy
      simp at hy; subst hy
      rw [show i = n by omega]; exact hx
theorem rvE_build {α : Type} {G : Gh} {a : Addr} {s : Nat} (f : α → AV) : ∀ (l : List α) (k : Nat), (∀ i x, l[i]? = some x → (cellsOf (f x)).all AV.scalar = true ∧ ∃ v, Rv G (f x) v ∧ v.cells.size = s ∧ ImmAt G (a.add ((k + i) * s)) v.cells.toList) → RvE G a s (k * s) (l.map f)
  | [], _, _ => by simp [RvE]
  | x :: r, k, h => by
    simp only [List.map_cons, RvE]
    refine ⟨by simpa using h 0 x rfl, ?_⟩
    rw [← Nat.succ_mul]
    exact rvE_build f r (k + 1) fun i y hy => by
      have := h (i + 1) y (by simpa using hy)
      rwa [show k + (i + 1) = k + 1 + i by omega] at this
section
variable {H : Type} {enc : TypeId × Value → H} {W : World} {base : Nat} {sp : Nat → Bool} {hd : Bool}
theorem rd_int {t : TypeId} {k : IntKind} {n : Nat} {v : Value} {y : DataW H × List MemPlace} (ht : Try.prog.underlying t = some (.int k)) (h : DataW.trod enc Try.prog W base sp hd n t [v] = some y) : ∃ m, v = .int k m := by
  obtain ⟨m, e, _⟩ := DataW.trod_int ht h
  simp at e; exact ⟨m, e⟩
theorem rd_slice {α : Type} {t e : TypeId} {s n : Nat} {v : Value} {y : DataW H × List MemPlace} (f : α → AV) (ht : Try.prog.underlying t = some (.slice e)) (hs : Try.prog.cellsOf e = s) (hsc : ∀ x, (cellsOf (f x)).all AV.scalar = true)
    (elem : ∀ cs n' y', cs.length = s → DataW.trod enc Try.prog W base sp hd n' e cs = some y' → ∃ x u, Rv (G0 W) (f x) u ∧ u.cells = cs.toArray)
    (h : DataW.trod enc Try.prog W base sp hd n t [v] = some y) : ∃ nl l, Rv (G0 W) (.fslc nl false s (l.map f)) v ∧ (nl = true → l = []) ∧ l.length ≤ maxLen := by
  rcases open_slice ht h with ⟨e1, _⟩ | ⟨a, len, cap, m, n2, D, Pl, hcs, hb, hl, hm, hmm, hx, hi⟩
  · simp at e1; subst e1
    exact ⟨true, [], by simp [Rv], by simp, by simp⟩
  · simp at hcs; subst hcs
    have hlm : len ≤ m := by rw [hmm]; split <;> omega
    rw [hs] at hi
    have hel : ∀ i, i < len → ∃ x : α, ∃ u, Rv (G0 W) (f x) u ∧ u.cells.size = s ∧ ImmAt (G0 W) (a.add (i * s)) u.cells.toList := fun i hil => by
      obtain ⟨cs, hc, ht'⟩ := hi i (by omega)
      obtain ⟨_, hcl, hat⟩ := World.cells?_some hc
      obtain ⟨x, u, h1, h2⟩ := elem cs _ _ hcl ht'
      refine ⟨x, u, h1, by rw [h2]; simpa using hcl, fun j w hj => ?_⟩
      rw [h2] at hj
      have hjl : j < s := by
        have := (List.getElem?_eq_some_iff.1 hj).1
        simp at this; omega
      have := hat j hjl
      show W.cell? _ = _
      rw [this]; exact hj
    obtain ⟨l, hl1, hl2⟩ := build len hel
    refine ⟨false, l, ?_, by simp, by omega⟩
    simp only [Rv]
    refine ⟨some a, cap, by simp [hl1], by simpa [hl1] using hl, by simp, by simp, fun _ => ⟨a, rfl, ?_⟩⟩
    have := rvE_build (G := G0 W) (a := a) (s := s) f l 0 fun i x hx => ⟨hsc x, by simpa using hl2 i x hx⟩
    simpa using this
theorem elem_int (cs : List Value) (n : Nat) (y : DataW H × List MemPlace) (hc : cs.length = 1) (h : DataW.trod enc Try.prog W base sp hd n 3 cs = some y) : ∃ x u, Rv (G0 W) (iv .i64 x) u ∧ u.cells = cs.toArray := by
  obtain ⟨m, e, _⟩ := DataW.trod_int Try.underlying3 h
  subst e
  exact ⟨m, .int .i64 m, by simp [Rv, Value.oneCell'], rfl⟩
theorem elem_span (cs : List Value) (n : Nat) (y : DataW H × List MemPlace) (hc : cs.length = 2) (h : DataW.trod enc Try.prog W base sp hd n 54 cs = some y) : ∃ x u, Rv (G0 W) (encSpan x) u ∧ u.cells = cs.toArray := by
  obtain ⟨xs, n', _, _, _, hx, hf⟩ := DataW.trod_struct Try.underlying54 h
  obtain ⟨c0, c1, rfl⟩ : ∃ c0 c1, cs = [c0, c1] := by
    match cs, hc with
    | [c0, c1], _ => exact ⟨c0, c1, rfl⟩
  have h3 : Try.prog.cellsOf 3 = 1 := by kernel_rfl
  have f0 : DataW.trod enc Try.prog W base sp hd n' 3 (List.take (Try.prog.cellsOf 3) (List.drop 0 [c0, c1])) = xs[0]? := hf 0 _ rfl
  have f1 : DataW.trod enc Try.prog W base sp hd n' 3 (List.take (Try.prog.cellsOf 3) (List.drop 1 [c0, c1])) = xs[1]? := hf 1 _ rfl
  simp only [h3, List.drop_zero, List.take_succ_cons, List.take_zero, List.drop_succ_cons] at f0 f1
  obtain ⟨x0, x1, rfl⟩ : ∃ x0 x1, xs = [x0, x1] := by
    match xs, hx with
    | [c0, c1], _ => exact ⟨c0, c1, rfl⟩
  obtain ⟨a, rfl⟩ := rd_int Try.underlying3 f0
  obtain ⟨b, rfl⟩ := rd_int Try.underlying3 f1
  exact ⟨⟨a, b⟩, .agg #[.int .i64 a, .int .i64 b], by simp [Rv, RvL, Value.oneCell'], rfl⟩
theorem elem_hop (cs : List Value) (n : Nat) (y : DataW H × List MemPlace) (hc : cs.length = 2) (h : DataW.trod enc Try.prog W base sp hd n 80 cs = some y) : ∃ x u, Rv (G0 W) (encHop x) u ∧ u.cells = cs.toArray := by
  obtain ⟨xs, n', _, _, _, hx, hf⟩ := DataW.trod_struct Try.underlying80 h
  obtain ⟨c0, c1, rfl⟩ : ∃ c0 c1, cs = [c0, c1] := by
    match cs, hc with
    | [c0, c1], _ => exact ⟨c0, c1, rfl⟩
  have h3 : Try.prog.cellsOf 3 = 1 := by kernel_rfl
  have f0 : DataW.trod enc Try.prog W base sp hd n' 3 (List.take (Try.prog.cellsOf 3) (List.drop 0 [c0, c1])) = xs[0]? := hf 0 _ rfl
  have f1 : DataW.trod enc Try.prog W base sp hd n' 3 (List.take (Try.prog.cellsOf 3) (List.drop 1 [c0, c1])) = xs[1]? := hf 1 _ rfl
  simp only [h3, List.drop_zero, List.take_succ_cons, List.take_zero, List.drop_succ_cons] at f0 f1
  obtain ⟨x0, x1, rfl⟩ : ∃ x0 x1, xs = [x0, x1] := by
    match xs, hx with
    | [c0, c1], _ => exact ⟨c0, c1, rfl⟩
  obtain ⟨a, rfl⟩ := rd_int Try.underlying3 f0
  obtain ⟨b, rfl⟩ := rd_int Try.underlying3 f1
  exact ⟨⟨a, b⟩, .agg #[.int .i64 a, .int .i64 b], by simp [Rv, RvL, Value.oneCell'], rfl⟩
theorem elem_link' (cs : List Value) (n : Nat) (y : DataW H × List MemPlace) (hc : cs.length = 4) (h : DataW.trod enc Try.prog W base sp hd n 27 cs = some y) : ∃ x : Link, Rv (G0 W) (encLink x) (.agg cs.toArray) ∧ x.opn.length ≤ maxLen := by
  obtain ⟨xs, n', _, _, _, hx, hf⟩ := DataW.trod_struct Try.underlying27 h
  obtain ⟨c0, c1, c2, c3, rfl⟩ : ∃ c0 c1 c2 c3, cs = [c0, c1, c2, c3] := by
    match cs, hc with
    | [c0, c1, c2, c3], _ => exact ⟨c0, c1, c2, c3, rfl⟩
  have h3 : Try.prog.cellsOf 3 = 1 := by kernel_rfl
  have h25 : Try.prog.cellsOf 25 = 1 := by kernel_rfl
  have f0 : DataW.trod enc Try.prog W base sp hd n' 3 (List.take (Try.prog.cellsOf 3) (List.drop 0 [c0, c1, c2, c3])) = xs[0]? := hf 0 _ rfl
  have f1 : DataW.trod enc Try.prog W base sp hd n' 3 (List.take (Try.prog.cellsOf 3) (List.drop 1 [c0, c1, c2, c3])) = xs[1]? := hf 1 _ rfl
  have f2 : DataW.trod enc Try.prog W base sp hd n' 3 (List.take (Try.prog.cellsOf 3) (List.drop 2 [c0, c1, c2, c3])) = xs[2]? := hf 2 _ rfl
  have f3 : DataW.trod enc Try.prog W base sp hd n' 25 (List.take (Try.prog.cellsOf 25) (List.drop 3 [c0, c1, c2, c3])) = xs[3]? := hf 3 _ rfl
  simp only [h3, h25, List.drop_zero, List.take_succ_cons, List.take_zero, List.drop_succ_cons] at f0 f1 f2 f3
  obtain ⟨x0, x1, x2, x3, rfl⟩ : ∃ x0 x1 x2 x3, xs = [x0, x1, x2, x3] := by
    match xs, hx with
    | [c0, c1, c2, c3], _ => exact ⟨c0, c1, c2, c3, rfl⟩
  obtain ⟨a, rfl⟩ := rd_int Try.underlying3 f0
  obtain ⟨b, rfl⟩ := rd_int Try.underlying3 f1
  obtain ⟨c, rfl⟩ := rd_int Try.underlying3 f2
  obtain ⟨nl, l, hl, _, hlm⟩ := rd_slice encSpan Try.underlying25 (by kernel_rfl : Try.prog.cellsOf 54 = 2) (fun x => by simp [cellsOf, AV.scalar]) elem_span f3
  refine ⟨⟨a, b, c, nl, l⟩, ?_, hlm⟩
  rw [Rv]
  exact ⟨_, rfl, _, _, rfl, by simp [Rv, Value.oneCell'], _, _, rfl, by simp [Rv, Value.oneCell'], _, _, rfl, by simp [Rv, Value.oneCell'], _, _, rfl, hl, rfl⟩
theorem elem_link (cs : List Value) (n : Nat) (y : DataW H × List MemPlace) (hc : cs.length = 4) (h : DataW.trod enc Try.prog W base sp hd n 27 cs = some y) : ∃ x u, Rv (G0 W) (encLink x) u ∧ u.cells = cs.toArray :=
  let ⟨x, h1, _⟩ := elem_link' cs n y hc h; ⟨x, _, h1, rfl⟩
theorem rd_net {r : Reach} {b0 : Nat} {v : Value} {d : DataW H} {p : List MemPlace} (hv : Value.okWide Try.prog W r b0 24 v) (h : DataW.Trod enc Try.prog W base sp hd 24 v d p) : ∃ N, Rv (G0 W) (encNet N) v ∧ (N.nl = true → N.links = []) := by
  obtain ⟨cs, rfl, hsz⟩ := okWide_struct Try.underlying24 hv
  have h24 : Try.prog.cellsOf 24 = 2 := by kernel_rfl
  have h3 : Try.prog.cellsOf 3 = 1 := by kernel_rfl
  have h22 : Try.prog.cellsOf 22 = 1 := by kernel_rfl
  obtain ⟨l⟩ := cs
  obtain ⟨c0, c1, rfl⟩ : ∃ c0 c1, l = [c0, c1] := by
    rw [h24] at hsz
    match l, hsz with
    | [c0, c1], _ => exact ⟨c0, c1, rfl⟩
  obtain ⟨fuel, hf⟩ := h
  obtain ⟨xs, n', _, _, _, hx, hf⟩ := DataW.trod_struct Try.underlying24 hf
  have f0 : DataW.trod enc Try.prog W base sp hd n' 3 (List.take (Try.prog.cellsOf 3) (List.drop 0 [c0, c1])) = xs[0]? := hf 0 _ rfl
  have f1 : DataW.trod enc Try.prog W base sp hd n' 22 (List.take (Try.prog.cellsOf 22) (List.drop 1 [c0, c1])) = xs[1]? := hf 1 _ rfl
  simp only [h3, h22, List.drop_zero, List.take_succ_cons, List.take_zero, List.drop_succ_cons] at f0 f1
  obtain ⟨x0, x1, rfl⟩ : ∃ x0 x1, xs = [x0, x1] := by
    match xs, hx with
    | [c0, c1], _ => exact ⟨c0, c1, rfl⟩
  obtain ⟨a, rfl⟩ := rd_int Try.underlying3 f0
  obtain ⟨nl, l, hl, hnl, _⟩ := rd_slice encLink Try.underlying22 (by kernel_rfl : Try.prog.cellsOf 27 = 4) (fun x => by simp [cellsOf, AV.scalar]) elem_link f1
  refine ⟨⟨a, nl, l⟩, ?_, hnl⟩
  rw [Rv]
  exact ⟨_, rfl, _, _, rfl, by simp [Rv, Value.oneCell'], _, _, rfl, hl, rfl⟩
theorem rd_link {r : Reach} {b0 : Nat} {v : Value} {d : DataW H} {p : List MemPlace} (hv : Value.okWide Try.prog W r b0 27 v) (h : DataW.Trod enc Try.prog W base sp hd 27 v d p) : ∃ L : Link, Rv (G0 W) (encLink L) v ∧ L.opn.length ≤ maxLen := by
  obtain ⟨cs, rfl, hsz⟩ := okWide_struct Try.underlying27 hv
  have h27 : Try.prog.cellsOf 27 = 4 := by kernel_rfl
  rw [h27] at hsz
  obtain ⟨l⟩ := cs
  obtain ⟨fuel, hf⟩ := h
  exact elem_link' l fuel _ hsz hf
theorem rd_num {t : TypeId} {k : IntKind} {r : Reach} {b0 : Nat} {v : Value} {d : DataW H} {p : List MemPlace} (ht : Try.prog.underlying t = some (.int k)) (hv : Value.okWide Try.prog W r b0 t v) (h : DataW.Trod enc Try.prog W base sp hd t v d p) : ∃ m, Rv (G0 W) (iv k m) v := by
  obtain ⟨m, rfl, _⟩ := open_int ht hv h
  exact ⟨m, by simp [Rv, Value.oneCell']⟩
/-- the arguments read behind the call as they read before -/
theorem trodAll_below {W W' : World} (hb : Below W.heap.size W W') : ∀ {ts : List TypeId} {vs : List Value} {ds : List (DataW H)} {ps : List MemPlace}, (∀ t ∈ ts, Try.prog.readableRec t = true ∧ t < Try.prog.types.size) → (∀ x ∈ ps, x.block < W.heap.size) →
    DataW.TrodAll enc Try.prog W 0 (fun _ => true) true ts vs ds ps → DataW.TrodAll enc Try.prog W' 0 (fun b => decide (b < W.heap.size)) true ts vs ds ps
  | [], [], [], _, _, _, h => h
  | t :: ts, v :: vs, d :: ds, ps, ht, hp, ⟨p, q, h1, h2, e⟩ => by
    subst e
    have hl : laidOutB Try.prog = true := by kernel_rfl
    exact ⟨p, q, Below.trod hl (ht t (by simp)).1 (ht t (by simp)).2 h1 hb fun x hx => hp x (by simp [hx]), trodAll_below hb (fun t' h' => ht t' (by simp [h'])) (fun x hx => hp x (by simp [hx])) h2, rfl⟩
end
end Go.AM
