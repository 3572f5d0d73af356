/- Worlds of the specification in memory; walks: its within, Pair, Talk, room, find, Said, Heard, Open, Due, send, take, arrive. Conditions: as each theorem says. -/
import Derived.Test.YtjbphojecieloaaWf
import Derived.Test.YtjbphojecieloaaXam
namespace Wl
open Go.AM
theorem put_last (w : Wd) (l : List Mail) : (putW w l).last ≤ w.last + 200 ∧ w.last ≤ (putW w l).last := by
  simp only [putW, List.length_take, room]; omega
theorem doW_last {w : Wd} (h : Wok w) (s : Step) : (doW w s).1.last ≤ w.last + 200 ∧ w.last ≤ (doW w s).1.last := by
  have same : w.last ≤ w.last + 200 ∧ w.last ≤ w.last := ⟨by omega, Int.le_refl _⟩
  unfold doW
  split
  · exact same
  split
  · unfold sayW
    split
    · exact same
    split
    · exact same
    · exact put_last _ _
  split
  · unfold timeW
    split
    · exact same
    · rename_i hc
      obtain ⟨c1, c2⟩ := Wl.within_iff.1 ((Bool.not_eq_false _).mp hc)
      have h0 := h.t0
      have h1 : Wok { w with tick := s.n } := h.clock (by omega) c2
      have h2 := timeGo_sum (grid w.st) { w with tick := s.n }
      have h3 : Wok (timeGo { w with tick := s.n } (grid w.st)) := Wok.timeGo h1 fun p hp => mem_grid.1 hp
      have h4 := h3.ml
      simp only at h2 ⊢
      have h5 := h.ml
      have h6 : ∀ (l : List (Nat × Nat)) (v : Wd), v.mails.length ≤ (timeGo v l).mails.length := by
        intro l
        induction l with
        | nil => intro v; exact Nat.le_refl _
        | cons p r ih =>
          intro v
          obtain ⟨a, b⟩ := p
          refine Nat.le_trans ?_ (ih (timeP v a b))
          unfold timeP; split
          · exact Nat.le_refl _
          · simp only [setT, putW, List.length_append]; omega
      have h7 := h6 (grid w.st) { w with tick := s.n }
      simp only at h7
      omega
  split
  · unfold deliverW; split
    · exact same
    split
    · exact same
    · unfold arrive
      split
      · refine ⟨Int.le_trans (put_last _ _).1 ?_, Int.le_trans ?_ (put_last _ _).2⟩ <;> split <;> exact Int.le_refl _
      · split <;> exact same
  split
  · unfold loseW; split <;> exact same
  split
  · unfold doubleW; split
    · exact same
    split
    · exact same
    split
    · exact same
    · exact put_last _ _
  · unfold crashW; split <;> exact same
end Wl

namespace Go.AM
open Go.Proofs Wl
set_option maxRecDepth 10000
set_option maxHeartbeats 4000000
theorem first_take (A : List ByteArray) (k : Nat) : firstL (A.take k) A = true := by
  simp only [firstL, Bool.and_eq_true, decide_eq_true_eq, List.all_eq_true, List.mem_range, List.length_take]
  refine ⟨by omega, fun j hj => ?_⟩
  have : (A.take k).getD j ByteArray.empty = A.getD j ByteArray.empty := by
    simp only [List.getD_eq_getElem?_getD]
    rw [List.getElem?_take_of_lt (by omega)]
  rw [this]; simp
theorem once_law {w : Wd} (hw : Wok w) (a b : Int) : firstL (heardW w b a) (saidW w a b) = true ∧ ((saidW w a b).length : Int) - openW w a b ≤ (heardW w b a).length ∧ 0 ≤ openW w a b ∧ openW w a b ≤ 1000 ∧ (saidW w a b).length ≤ 1000 ∧ (heardW w b a).length ≤ 1000 := by
  unfold heardW saidW openW
  cases hP : isPair w a b
  · simp [firstL]
  · have hT := hw.tk a.toNat b.toNat
    have := hT.k0; have := hT.kh; have := hT.hs; have := hT.sl
    simp only [if_true]
    refine ⟨first_take _ _, ?_, ?_, ?_, ?_, ?_⟩
    · rw [List.length_take]; unfold opn; omega
    · unfold opn; omega
    · unfold opn; omega
    · omega
    · rw [List.length_take]; omega
end Go.AM

namespace Go.AM
open Go.Proofs Wl
def rowC (T : Nat → Nat → AV) (w : Wd) (q : Nat × Nat) : List AV := [T q.1 q.2, iv .i64 (w.tk q.1 q.2).heard, iv .i64 (w.tk q.1 q.2).known, iv .i64 (w.tk q.1 q.2).due]
def flatT (w : Wd) (T : Nat → Nat → AV) : List AV := (grid w.st).flatMap (rowC T w)
theorem rowP_len (S a b : Nat) : (rowP S a b).length = a * S + b := by
  simp only [rowP, List.length_append, List.length_map, List.length_range]
  congr 1
  induction a with
  | zero => simp
  | succ n ih => rw [List.range_succ, List.flatMap_append, List.length_append, ih, Nat.succ_mul]; simp
theorem sameL_refl (A : List ByteArray) : sameL A A = true := by simp [sameL]
theorem range_split {a n : Nat} (h : a < n) : List.range n = List.range a ++ a :: List.range' (a + 1) (n - a - 1) := by
  have e : n = a + (1 + (n - a - 1)) := by omega
  rw [List.range_eq_range', List.range_eq_range']
  conv => lhs; rw [e, ← List.range'_append_1, Nat.zero_add, Nat.add_comm 1, List.range'_succ]
theorem grid_split {n a b : Nat} (ha : a < n) (hb : b < n) : ∃ l2, grid n = rowP n a b ++ (a, b) :: l2 ∧ (∀ q ∈ rowP n a b, ¬ (q.1 = a ∧ q.2 = b)) ∧ (∀ q ∈ l2, ¬ (q.1 = a ∧ q.2 = b)) := by
  refine ⟨(List.range' (b + 1) (n - b - 1)).map (fun y => (a, y)) ++ (List.range' (a + 1) (n - a - 1)).flatMap (fun x => (List.range n).map fun y => (x, y)), ?_, ?_, ?_⟩
  · have h1 : ∀ f : Nat → List (Nat × Nat), (List.range n).flatMap f = (List.range a).flatMap f ++ (f a ++ (List.range' (a + 1) (n - a - 1)).flatMap f) := fun f => by
      conv => lhs; rw [range_split ha, List.flatMap_append, List.flatMap_cons]
    have h2 : ((List.range n).map fun y => (a, y)) = (List.range b).map (fun y => (a, y)) ++ (a, b) :: (List.range' (b + 1) (n - b - 1)).map (fun y => (a, y)) := by
      conv => lhs; rw [range_split hb]
      rw [List.map_append, List.map_cons]
    rw [grid, h1, h2, rowP]
    simp only [List.append_assoc, List.cons_append]
  · intro q hq
    simp only [rowP, List.mem_append, List.mem_flatMap, List.mem_range, List.mem_map] at hq
    rcases hq with ⟨x, h1, y, _, rfl⟩ | ⟨y, h1, rfl⟩
    · simp only; omega
    · simp only; omega
  · intro q hq
    simp only [List.mem_append, List.mem_flatMap, List.mem_range'_1, List.mem_range, List.mem_map] at hq
    rcases hq with ⟨y, h1, rfl⟩ | ⟨x, h1, y, _, rfl⟩
    · simp only; omega
    · simp only; omega
theorem rows_len (T : Nat → Nat → AV) (w : Wd) : ∀ l : List (Nat × Nat), (l.flatMap (rowC T w)).length = l.length * 4
  | [] => rfl
  | q :: r => by rw [List.flatMap_cons, List.length_append, rows_len T w r, List.length_cons]; simp only [rowC, List.length_cons, List.length_nil]; omega
theorem rowP_len' (S a b : Nat) : (rowP S a b).length = a * S + b := rowP_len S a b
def upT (T : Nat → Nat → AV) (a b : Nat) (v : AV) : Nat → Nat → AV := fun x y => if x = a ∧ y = b then v else T x y
theorem rows_same {T : Nat → Nat → AV} {w : Wd} {a b : Nat} {t : Talk} {v : AV} : ∀ {l : List (Nat × Nat)}, (∀ q ∈ l, ¬ (q.1 = a ∧ q.2 = b)) → l.flatMap (rowC (upT T a b v) (setT w a b t)) = l.flatMap (rowC T w)
  | [], _ => rfl
  | q :: r, h => by
    rw [List.flatMap_cons, List.flatMap_cons, rows_same fun x hx => h x (by simp [hx])]
    have := h q (by simp)
    simp only [rowC, upT, setT, if_neg this]
/-- the row of a pair, and what becomes of it -/
theorem row_split (T : Nat → Nat → AV) (w : Wd) {a b : Nat} (ha : a < w.st) (hb : b < w.st) : ∃ pre post, flatT w T = pre ++ (T a b :: iv .i64 (w.tk a b).heard :: iv .i64 (w.tk a b).known :: iv .i64 (w.tk a b).due :: post) ∧ pre.length = (a * w.st + b) * 4 ∧
    ∀ (t : Talk) (v : AV), flatT (setT w a b t) (upT T a b v) = pre ++ (v :: iv .i64 t.heard :: iv .i64 t.known :: iv .i64 t.due :: post) := by
  obtain ⟨l2, e, h1, h2⟩ := grid_split ha hb
  refine ⟨(rowP w.st a b).flatMap (rowC T w), l2.flatMap (rowC T w), ?_, ?_, fun t v => ?_⟩
  · rw [flatT, e, List.flatMap_append, List.flatMap_cons]; rfl
  · rw [rows_len, rowP_len]
  · rw [flatT]
    show (grid w.st).flatMap _ = _
    rw [e, List.flatMap_append, List.flatMap_cons, rows_same h1, rows_same h2]
    simp [rowC, upT, setT]
theorem flatT_len (T : Nat → Nat → AV) (w : Wd) : (flatT w T).length = w.st * w.st * 4 := by
  rw [flatT, rows_len, ← rowP_all, rowP_len, Nat.add_zero]
/-- a world of the specification: its head at p, its talks at t -/
structure RRep (w : Wd) (p t : Nat) (V : AV) (T : Nat → Nat → AV) (h : AHeap) : Prop where
  hd : h p = some (.cells [iv .i64 w.st, iv .i64 w.wait, iv .i64 w.tick, iv .i64 (w.last + 1), .slc t 0 (w.st * w.st) 4, V])
  mv : MailsV w.mails V
  tv : ∀ a b, a < w.st → b < w.st → TextsV (w.tk a b).said (T a b)
  ts : h t = some (.cells (flatT w T))
  ne : p ≠ t
theorem RRep.congr {w : Wd} {p t : Nat} {V : AV} {T : Nat → Nat → AV} {h h' : AHeap} (R : RRep w p t V T h) (h1 : h' p = h p) (h2 : h' t = h t) : RRep w p t V T h' :=
  ⟨by rw [h1]; exact R.hd, R.mv, R.tv, by rw [h2]; exact R.ts, R.ne⟩
/-- what a step does to a world of the specification -/
def RTurn (w' : Wd) (p t : Nat) (h : AHeap) (n : Nat) (h' : AHeap) (n' : Nat) : Prop := ∃ V T, RRep w' p t V T h' ∧ n ≤ n' ∧ ∀ k, k < n → k ≠ p → k ≠ t → h' k = h k
theorem dropP0 {α : Type} {pre L : List α} {o : Nat} (h : pre.length = o) : (pre ++ L).drop o = L := by rw [← h, List.drop_left]
theorem dropPj {α : Type} {pre L : List α} {o j : Nat} (h : pre.length = o) : (pre ++ L).drop (o + j) = L.drop j := by rw [← h, List.drop_append]; simp
theorem takeP0 {α : Type} {pre L : List α} {o : Nat} (h : pre.length = o) : (pre ++ L).take o = pre := by rw [← h, List.take_left]
theorem takePj {α : Type} {pre L : List α} {o j : Nat} (h : pre.length = o) : (pre ++ L).take (o + j) = pre ++ L.take j := by subst h; rw [List.take_append, List.take_of_length_le (by omega), Nat.add_sub_cancel_left]
end Go.AM

namespace Go.AM
open Go.Proofs Wl
set_option maxRecDepth 10000
set_option maxHeartbeats 4000000
theorem within_ref (a lo hi : Int) : APure Try.prog 31 [iv .i64 a, iv .i64 lo, iv .i64 hi] (bv (within a lo hi)) := by
  intro h n
  refine ACalls.pure (ACalls.entry (by kernel_rfl) fun hb _ => calls_of Try.func31 rfl (by kernel_rfl) (by simp [Try.ntmps31]) ?_)
  by_cases c1 : lo ≤ a <;> by_cases c2 : a ≤ hi
  all_goals
    skip
    repeat' (first | (refine ac_seq_h fun K hK => ?_) | (refine ac_region_h fun K hK => ?_; simp (disch := omega) [go_sem, *, Try.ntmps31]) | (refine ac_draw_h mixed (by kernel_rfl) fun K hK => ?_; simp (disch := omega) [go_sem, *, wrap64_id, upd_ne, mk3_true, flatten_replicate_one, stepK_if, ilt_true, ilt_false, ile_true, ile_false, Try.ntmps31]) | (apply Hide.out hK; clear hK K; try with_reducible dsimp only [thenA]) | (apply Hide.out ht; clear ht hf Kt Kf) | (apply Hide.out hf; clear ht hf Kt Kf) | (clear hK K; apply Hide.out hK; clear hK K; try with_reducible dsimp only [thenA]) | (clear hK K; clear hK K; apply Hide.out hK; clear hK K; try with_reducible dsimp only [thenA]) | (refine ac_block ?_) | (refine ac_skip ?_; simp only [thenA, blockA]) | (refine ac_exit ?_; simp only [thenA, blockA, if_true, if_false, Nat.reduceEqDiff]) | (with_reducible show nextK _ _ _ _ _ _ _; simp (disch := omega) [go_sem, *, wrap64_id, upd_ne, mk3_true, flatten_replicate_one, stepK_if, ilt_true, ilt_false, ile_true, ile_false, Try.ntmps31]) | (refine wantK_split (fun hc => ?_) (fun hc => ?_) <;> (try simp only [Bool.not_eq_true', Bool.not_eq_false', Bool.not_eq_eq_eq_not, Bool.not_true, Bool.not_false, decide_eq_true_eq, decide_eq_false_iff_not, Int.not_lt, Int.not_le] at hc) <;> (try (exfalso; omega)) <;> (try simp (disch := omega) [go_sem, *, wrap64_id, upd_ne, mk3_true, flatten_replicate_one, stepK_if, ilt_true, ilt_false, ile_true, ile_false, Try.ntmps31])) | (refine ac_cond_h fun Kt Kf ht hf => ?_; simp (disch := omega) [go_sem, *, wrap64_id, upd_ne, mk3_true, flatten_replicate_one, stepK_if, ilt_true, ilt_false, ile_true, ile_false, Try.ntmps31]; try (refine ⟨fun hc => ?_, fun hc => ?_⟩ <;> try (exfalso; omega))))
    refine ac_ret ?_
    refine ⟨by simp, _, (by simp (disch := omega) [go_sem] <;> rfl), ?_⟩
    refine ret_id ⟨fun j hj => rfl, by simp [go_sem, below], by simp [go_sem, within]; try omega, rfl, rfl⟩
section
variable {w : Wd} {p t : Nat} {V : AV} {T : Nat → Nat → AV} {h : AHeap}
theorem pair_ref (R : RRep w p t V T h) (hs : w.st ≤ 10) (a b : Int) (n : Nat) : APureAt Try.prog 56 [.ptr p 0, iv .i64 a, iv .i64 b] h n (bv (isPair w a b)) := by
  refine ACalls.pure (ACalls.entry (by kernel_rfl) fun hb _ => calls_of Try.func56 rfl (by kernel_rfl) (by simp [Try.ntmps56]) ?_)
  have hd := R.hd
  have e1 : within a 0 (w.st - 1) = (decide (0 ≤ a) && decide (a < w.st)) := by
    rw [Bool.eq_iff_iff, Wl.within_iff]; simp; omega
  have e2 : within b 0 (w.st - 1) = (decide (0 ≤ b) && decide (b < w.st)) := by
    rw [Bool.eq_iff_iff, Wl.within_iff]; simp; omega
  have e3 : isPair w a b = (within a 0 (w.st - 1) && within b 0 (w.st - 1) && (a != b)) := by
    rw [e1, e2]; unfold isPair
    have e0 : decide (a ≠ b) = (a != b) := by by_cases e : a = b <;> simp [e]
    rw [e0]
    cases decide (0 ≤ a) <;> cases decide (a < (w.st : Int)) <;> cases decide (0 ≤ b) <;> cases decide (b < (w.st : Int)) <;> rfl
  rw [e3]
  have c1 := within_ref a 0 (w.st - 1)
  have c2 := within_ref b 0 (w.st - 1)
  clear e1 e2 e3
  generalize within a 0 (w.st - 1) = x at *
  generalize within b 0 (w.st - 1) = y at *
  cases x <;> cases y <;> cases hz : (a != b)
  all_goals
    skip
    repeat' (first | (refine ac_seq_h fun K hK => ?_) | (refine ac_region_h fun K hK => ?_; simp (disch := omega) [go_sem, *, wrap64_id, Try.ntmps56 ]) | (refine ac_draw_h mixed (by kernel_rfl) fun K hK => ?_; simp (disch := omega) [go_sem, *, wrap64_id, upd_ne, mk3_true, flatten_replicate_one, stepK_if, ilt_true, ilt_false, ile_true, ile_false, Try.ntmps56 ]) | (apply Hide.out hK; clear hK K; try with_reducible dsimp only [thenA]) | (apply Hide.out ht; clear ht hf Kt Kf) | (apply Hide.out hf; clear ht hf Kt Kf) | (clear hK K; apply Hide.out hK; clear hK K; try with_reducible dsimp only [thenA]) | (clear hK K; clear hK K; apply Hide.out hK; clear hK K; try with_reducible dsimp only [thenA]) | (with_reducible refine APure.call (c1) ?_; try simp (disch := omega) [go_sem, * ]) | (with_reducible refine APure.call (c2) ?_; try simp (disch := omega) [go_sem, * ]) | (refine ac_block ?_) | (refine ac_skip ?_; simp only [thenA, blockA]) | (refine ac_exit ?_; simp only [thenA, blockA, if_true, if_false, Nat.reduceEqDiff]) | (with_reducible show nextK _ _ _ _ _ _ _; simp (disch := omega) [go_sem, *, wrap64_id, upd_ne, mk3_true, flatten_replicate_one, stepK_if, ilt_true, ilt_false, ile_true, ile_false, Try.ntmps56 ]) | (refine wantK_split (fun hc => ?_) (fun hc => ?_) <;> (try simp only [Bool.not_eq_true', Bool.not_eq_false', Bool.not_eq_eq_eq_not, Bool.not_true, Bool.not_false, decide_eq_true_eq, decide_eq_false_iff_not, Int.not_lt, Int.not_le] at hc) <;> (try (exfalso; omega)) <;> (try simp (disch := omega) [go_sem, *, wrap64_id, upd_ne, mk3_true, flatten_replicate_one, stepK_if, ilt_true, ilt_false, ile_true, ile_false, Try.ntmps56 ])) | (refine ac_cond_h fun Kt Kf ht hf => ?_; simp (disch := omega) [go_sem, *, wrap64_id, upd_ne, mk3_true, flatten_replicate_one, stepK_if, ilt_true, ilt_false, ile_true, ile_false, Try.ntmps56 ]; try (refine ⟨fun hc => ?_, fun hc => ?_⟩ <;> try (exfalso; omega))))
    refine ac_ret ?_
    refine ⟨by simp, _, (by simp (disch := omega) [go_sem] <;> rfl), ?_⟩
    refine ret_id ⟨fun j hj => rfl, by simp [go_sem, below], by simp [go_sem], rfl, rfl⟩
theorem idx_lt {a b n : Nat} (ha : a < n) (hb : b < n) : a * n + b < n * n := by
  have h1 : (a + 1) * n ≤ n * n := Nat.mul_le_mul_right n ha
  rw [Nat.succ_mul] at h1; omega
theorem talk_ref (R : RRep w p t V T h) (hs : w.st ≤ 10) {a b : Nat} (ha : a < w.st) (hb2 : b < w.st) (n : Nat) : APureAt Try.prog 57 [.ptr p 0, iv .i64 a, iv .i64 b] h n (.ptr t ((a * w.st + b) * 4)) := by
  refine ACalls.pure (ACalls.entry (by kernel_rfl) fun hb _ => calls_of Try.func57 rfl (by kernel_rfl) (by simp [Try.ntmps57]) ?_)
  have hd := R.hd
  have hlt := idx_lt ha hb2
  have htn : t < n := by
    rcases Nat.lt_or_ge t n with h1 | h1
    · exact h1
    · have := R.ts; rw [hb.none h1] at this; cases this
  have e1 : ((a : Int) * (w.st : Int)) = ((a * w.st : Nat) : Int) := by simp
  have h100 : w.st * w.st ≤ 100 := Nat.mul_le_mul hs hs
  obtain ⟨S, hS⟩ : ∃ S, Hide (S = w.st) := ⟨_, rfl⟩
  rw [← hS.out] at hlt hd ha hb2 h100 e1 ⊢
  obtain ⟨Z, hZ⟩ : ∃ Z, Hide (Z = a * S) := ⟨_, rfl⟩
  obtain ⟨Y, hY⟩ : ∃ Y, Hide (Y = S * S) := ⟨_, rfl⟩
  rw [← hZ.out, ← hY.out] at hlt
  rw [← hZ.out] at e1
  rw [← hY.out] at hd h100
  rw [← hZ.out]
  have e2 : ((Z : Int) + (b : Int)).toNat = Z + b := by omega
  repeat' (first | (refine ac_seq_h fun K hK => ?_) | (refine ac_region_h fun K hK => ?_; simp (disch := omega) [go_sem, *, Try.ntmps57]) | (refine ac_draw_h mixed (by kernel_rfl) fun K hK => ?_; simp (disch := omega) [go_sem, *, wrap64_id, ilt_true, ile_true]) | (apply Hide.out hK; clear hK K; try with_reducible dsimp only [thenA]) | (apply Hide.out ht; clear ht hf Kt Kf) | (apply Hide.out hf; clear ht hf Kt Kf) | (clear hK K; apply Hide.out hK; clear hK K; try with_reducible dsimp only [thenA]) | (clear hK K; clear hK K; apply Hide.out hK; clear hK K; try with_reducible dsimp only [thenA]) | (refine ac_block ?_) | (refine ac_skip ?_; simp only [thenA, blockA]) | (refine ac_exit ?_; simp only [thenA, blockA, if_true, if_false, Nat.reduceEqDiff]) | (with_reducible show nextK _ _ _ _ _ _ _; simp (disch := omega) [go_sem, *, wrap64_id, upd_ne, mk3_true, flatten_replicate_one, stepK_if, ilt_true, ilt_false, ile_true, ile_false, Try.ntmps57]) | (refine wantK_split (fun hc => ?_) (fun hc => ?_) <;> (try simp only [Bool.not_eq_true', Bool.not_eq_false', Bool.not_eq_eq_eq_not, Bool.not_true, Bool.not_false, decide_eq_true_eq, decide_eq_false_iff_not, Int.not_lt, Int.not_le] at hc) <;> (try (exfalso; omega)) <;> (try simp (disch := omega) [go_sem, *, wrap64_id, upd_ne, mk3_true, flatten_replicate_one, stepK_if, ilt_true, ilt_false, ile_true, ile_false, Try.ntmps57])) | (refine ac_cond_h fun Kt Kf ht hf => ?_; simp (disch := omega) [go_sem, *, wrap64_id, upd_ne, mk3_true, flatten_replicate_one, stepK_if, ilt_true, ilt_false, ile_true, ile_false, Try.ntmps57]; try (refine ⟨fun hc => ?_, fun hc => ?_⟩ <;> try (exfalso; omega))))
  refine ac_ret ?_
  refine ⟨by simp, _, (by simp (disch := omega) [go_sem] <;> rfl), ?_⟩
  refine ret_id ⟨fun j hj => rfl, by simp [go_sem, below]; omega, by simp [go_sem], rfl, rfl⟩
theorem room_ref (R : RRep w p t V T h) (hl : w.mails.length ≤ 1000) (n : Nat) : APureAt Try.prog 37 [.ptr p 0] h n (bv (decide (w.mails.length < 200))) := by
  refine ACalls.pure (ACalls.entry (by kernel_rfl) fun hb _ => calls_of Try.func37 rfl (by kernel_rfl) (by simp [Try.ntmps37]) ?_)
  have hd := R.hd
  obtain ⟨v1, v2, v3, rfl, hv⟩ := R.mv
  replace hv : Hide _ := hv
  have e : ((w.mails.length : Int) < 200) = (w.mails.length < 200) := by apply propext; omega
  repeat' (first | (refine ac_seq_h fun K hK => ?_) | (refine ac_region_h fun K hK => ?_; simp (disch := omega) [go_sem, *, Try.ntmps37]) | (refine ac_draw_h mixed (by kernel_rfl) fun K hK => ?_; simp (disch := omega) [go_sem, *, wrap64_id, upd_ne, mk3_true, flatten_replicate_one, stepK_if, ilt_true, ilt_false, ile_true, ile_false, Try.ntmps37]) | (apply Hide.out hK; clear hK K; try with_reducible dsimp only [thenA]) | (apply Hide.out ht; clear ht hf Kt Kf) | (apply Hide.out hf; clear ht hf Kt Kf) | (clear hK K; apply Hide.out hK; clear hK K; try with_reducible dsimp only [thenA]) | (clear hK K; clear hK K; apply Hide.out hK; clear hK K; try with_reducible dsimp only [thenA]) | (refine ac_block ?_) | (refine ac_skip ?_; simp only [thenA, blockA]) | (refine ac_exit ?_; simp only [thenA, blockA, if_true, if_false, Nat.reduceEqDiff]) | (with_reducible show nextK _ _ _ _ _ _ _; simp (disch := omega) [go_sem, *, wrap64_id, upd_ne, mk3_true, flatten_replicate_one, stepK_if, ilt_true, ilt_false, ile_true, ile_false, Try.ntmps37]) | (refine wantK_split (fun hc => ?_) (fun hc => ?_) <;> (try simp only [Bool.not_eq_true', Bool.not_eq_false', Bool.not_eq_eq_eq_not, Bool.not_true, Bool.not_false, decide_eq_true_eq, decide_eq_false_iff_not, Int.not_lt, Int.not_le] at hc) <;> (try (exfalso; omega)) <;> (try simp (disch := omega) [go_sem, *, wrap64_id, upd_ne, mk3_true, flatten_replicate_one, stepK_if, ilt_true, ilt_false, ile_true, ile_false, Try.ntmps37])) | (refine ac_cond_h fun Kt Kf ht hf => ?_; simp (disch := omega) [go_sem, *, wrap64_id, upd_ne, mk3_true, flatten_replicate_one, stepK_if, ilt_true, ilt_false, ile_true, ile_false, Try.ntmps37]; try (refine ⟨fun hc => ?_, fun hc => ?_⟩ <;> try (exfalso; omega))))
  refine ac_ret ?_
  refine ⟨by simp, _, (by simp (disch := omega) [go_sem] <;> rfl), ?_⟩
  refine ret_id ⟨fun j hj => rfl, by simp [go_sem, below], by simp [go_sem], rfl, rfl⟩
theorem find_ref (R : RRep w p t V T h) (hl : w.mails.length ≤ 1000) (id : Int) (n : Nat) : APureAt Try.prog 36 [.ptr p 0, iv .i64 id] h n (iv .i64 (match findM w id with | some i => (i : Int) | none => -1)) := by
  refine ACalls.pure (ACalls.entry (by kernel_rfl) fun hb _ => calls_of Try.func36 rfl (by kernel_rfl) (by simp [Try.ntmps36]) ?_)
  have hd := R.hd
  obtain ⟨v1, v2, v3, rfl, hv⟩ := R.mv
  replace hv : Hide _ := hv
  have hfr : Hide (findM w id = w.mails.findIdx? fun m => m.id == id) := rfl
  generalize findM w id = F at *
  generalize w.mails = l at *
  repeat' (first | (refine ac_seq_h fun K hK => ?_) | (refine ac_region_h fun K hK => ?_; simp (disch := omega) [go_sem, *, Try.ntmps36]) | (refine ac_draw_h mixed (by kernel_rfl) fun K hK => ?_; simp (disch := omega) [go_sem, *, wrap64_id, upd_ne, mk3_true, flatten_replicate_one, stepK_if, ilt_true, ilt_false, ile_true, ile_false, Try.ntmps36]) | (apply Hide.out hK; clear hK K; try with_reducible dsimp only [thenA]) | (apply Hide.out ht; clear ht hf Kt Kf) | (apply Hide.out hf; clear ht hf Kt Kf) | (clear hK K; apply Hide.out hK; clear hK K; try with_reducible dsimp only [thenA]) | (clear hK K; clear hK K; apply Hide.out hK; clear hK K; try with_reducible dsimp only [thenA]) | (refine ac_block ?_) | (refine ac_skip ?_; simp only [thenA, blockA]) | (refine ac_exit ?_; simp only [thenA, blockA, if_true, if_false, Nat.reduceEqDiff]) | (with_reducible show nextK _ _ _ _ _ _ _; simp (disch := omega) [go_sem, *, wrap64_id, upd_ne, mk3_true, flatten_replicate_one, stepK_if, ilt_true, ilt_false, ile_true, ile_false, Try.ntmps36]) | (refine wantK_split (fun hc => ?_) (fun hc => ?_) <;> (try simp only [Bool.not_eq_true', Bool.not_eq_false', Bool.not_eq_eq_eq_not, Bool.not_true, Bool.not_false, decide_eq_true_eq, decide_eq_false_iff_not, Int.not_lt, Int.not_le] at hc) <;> (try (exfalso; omega)) <;> (try simp (disch := omega) [go_sem, *, wrap64_id, upd_ne, mk3_true, flatten_replicate_one, stepK_if, ilt_true, ilt_false, ile_true, ile_false, Try.ntmps36])) | (refine ac_cond_h fun Kt Kf ht hf => ?_; simp (disch := omega) [go_sem, *, wrap64_id, upd_ne, mk3_true, flatten_replicate_one, stepK_if, ilt_true, ilt_false, ile_true, ile_false, Try.ntmps36]; try (refine ⟨fun hc => ?_, fun hc => ?_⟩ <;> try (exfalso; omega))))
  refine ac_loop_wk (fun s' => ∃ (i n' : Nat), n ≤ n' ∧ i ≤ l.length ∧ (∀ j m, j < i → l[j]? = some m → m.id ≠ id) ∧ s' = ⟨26, [(0, .ptr p 0), (1, iv .i64 id), (5, iv .i64 i)], h, n'⟩) (fun z => l.length - (intAt z 5).toNat) ?_ ?_
  · refine loop_start (by simp [go_sem]) (Sub.refl _) ⟨0, _, ?_, Nat.zero_le _, fun j m hj => absurd hj (Nat.not_lt_zero j), rfl⟩
    omega
  rintro s' ⟨i, n', hn', hi, hno, rfl⟩
  replace hno : Hide _ := hno
  by_cases hlt : i < l.length
  · obtain ⟨m, hm1, hm2, _⟩ := at_k hlt
    obtain rfl := hv.out (by intro e; rw [e] at hlt; simp at hlt)
    obtain ⟨mi, mk, mf, mt, mn, mx⟩ := m
    replace hm2 : Hide _ := hm2
    by_cases hid : mi = id
    · subst hid
      have hF : F = some i := by
        rw [hfr.out]
        refine List.findIdx?_eq_some_iff_getElem.2 ⟨hlt, by simp [hm1], fun j hj => ?_⟩
        have := hno.out j l[j] hj (List.getElem?_eq_getElem _)
        simpa using this
      replace hF : Hide _ := hF
      repeat' (first | (refine ac_seq_h fun K hK => ?_) | (refine ac_region_h fun K hK => ?_; simp (disch := omega) [go_sem, *, ilt_true, ile_true]) | (refine ac_draw_h mixed (by kernel_rfl) fun K hK => ?_; simp (disch := omega) [go_sem, *, wrap64_id, upd_ne, mk3_true, flatten_replicate_one, stepK_if, ilt_true, ilt_false, ile_true, ile_false, Try.ntmps36]) | (apply Hide.out hK; clear hK K; try with_reducible dsimp only [thenA]) | (apply Hide.out ht; clear ht hf Kt Kf) | (apply Hide.out hf; clear ht hf Kt Kf) | (clear hK K; apply Hide.out hK; clear hK K; try with_reducible dsimp only [thenA]) | (clear hK K; clear hK K; apply Hide.out hK; clear hK K; try with_reducible dsimp only [thenA]) | (refine ac_block ?_) | (refine ac_skip ?_; simp only [thenA]) | (refine ac_exit ?_; simp only [thenA, blockA, if_true, if_false, Nat.reduceEqDiff]) | (with_reducible show nextK _ _ _ _ _ _ _; simp (disch := omega) [go_sem, *, wrap64_id, upd_ne, mk3_true, flatten_replicate_one, stepK_if, ilt_true, ilt_false, ile_true, ile_false, Try.ntmps36]) | (refine wantK_split (fun hc => ?_) (fun hc => ?_) <;> (try simp only [Bool.not_eq_true', Bool.not_eq_false', Bool.not_eq_eq_eq_not, Bool.not_true, Bool.not_false, decide_eq_true_eq, decide_eq_false_iff_not, Int.not_lt, Int.not_le] at hc) <;> (try (exfalso; omega)) <;> (try simp (disch := omega) [go_sem, *, wrap64_id, upd_ne, mk3_true, flatten_replicate_one, stepK_if, ilt_true, ilt_false, ile_true, ile_false, Try.ntmps36])) | (refine ac_cond_h fun Kt Kf ht hf => ?_; simp (disch := omega) [go_sem, *]; try (refine ⟨fun hc => ?_, fun hc => ?_⟩ <;> try (exfalso; omega))))
      refine ac_ret ?_
      refine ⟨by simp, _, (by simp (disch := omega) [go_sem] <;> rfl), ?_⟩
      refine ret_id ⟨fun j hj => rfl, by simp [go_sem, below], by simp [go_sem, hF.out], rfl, rfl⟩
    · have hid2 : (mi == id) = false := by simpa using hid
      repeat' (first | (refine ac_seq_h fun K hK => ?_) | (refine ac_region_h fun K hK => ?_; simp (disch := omega) [go_sem, *, wrap64_id, ilt_true, ile_true]) | (refine ac_draw_h mixed (by kernel_rfl) fun K hK => ?_; simp (disch := omega) [go_sem, *, wrap64_id, upd_ne, mk3_true, flatten_replicate_one, stepK_if, ilt_true, ilt_false, ile_true, ile_false, Try.ntmps36]) | (apply Hide.out hK; clear hK K; try with_reducible dsimp only [thenA]) | (apply Hide.out ht; clear ht hf Kt Kf) | (apply Hide.out hf; clear ht hf Kt Kf) | (clear hK K; apply Hide.out hK; clear hK K; try with_reducible dsimp only [thenA]) | (clear hK K; clear hK K; apply Hide.out hK; clear hK K; try with_reducible dsimp only [thenA]) | (refine ac_block ?_) | (refine ac_skip ?_; simp only [thenA, blockA]) | (refine ac_exit ?_; simp only [thenA, blockA, if_true, if_false, Nat.reduceEqDiff]) | (with_reducible show nextK _ _ _ _ _ _ _; simp (disch := omega) [go_sem, *, wrap64_id, upd_ne, mk3_true, flatten_replicate_one, stepK_if, ilt_true, ilt_false, ile_true, ile_false, Try.ntmps36]) | (refine wantK_split (fun hc => ?_) (fun hc => ?_) <;> (try simp only [Bool.not_eq_true', Bool.not_eq_false', Bool.not_eq_eq_eq_not, Bool.not_true, Bool.not_false, decide_eq_true_eq, decide_eq_false_iff_not, Int.not_lt, Int.not_le] at hc) <;> (try (exfalso; omega)) <;> (try simp (disch := omega) [go_sem, *, wrap64_id, upd_ne, mk3_true, flatten_replicate_one, stepK_if, ilt_true, ilt_false, ile_true, ile_false, Try.ntmps36])) | (refine ac_cond_h fun Kt Kf ht hf => ?_; simp (disch := omega) [go_sem, *]; try (refine ⟨fun hc => ?_, fun hc => ?_⟩ <;> try (exfalso; omega))))
      refine round_end (by simp [go_sem]) (Sub.refl _) ⟨i + 1, _, ?_, by omega, fun j m hj hjm => ?_, rfl⟩ (by simp [intAt, go_sem]; omega)
      · omega
      · by_cases hji : j = i
        · rw [hji, hm2.out] at hjm; cases hjm; exact hid
        · exact hno.out j m (by omega) hjm
  · have hF : F = none := by
      rw [hfr.out, List.findIdx?_eq_none_iff]
      intro m hm
      obtain ⟨j, hj⟩ := List.getElem?_of_mem hm
      have := hno.out j m (by have := (List.getElem?_eq_some_iff.1 hj).1; omega) hj
      simpa using this
    replace hF : Hide _ := hF
    repeat' (first | (refine ac_seq_h fun K hK => ?_) | (refine ac_region_h fun K hK => ?_; simp (disch := omega) [go_sem, *, ilt_false]) | (refine ac_draw_h mixed (by kernel_rfl) fun K hK => ?_; simp (disch := omega) [go_sem, *, wrap64_id, upd_ne, mk3_true, flatten_replicate_one, stepK_if, ilt_true, ilt_false, ile_true, ile_false, Try.ntmps36]) | (apply Hide.out hK; clear hK K; try with_reducible dsimp only [thenA]) | (apply Hide.out ht; clear ht hf Kt Kf) | (apply Hide.out hf; clear ht hf Kt Kf) | (clear hK K; apply Hide.out hK; clear hK K; try with_reducible dsimp only [thenA]) | (clear hK K; clear hK K; apply Hide.out hK; clear hK K; try with_reducible dsimp only [thenA]) | (refine ac_block ?_) | (refine ac_skip ?_; simp only [thenA, blockA]) | (refine ac_exit ?_; simp only [thenA, blockA, if_true]) | (with_reducible show nextK _ _ _ _ _ _ _; simp (disch := omega) [go_sem, *, wrap64_id, upd_ne, mk3_true, flatten_replicate_one, stepK_if, ilt_true, ilt_false, ile_true, ile_false, Try.ntmps36]) | (refine wantK_split (fun hc => ?_) (fun hc => ?_) <;> (try simp only [Bool.not_eq_true', Bool.not_eq_false', Bool.not_eq_eq_eq_not, Bool.not_true, Bool.not_false, decide_eq_true_eq, decide_eq_false_iff_not, Int.not_lt, Int.not_le] at hc) <;> (try (exfalso; omega)) <;> (try simp (disch := omega) [go_sem, *, wrap64_id, upd_ne, mk3_true, flatten_replicate_one, stepK_if, ilt_true, ilt_false, ile_true, ile_false, Try.ntmps36])) | (refine ac_cond_h fun Kt Kf ht hf => ?_; simp (disch := omega) [go_sem, *]; try (refine ⟨fun hc => ?_, fun hc => ?_⟩ <;> try (exfalso; omega))))
    refine ac_ret ?_
    refine ⟨by simp, _, (by simp (disch := omega) [go_sem] <;> rfl), ?_⟩
    refine ret_id ⟨fun j hj => rfl, by simp [go_sem, below], by simp [go_sem, hF.out], rfl, rfl⟩
end
end Go.AM

namespace Go.AM
open Go.Proofs Wl
set_option maxRecDepth 10000
set_option maxHeartbeats 4000000
section
variable {w : Wd} {p t : Nat} {V : AV} {T : Nat → Nat → AV} {h : AHeap}
theorem pair_sym (w : Wd) (a b : Int) : isPair w b a = isPair w a b := by
  unfold isPair
  have e : decide (b ≠ a) = decide (a ≠ b) := by by_cases c : a = b <;> simp [c, Ne.symm]
  rw [e]
  cases decide (0 ≤ a) <;> cases decide (a < (w.st : Int)) <;> cases decide (0 ≤ b) <;> cases decide (b < (w.st : Int)) <;> rfl
theorem said_ref (R : RRep w p t V T h) (hw : Wok w) (a b : Int) : ∃ X, TextsV (saidW w a b) X ∧ ∀ n, APureAt Try.prog 44 [.ptr p 0, iv .i64 a, iv .i64 b] h n X := by
  have s1 := hw.s1
  cases hP : isPair w a b
  · refine ⟨.fslc true true 0 [], ⟨true, true, 0, by simp [saidW, hP], by simp [saidW, hP]⟩, fun n => ?_⟩
    refine ACalls.pure (ACalls.entry (by kernel_rfl) fun hb _ => calls_of Try.func44 rfl (by kernel_rfl) (by simp [Try.ntmps44]) ?_)
    have c1 := fun k => pair_ref R s1 a b k
    rw [hP] at c1
    replace hP : Hide _ := hP
    repeat' (first | (refine ac_seq_h fun K hK => ?_) | (refine ac_region_h fun K hK => ?_; simp (disch := omega) [go_sem, *, Try.ntmps44 ]) | (refine ac_draw_h mixed (by kernel_rfl) fun K hK => ?_; simp (disch := omega) [go_sem, *, wrap64_id, upd_ne, mk3_true, flatten_replicate_one, stepK_if, ilt_true, ilt_false, ile_true, ile_false, Try.ntmps44 ]) | (apply Hide.out hK; clear hK K; try with_reducible dsimp only [thenA]) | (apply Hide.out ht; clear ht hf Kt Kf) | (apply Hide.out hf; clear ht hf Kt Kf) | (clear hK K; apply Hide.out hK; clear hK K; try with_reducible dsimp only [thenA]) | (clear hK K; clear hK K; apply Hide.out hK; clear hK K; try with_reducible dsimp only [thenA]) | (with_reducible refine APureAt.call (c1 _) ?_; try simp (disch := omega) [go_sem, * ]) | (refine ac_block ?_) | (refine ac_skip ?_; simp only [thenA, blockA]) | (refine ac_exit ?_; simp only [thenA, blockA, if_true, if_false, Nat.reduceEqDiff]) | (with_reducible show nextK _ _ _ _ _ _ _; simp (disch := omega) [go_sem, *, wrap64_id, upd_ne, mk3_true, flatten_replicate_one, stepK_if, ilt_true, ilt_false, ile_true, ile_false, Try.ntmps44 ]) | (refine wantK_split (fun hc => ?_) (fun hc => ?_) <;> (try simp only [Bool.not_eq_true', Bool.not_eq_false', Bool.not_eq_eq_eq_not, Bool.not_true, Bool.not_false, decide_eq_true_eq, decide_eq_false_iff_not, Int.not_lt, Int.not_le] at hc) <;> (try (exfalso; omega)) <;> (try simp (disch := omega) [go_sem, *, wrap64_id, upd_ne, mk3_true, flatten_replicate_one, stepK_if, ilt_true, ilt_false, ile_true, ile_false, Try.ntmps44 ])) | (refine ac_cond_h fun Kt Kf ht hf => ?_; simp (disch := omega) [go_sem, * ]; try (refine ⟨fun hc => ?_, fun hc => ?_⟩ <;> try (exfalso; omega))))
    refine ac_ret ?_
    refine ⟨by simp, _, (by simp (disch := omega) [go_sem] <;> rfl), ?_⟩
    refine ret_id ⟨fun j hj => rfl, by simp [go_sem, below, belowL], by simp [go_sem], rfl, rfl⟩
  · obtain ⟨x, y, hx, hy, hxy, rfl, rfl⟩ := pair_iff.1 hP
    have hTV := R.tv x y hx hy
    have e : saidW w x y = (w.tk x y).said := by simp [saidW, hP]
    refine ⟨T x y, by rw [e]; exact hTV, fun n => ?_⟩
    refine ACalls.pure (ACalls.entry (by kernel_rfl) fun hb _ => calls_of Try.func44 rfl (by kernel_rfl) (by simp [Try.ntmps44]) ?_)
    have c1 := fun k => pair_ref R s1 (x : Int) (y : Int) k
    rw [hP] at c1
    have c2 := fun k => talk_ref R s1 hx hy k
    obtain ⟨pre, post, r1, r2, _⟩ := row_split T w hx hy
    have ts := R.ts
    rw [r1] at ts
    generalize (x * w.st + y) * 4 = o at *
    obtain ⟨nl, full, s, hT, hs⟩ := hTV
    generalize (w.tk x y).said = L at *
    have hbl : below n (.fslc nl full s (L.map sv)) := by
      have : belowL n (L.map sv) := by
        clear hT hs e
        induction L with
        | nil => simp [belowL]
        | cons x r ih => rw [List.map_cons, belowL]; exact ⟨by simp [below], ih⟩
      simpa [below] using this
    rw [hT] at ts ⊢
    have e0 := fun (L : List AV) => dropP0 (L := L) r2
    replace hs : Hide _ := hs; replace hT : Hide _ := hT; replace r1 : Hide _ := r1; replace e : Hide _ := e; replace hP : Hide _ := hP
    clear hx hy hxy
    repeat' (first | (refine ac_seq_h fun K hK => ?_) | (refine ac_region_h fun K hK => ?_; simp (disch := omega) [go_sem, *, Try.ntmps44 ]) | (refine ac_draw_h mixed (by kernel_rfl) fun K hK => ?_; simp (disch := omega) [go_sem, *, wrap64_id, upd_ne, mk3_true, flatten_replicate_one, stepK_if, ilt_true, ilt_false, ile_true, ile_false, Try.ntmps44 ]) | (apply Hide.out hK; clear hK K; try with_reducible dsimp only [thenA]) | (apply Hide.out ht; clear ht hf Kt Kf) | (apply Hide.out hf; clear ht hf Kt Kf) | (clear hK K; apply Hide.out hK; clear hK K; try with_reducible dsimp only [thenA]) | (clear hK K; clear hK K; apply Hide.out hK; clear hK K; try with_reducible dsimp only [thenA]) | (with_reducible refine APureAt.call (c1 _) ?_; try simp (disch := omega) [go_sem, * ]) | (with_reducible refine APureAt.call (c2 _) ?_; try simp (disch := omega) [go_sem, * ]) | (refine ac_block ?_) | (refine ac_skip ?_; simp only [thenA]) | (refine ac_exit ?_; simp only [thenA, blockA, if_true, if_false, Nat.reduceEqDiff]) | (with_reducible show nextK _ _ _ _ _ _ _; simp (disch := omega) [go_sem, *, wrap64_id, upd_ne, mk3_true, flatten_replicate_one, stepK_if, ilt_true, ilt_false, ile_true, ile_false, Try.ntmps44 ]) | (refine wantK_split (fun hc => ?_) (fun hc => ?_) <;> (try simp only [Bool.not_eq_true', Bool.not_eq_false', Bool.not_eq_eq_eq_not, Bool.not_true, Bool.not_false, decide_eq_true_eq, decide_eq_false_iff_not, Int.not_lt, Int.not_le] at hc) <;> (try (exfalso; omega)) <;> (try simp (disch := omega) [go_sem, *, wrap64_id, upd_ne, mk3_true, flatten_replicate_one, stepK_if, ilt_true, ilt_false, ile_true, ile_false, Try.ntmps44 ])) | (refine ac_cond_h fun Kt Kf ht hf => ?_; simp (disch := omega) [go_sem, * ]; try (refine ⟨fun hc => ?_, fun hc => ?_⟩ <;> try (exfalso; omega))))
    refine ac_ret ?_
    refine ⟨by simp, _, (by simp (disch := omega) [go_sem] <;> rfl), ?_⟩
    refine ret_id ⟨fun j hj => rfl, by simpa [go_sem] using hbl, by simp [go_sem], rfl, rfl⟩
theorem open_ref (R : RRep w p t V T h) (hw : Wok w) (a b : Int) (n : Nat) : APureAt Try.prog 46 [.ptr p 0, iv .i64 a, iv .i64 b] h n (iv .i64 (openW w a b)) := by
  have s1 := hw.s1
  refine ACalls.pure (ACalls.entry (by kernel_rfl) fun hb _ => calls_of Try.func46 rfl (by kernel_rfl) (by simp [Try.ntmps46]) ?_)
  cases hP : isPair w a b
  · have c1 := fun k => pair_ref R s1 a b k
    rw [hP] at c1
    have e : openW w a b = 0 := by simp [openW, hP]
    rw [e]
    replace hP : Hide _ := hP; replace e : Hide _ := e
    repeat' (first | (refine ac_seq_h fun K hK => ?_) | (refine ac_region_h fun K hK => ?_; simp (disch := omega) [go_sem, *, Try.ntmps46 ]) | (refine ac_draw_h mixed (by kernel_rfl) fun K hK => ?_; simp (disch := omega) [go_sem, *, wrap64_id, upd_ne, mk3_true, flatten_replicate_one, stepK_if, ilt_true, ilt_false, ile_true, ile_false, Try.ntmps46 ]) | (apply Hide.out hK; clear hK K; try with_reducible dsimp only [thenA]) | (apply Hide.out ht; clear ht hf Kt Kf) | (apply Hide.out hf; clear ht hf Kt Kf) | (clear hK K; apply Hide.out hK; clear hK K; try with_reducible dsimp only [thenA]) | (clear hK K; clear hK K; apply Hide.out hK; clear hK K; try with_reducible dsimp only [thenA]) | (with_reducible refine APureAt.call (c1 _) ?_; try simp (disch := omega) [go_sem, * ]) | (refine ac_block ?_) | (refine ac_skip ?_; simp only [thenA, blockA]) | (refine ac_exit ?_; simp only [thenA, blockA, if_true, if_false, Nat.reduceEqDiff]) | (with_reducible show nextK _ _ _ _ _ _ _; simp (disch := omega) [go_sem, *, wrap64_id, upd_ne, mk3_true, flatten_replicate_one, stepK_if, ilt_true, ilt_false, ile_true, ile_false, Try.ntmps46 ]) | (refine wantK_split (fun hc => ?_) (fun hc => ?_) <;> (try simp only [Bool.not_eq_true', Bool.not_eq_false', Bool.not_eq_eq_eq_not, Bool.not_true, Bool.not_false, decide_eq_true_eq, decide_eq_false_iff_not, Int.not_lt, Int.not_le] at hc) <;> (try (exfalso; omega)) <;> (try simp (disch := omega) [go_sem, *, wrap64_id, upd_ne, mk3_true, flatten_replicate_one, stepK_if, ilt_true, ilt_false, ile_true, ile_false, Try.ntmps46 ])) | (refine ac_cond_h fun Kt Kf ht hf => ?_; simp (disch := omega) [go_sem, * ]; try (refine ⟨fun hc => ?_, fun hc => ?_⟩ <;> try (exfalso; omega))))
    refine ac_ret ?_
    refine ⟨by simp, _, (by simp (disch := omega) [go_sem] <;> rfl), ?_⟩
    refine ret_id ⟨fun j hj => rfl, by simp [go_sem, below], by simp [go_sem], rfl, rfl⟩
  · obtain ⟨x, y, hx, hy, hxy, rfl, rfl⟩ := pair_iff.1 hP
    have hTV := R.tv x y hx hy
    have hT0 := hw.tk x y
    have k0 := hT0.k0; have k1 := hT0.kh; have k2 := hT0.hs; have k3 := hT0.sl
    clear hT0
    have e : openW w x y = (w.tk x y).said.length - (w.tk x y).known := by simp [openW, hP, opn]
    rw [e]
    have c1 := fun k => pair_ref R s1 (x : Int) (y : Int) k
    rw [hP] at c1
    have c2 := fun k => talk_ref R s1 hx hy k
    obtain ⟨pre, post, r1, r2, _⟩ := row_split T w hx hy
    have ts := R.ts
    rw [r1] at ts
    generalize (x * w.st + y) * 4 = o at *
    obtain ⟨nl, full, s, hT, hs⟩ := hTV
    rw [hT] at ts
    generalize (w.tk x y).said = L at *
    generalize (w.tk x y).known = kn at *
    generalize (w.tk x y).heard = hd at *
    generalize (w.tk x y).due = du at *
    have e0 := fun (L : List AV) => dropP0 (L := L) r2
    have e1 := fun (L : List AV) (j : Nat) => dropPj (L := L) (j := j) r2
    replace hs : Hide _ := hs; replace hT : Hide _ := hT; replace r1 : Hide _ := r1; replace e : Hide _ := e; replace hP : Hide _ := hP
    clear hx hy hxy
    repeat' (first | (refine ac_seq_h fun K hK => ?_) | (refine ac_region_h fun K hK => ?_; simp (disch := omega) [go_sem, *, Try.ntmps46 ]) | (refine ac_draw_h mixed (by kernel_rfl) fun K hK => ?_; simp (disch := omega) [go_sem, *, wrap64_id ]) | (apply Hide.out hK; clear hK K; try with_reducible dsimp only [thenA]) | (apply Hide.out ht; clear ht hf Kt Kf) | (apply Hide.out hf; clear ht hf Kt Kf) | (clear hK K; apply Hide.out hK; clear hK K; try with_reducible dsimp only [thenA]) | (clear hK K; clear hK K; apply Hide.out hK; clear hK K; try with_reducible dsimp only [thenA]) | (with_reducible refine APureAt.call (c1 _) ?_; try simp (disch := omega) [go_sem, * ]) | (with_reducible refine APureAt.call (c2 _) ?_; try simp (disch := omega) [go_sem, * ]) | (refine ac_block ?_) | (refine ac_skip ?_; simp only [thenA]) | (refine ac_exit ?_; simp only [thenA, blockA, if_true, if_false, Nat.reduceEqDiff]) | (with_reducible show nextK _ _ _ _ _ _ _; simp (disch := omega) [go_sem, *, wrap64_id, upd_ne, mk3_true, flatten_replicate_one, stepK_if, ilt_true, ilt_false, ile_true, ile_false, Try.ntmps46 ]) | (refine wantK_split (fun hc => ?_) (fun hc => ?_) <;> (try simp only [Bool.not_eq_true', Bool.not_eq_false', Bool.not_eq_eq_eq_not, Bool.not_true, Bool.not_false, decide_eq_true_eq, decide_eq_false_iff_not, Int.not_lt, Int.not_le] at hc) <;> (try (exfalso; omega)) <;> (try simp (disch := omega) [go_sem, *, wrap64_id, upd_ne, mk3_true, flatten_replicate_one, stepK_if, ilt_true, ilt_false, ile_true, ile_false, Try.ntmps46 ])) | (refine ac_cond_h fun Kt Kf ht hf => ?_; simp (disch := omega) [go_sem, * ]; try (refine ⟨fun hc => ?_, fun hc => ?_⟩ <;> try (exfalso; omega))))
    refine ac_ret ?_
    refine ⟨by simp, _, (by simp (disch := omega) [go_sem] <;> rfl), ?_⟩
    refine ret_id ⟨fun j hj => rfl, by simp [go_sem, below], by simp [go_sem], rfl, rfl⟩
theorem due_ref (R : RRep w p t V T h) (hw : Wok w) (a b : Int) (n : Nat) : APureAt Try.prog 41 [.ptr p 0, iv .i64 a, iv .i64 b] h n (.tup [iv .i64 (dueW w a b).1, bv (dueW w a b).2]) := by
  have s1 := hw.s1
  refine ACalls.pure (ACalls.entry (by kernel_rfl) fun hb _ => calls_of Try.func41 rfl (by kernel_rfl) (by simp [Try.ntmps41]) ?_)
  have c0 := fun k => open_ref R hw a b k
  by_cases ho : openW w a b = 0
  · rw [ho] at c0
    have e : dueW w a b = (0, false) := by
      unfold dueW; unfold openW at ho
      split
      · rename_i hP; rw [if_pos hP] at ho; rw [if_pos ho]
      · rfl
    rw [e]
    replace e : Hide _ := e; replace ho : Hide _ := ho
    repeat' (first | (refine ac_seq_h fun K hK => ?_) | (refine ac_region_h fun K hK => ?_; simp (disch := omega) [go_sem, *, Try.ntmps41 ]) | (refine ac_draw_h mixed (by kernel_rfl) fun K hK => ?_; simp (disch := omega) [go_sem, *, wrap64_id, upd_ne, mk3_true, flatten_replicate_one, stepK_if, ilt_true, ilt_false, ile_true, ile_false, Try.ntmps41 ]) | (apply Hide.out hK; clear hK K; try with_reducible dsimp only [thenA]) | (apply Hide.out ht; clear ht hf Kt Kf) | (apply Hide.out hf; clear ht hf Kt Kf) | (clear hK K; apply Hide.out hK; clear hK K; try with_reducible dsimp only [thenA]) | (clear hK K; clear hK K; apply Hide.out hK; clear hK K; try with_reducible dsimp only [thenA]) | (with_reducible refine APureAt.call (c0 _) ?_; try simp (disch := omega) [go_sem, * ]) | (refine ac_block ?_) | (refine ac_skip ?_; simp only [thenA, blockA]) | (refine ac_exit ?_; simp only [thenA, blockA, if_true, if_false, Nat.reduceEqDiff]) | (with_reducible show nextK _ _ _ _ _ _ _; simp (disch := omega) [go_sem, *, wrap64_id, upd_ne, mk3_true, flatten_replicate_one, stepK_if, ilt_true, ilt_false, ile_true, ile_false, Try.ntmps41 ]) | (refine wantK_split (fun hc => ?_) (fun hc => ?_) <;> (try simp only [Bool.not_eq_true', Bool.not_eq_false', Bool.not_eq_eq_eq_not, Bool.not_true, Bool.not_false, decide_eq_true_eq, decide_eq_false_iff_not, Int.not_lt, Int.not_le] at hc) <;> (try (exfalso; omega)) <;> (try simp (disch := omega) [go_sem, *, wrap64_id, upd_ne, mk3_true, flatten_replicate_one, stepK_if, ilt_true, ilt_false, ile_true, ile_false, Try.ntmps41 ])) | (refine ac_cond_h fun Kt Kf ht hf => ?_; simp (disch := omega) [go_sem, * ]; try (refine ⟨fun hc => ?_, fun hc => ?_⟩ <;> try (exfalso; omega))))
    refine ac_ret ?_
    refine ⟨by simp, _, (by simp (disch := omega) [go_sem] <;> rfl), ?_⟩
    refine ret_id ⟨fun j hj => rfl, by simp [go_sem, below, belowL], by simp [go_sem], rfl, rfl⟩
  · cases hP : isPair w a b
    · exfalso; apply ho; simp [openW, hP]
    obtain ⟨x, y, hx, hy, hxy, rfl, rfl⟩ := pair_iff.1 hP
    have ho2 : (openW w x y == 0) = false := by simpa using ho
    have ho3 : ¬ opn (w.tk x y) = 0 := by
      unfold openW at ho; rw [if_pos hP, Int.toNat_natCast, Int.toNat_natCast] at ho; exact ho
    have e : dueW w x y = ((w.tk x y).due, true) := by simp [dueW, hP, ho3]
    rw [e]
    have c2 := fun k => talk_ref R s1 hx hy k
    obtain ⟨pre, post, r1, r2, _⟩ := row_split T w hx hy
    have ts := R.ts
    rw [r1] at ts
    generalize (x * w.st + y) * 4 = o at *
    generalize openW w x y = O at *
    generalize (w.tk x y).known = kn at *
    generalize (w.tk x y).heard = hd at *
    generalize (w.tk x y).due = du at *
    have e1 := fun (L : List AV) (j : Nat) => dropPj (L := L) (j := j) r2
    replace r1 : Hide _ := r1; replace e : Hide _ := e; replace hP : Hide _ := hP; replace ho : Hide _ := ho; replace ho3 : Hide _ := ho3
    clear hx hy hxy
    repeat' (first | (refine ac_seq_h fun K hK => ?_) | (refine ac_region_h fun K hK => ?_; simp (disch := omega) [go_sem, *, Try.ntmps41 ]) | (refine ac_draw_h mixed (by kernel_rfl) fun K hK => ?_; simp (disch := omega) [go_sem, *, wrap64_id, upd_ne, mk3_true, flatten_replicate_one, stepK_if, ilt_true, ilt_false, ile_true, ile_false, Try.ntmps41 ]) | (apply Hide.out hK; clear hK K; try with_reducible dsimp only [thenA]) | (apply Hide.out ht; clear ht hf Kt Kf) | (apply Hide.out hf; clear ht hf Kt Kf) | (clear hK K; apply Hide.out hK; clear hK K; try with_reducible dsimp only [thenA]) | (clear hK K; clear hK K; apply Hide.out hK; clear hK K; try with_reducible dsimp only [thenA]) | (with_reducible refine APureAt.call (c0 _) ?_; try simp (disch := omega) [go_sem, * ]) | (with_reducible refine APureAt.call (c2 _) ?_; try simp (disch := omega) [go_sem, * ]) | (refine ac_block ?_) | (refine ac_skip ?_; simp only [thenA]) | (refine ac_exit ?_; simp only [thenA, blockA, if_true, if_false, Nat.reduceEqDiff]) | (with_reducible show nextK _ _ _ _ _ _ _; simp (disch := omega) [go_sem, *, wrap64_id, upd_ne, mk3_true, flatten_replicate_one, stepK_if, ilt_true, ilt_false, ile_true, ile_false, Try.ntmps41 ]) | (refine wantK_split (fun hc => ?_) (fun hc => ?_) <;> (try simp only [Bool.not_eq_true', Bool.not_eq_false', Bool.not_eq_eq_eq_not, Bool.not_true, Bool.not_false, decide_eq_true_eq, decide_eq_false_iff_not, Int.not_lt, Int.not_le] at hc) <;> (try (exfalso; omega)) <;> (try simp (disch := omega) [go_sem, *, wrap64_id, upd_ne, mk3_true, flatten_replicate_one, stepK_if, ilt_true, ilt_false, ile_true, ile_false, Try.ntmps41 ])) | (refine ac_cond_h fun Kt Kf ht hf => ?_; simp (disch := omega) [go_sem, * ]; try (refine ⟨fun hc => ?_, fun hc => ?_⟩ <;> try (exfalso; omega))))
    refine ac_ret ?_
    refine ⟨by simp, _, (by simp (disch := omega) [go_sem] <;> rfl), ?_⟩
    refine ret_id ⟨fun j hj => rfl, by simp [go_sem, below, belowL], by simp [go_sem], rfl, rfl⟩
theorem heard_ref (R : RRep w p t V T h) (hw : Wok w) (a b : Int) : ∃ X, TextsV (heardW w a b) X ∧ ∀ n, APureAt Try.prog 45 [.ptr p 0, iv .i64 a, iv .i64 b] h n X := by
  have s1 := hw.s1
  cases hP : isPair w a b
  · refine ⟨.fslc true true 0 [], ⟨true, true, 0, by simp [heardW, pair_sym, hP], by simp [heardW, pair_sym, hP]⟩, fun n => ?_⟩
    refine ACalls.pure (ACalls.entry (by kernel_rfl) fun hb _ => calls_of Try.func45 rfl (by kernel_rfl) (by simp [Try.ntmps45]) ?_)
    have c1 := fun k => pair_ref R s1 a b k
    rw [hP] at c1
    replace hP : Hide _ := hP
    repeat' (first | (refine ac_seq_h fun K hK => ?_) | (refine ac_region_h fun K hK => ?_; simp (disch := omega) [go_sem, *, Try.ntmps45 ]) | (refine ac_draw_h mixed (by kernel_rfl) fun K hK => ?_; simp (disch := omega) [go_sem, *, wrap64_id, upd_ne, mk3_true, flatten_replicate_one, stepK_if, ilt_true, ilt_false, ile_true, ile_false, Try.ntmps45 ]) | (apply Hide.out hK; clear hK K; try with_reducible dsimp only [thenA]) | (apply Hide.out ht; clear ht hf Kt Kf) | (apply Hide.out hf; clear ht hf Kt Kf) | (clear hK K; apply Hide.out hK; clear hK K; try with_reducible dsimp only [thenA]) | (clear hK K; clear hK K; apply Hide.out hK; clear hK K; try with_reducible dsimp only [thenA]) | (with_reducible refine APureAt.call (c1 _) ?_; try simp (disch := omega) [go_sem, * ]) | (refine ac_block ?_) | (refine ac_skip ?_; simp only [thenA, blockA]) | (refine ac_exit ?_; simp only [thenA, blockA, if_true, if_false, Nat.reduceEqDiff]) | (with_reducible show nextK _ _ _ _ _ _ _; simp (disch := omega) [go_sem, *, wrap64_id, upd_ne, mk3_true, flatten_replicate_one, stepK_if, ilt_true, ilt_false, ile_true, ile_false, Try.ntmps45 ]) | (refine wantK_split (fun hc => ?_) (fun hc => ?_) <;> (try simp only [Bool.not_eq_true', Bool.not_eq_false', Bool.not_eq_eq_eq_not, Bool.not_true, Bool.not_false, decide_eq_true_eq, decide_eq_false_iff_not, Int.not_lt, Int.not_le] at hc) <;> (try (exfalso; omega)) <;> (try simp (disch := omega) [go_sem, *, wrap64_id, upd_ne, mk3_true, flatten_replicate_one, stepK_if, ilt_true, ilt_false, ile_true, ile_false, Try.ntmps45 ])) | (refine ac_cond_h fun Kt Kf ht hf => ?_; simp (disch := omega) [go_sem, * ]; try (refine ⟨fun hc => ?_, fun hc => ?_⟩ <;> try (exfalso; omega))))
    refine ac_ret ?_
    refine ⟨by simp, _, (by simp (disch := omega) [go_sem] <;> rfl), ?_⟩
    refine ret_id ⟨fun j hj => rfl, by simp [go_sem, below, belowL], by simp [go_sem], rfl, rfl⟩
  · obtain ⟨x, y, hx, hy, hxy, rfl, rfl⟩ := pair_iff.1 hP
    have hTV := R.tv y x hy hx
    have hT0 := hw.tk y x
    have k0 := hT0.k0; have k1 := hT0.kh; have k2 := hT0.hs; have k3 := hT0.sl
    clear hT0
    have e : heardW w x y = (w.tk y x).said.take (w.tk y x).heard.toNat := by simp [heardW, pair_sym, hP]
    obtain ⟨nl, full, s, hT, hs⟩ := hTV
    refine ⟨.fslc nl (full && decide ((w.tk y x).heard = (w.tk y x).said.length)) s (((w.tk y x).said.map sv).take (w.tk y x).heard.toNat), ?_, fun n => ?_⟩
    · rw [e]
      refine ⟨nl, _, s, by rw [List.map_take], fun hne => hs fun e2 => hne (by rw [e2]; simp)⟩
    refine ACalls.pure (ACalls.entry (by kernel_rfl) fun hb _ => calls_of Try.func45 rfl (by kernel_rfl) (by simp [Try.ntmps45]) ?_)
    have c1 := fun k => pair_ref R s1 (x : Int) (y : Int) k
    rw [hP] at c1
    have c2 := fun k => talk_ref R s1 hy hx k
    obtain ⟨pre, post, r1, r2, _⟩ := row_split T w hy hx
    have ts := R.ts
    rw [r1] at ts
    generalize (y * w.st + x) * 4 = o at *
    rw [hT] at ts
    generalize (w.tk y x).said = L at *
    generalize (w.tk y x).known = kn at *
    generalize (w.tk y x).heard = hd at *
    generalize (w.tk y x).due = du at *
    have hbl : below n (.fslc nl (full && decide (hd = L.length)) s ((L.map sv).take hd.toNat)) := by
      have : ∀ K : List ByteArray, belowL n (K.map sv) := by
        intro K
        induction K with
        | nil => simp [belowL]
        | cons x r ih => rw [List.map_cons, belowL]; exact ⟨by simp [below], ih⟩
      have h9 := this (L.take hd.toNat)
      rw [List.map_take] at h9
      exact (by simp only [below]; exact h9)
    have e0 := fun (L : List AV) => dropP0 (L := L) r2
    have e1 := fun (L : List AV) (j : Nat) => dropPj (L := L) (j := j) r2
    have hsl : (1 = s ∨ L.length = 0) := by
      by_cases h0 : L = []
      · right; simp [h0]
      · left; exact (hs h0).symm
    have hsl2 : (1 = s ∨ L = []) := by
      by_cases h0 : L = []
      · right; exact h0
      · left; exact (hs h0).symm
    replace hs : Hide _ := hs; replace hT : Hide _ := hT; replace r1 : Hide _ := r1; replace e : Hide _ := e; replace hP : Hide _ := hP; replace hbl : Hide _ := hbl
    clear hx hy hxy
    have h0 : 0 ≤ hd := by omega
    repeat' (first | (refine ac_seq_h fun K hK => ?_) | (refine ac_region_h fun K hK => ?_; simp (disch := omega) [go_sem, *, Try.ntmps45 ]) | (refine ac_draw_h mixed (by kernel_rfl) fun K hK => ?_; simp (disch := omega) [go_sem, * ]) | (apply Hide.out hK; clear hK K; try with_reducible dsimp only [thenA]) | (apply Hide.out ht; clear ht hf Kt Kf) | (apply Hide.out hf; clear ht hf Kt Kf) | (clear hK K; apply Hide.out hK; clear hK K; try with_reducible dsimp only [thenA]) | (clear hK K; clear hK K; apply Hide.out hK; clear hK K; try with_reducible dsimp only [thenA]) | (with_reducible refine APureAt.call (c1 _) ?_; try simp (disch := omega) [go_sem, * ]) | (with_reducible refine APureAt.call (c2 _) ?_; try simp (disch := omega) [go_sem, * ]) | (refine ac_block ?_) | (refine ac_skip ?_; simp only [thenA]) | (refine ac_exit ?_; simp only [thenA, blockA, if_true, if_false, Nat.reduceEqDiff]) | (with_reducible show nextK _ _ _ _ _ _ _; simp (disch := omega) [go_sem, *, wrap64_id, upd_ne, mk3_true, flatten_replicate_one, stepK_if, ilt_true, ilt_false, ile_true, ile_false, Try.ntmps45 ]) | (refine wantK_split (fun hc => ?_) (fun hc => ?_) <;> (try simp only [Bool.not_eq_true', Bool.not_eq_false', Bool.not_eq_eq_eq_not, Bool.not_true, Bool.not_false, decide_eq_true_eq, decide_eq_false_iff_not, Int.not_lt, Int.not_le] at hc) <;> (try (exfalso; omega)) <;> (try simp (disch := omega) [go_sem, *, wrap64_id, upd_ne, mk3_true, flatten_replicate_one, stepK_if, ilt_true, ilt_false, ile_true, ile_false, Try.ntmps45 ])) | (refine ac_cond_h fun Kt Kf ht hf => ?_; simp (disch := omega) [go_sem, * ]; try (refine ⟨fun hc => ?_, fun hc => ?_⟩ <;> try (exfalso; omega))))
    refine ac_ret ?_
    refine ⟨by simp, _, (by simp (disch := omega) [go_sem] <;> rfl), ?_⟩
    refine ret_id ⟨fun j hj => rfl, by first | exact hbl.out | (simp only [go_sem]; exact hbl.out), by simp [go_sem], rfl, rfl⟩
end
end Go.AM

namespace Go.AM
open Go.Proofs Wl
set_option maxRecDepth 10000
set_option maxHeartbeats 4000000
/-- what a clone of a list is: a row of its own, or none -/
def bV (s m : Nat) (L : List AV) : AV := if L = [] then .fslc false true s [] else .slc m 0 L.length s
theorem bV_nil (s m : Nat) : bV s m [] = .fslc false true s [] := rfl
theorem bV_ne {s m : Nat} {L : List AV} (h : L ≠ []) : bV s m L = .slc m 0 L.length s := by rw [bV, if_neg h]
theorem ap_clo {P : Program} {T e s by_ : Nat} {z : AV} (e1 : eltOf P T = some e) (e2 : szOf P e = some s) (e3 : byOf P e = some by_) (e4 : zerOf P e = some z) (hz : 0 < s ∧ (cellsOf z).length = s ∧ (cellsOf z).all AV.scalar = true ∧ by_ ≤ 2 ^ 20)
    {nm s' : Nat} {L : List AV} {nl full : Bool} {h : AHeap} (hs : L ≠ [] → s' = s) (hn : h nm = none) (hl : L.length ≤ 67108864) : aAppend P nm T (.fslc false true s []) (.fslc nl full s' L) h = some (bV s nm L, h.upd nm (acO L)) := by
  have e26 : (2 : Nat) ^ 26 = 67108864 := by decide
  unfold aAppend
  rw [e1]; simp only [e2, e3, e4]
  rw [if_pos hz]
  have hf : flat [] = [] := rfl
  by_cases h0 : L = []
  · subst h0
    rw [show acO [] = none from rfl, upd_none_eq hn, bV_nil]
    by_cases c : s' = s
    · simp [srcCells, c]
    · have : srcCells h s (.fslc nl full s' []) = some (0, []) := by simp [srcCells, c]
      rw [this]; simp
  · obtain rfl := hs h0
    have h1 : L.length ≠ 0 := by simpa using h0
    have h2 : L.length ≤ 2 ^ 26 := by rw [e26]; exact hl
    rw [bV_ne h0, acO_ne h0]
    simp [srcCells, h0, hl, hf]
theorem ap_clo2 {P : Program} {T e s by_ : Nat} {z : AV} (e1 : eltOf P T = some e) (e2 : szOf P e = some s) (e3 : byOf P e = some by_) (e4 : zerOf P e = some z) (hz : 0 < s ∧ (cellsOf z).length = s ∧ (cellsOf z).all AV.scalar = true ∧ by_ ≤ 2 ^ 20)
    {nm m : Nat} {L X : List AV} {nl full : Bool} {h : AHeap} (hm : h m = acO L) (hL : ∀ x ∈ L, (cellsOf x).length = s) (hX : X ≠ []) (hl : L.length + X.length ≤ 67108864) :
    aAppend P nm T (bV s m L) (.fslc nl full s X) h = some (acV s nm (L ++ X), (h.upd m none).upd nm (acO (L ++ X))) := by
  by_cases h0 : L = []
  · subst h0
    have e26 : (2 : Nat) ^ 26 = 67108864 := by decide
    have hm' : h m = none := hm
    rw [upd_none_eq hm', bV_nil, List.nil_append, acV_ne hX, acO_ne hX]
    have hX0 : X.length ≠ 0 := by simpa using hX
    have hX1 : X.length ≤ 2 ^ 26 := by rw [e26]; simpa using hl
    have hX2 : X.length ≤ 67108864 := by simpa using hl
    have hf : flat [] = [] := rfl
    unfold aAppend
    rw [e1]; simp only [e2, e3, e4]
    rw [if_pos hz]
    simp [srcCells, hX, hX2, hf]
  · have := ap_ac e1 e2 e3 e4 hz (nm := nm) (nl := nl) (full := full) hm hL hX hl
    rw [acV_ne h0] at this
    rw [bV_ne h0]; exact this
theorem ap_clo3 {P : Program} {T e s by_ : Nat} {z : AV} (e1 : eltOf P T = some e) (e2 : szOf P e = some s) (e3 : byOf P e = some by_) (e4 : zerOf P e = some z) (hz : 0 < s ∧ (cellsOf z).length = s ∧ (cellsOf z).all AV.scalar = true ∧ by_ ≤ 2 ^ 20)
    {nm m s' : Nat} {L : List AV} {nl full : Bool} {h : AHeap} (hm : h m = acO L) (hL : ∀ x ∈ L, (cellsOf x).length = s) :
    aAppend P nm T (bV s m L) (.fslc nl full s' []) h = some (bV s m L, h) := by
  have hsr : srcCells h s (.fslc nl full s' []) = some (0, []) := by
    by_cases c : s' = s <;> simp [srcCells, c, flat]
  unfold aAppend
  rw [e1]; simp only [e2, e3, e4]
  rw [if_pos hz, hsr]
  by_cases h0 : L = []
  · subst h0; rw [bV_nil]; simp
  · rw [bV_ne h0]
    rw [acO_ne h0] at hm
    have hfl := flat_len hL
    have hu : h.upd m (some (.cells (flat L))) = h := by
      funext k; by_cases e : k = m
      · subst e; rw [upd_same, hm]
      · rw [upd_ne _ _ _ _ e]
    simp [hm, hfl, splice, hu]
section
variable {w : Wd} {p t : Nat} {V : AV} {T : Nat → Nat → AV} {h : AHeap}
theorem send_ref (R : RRep w p t V T h) (hl : w.mails.length ≤ 199) (h0 : 0 ≤ w.last) (h1 : w.last ≤ 1000000000000) (m : Mail) (n : Nat) (hpn : p < n) (htn : t < n) (K0 : AV → AHeap → Nat → Prop)
    (hK0 : ∀ h' n', RTurn (putW w [m]) p t h n h' n' → K0 (.tup []) h' n') : ACalls Try.prog 38 [.ptr p 0, encMail m] h n K0 := by
  refine ACalls.entry (by kernel_rfl) fun hb _ => calls_of Try.func38 rfl (by kernel_rfl) (by simp [Try.ntmps38]) ?_
  have hd := R.hd
  have hne := R.ne
  obtain ⟨mi, mk, mf, mt, mn, mx⟩ := m
  obtain ⟨v1, v2, v3, rfl, hv⟩ := R.mv
  replace hK0 : Hide _ := hK0
  obtain ⟨L, hLe⟩ : ∃ L, Hide (L = w.mails) := ⟨_, rfl⟩
  rw [← hLe.out] at hl hv hd
  rw [← hLe.out] at R
  replace R : Hide _ := R; replace hv : Hide _ := hv
  repeat' (first | (refine ac_seq_h fun K hK => ?_) | (refine ac_region_h fun K hK => ?_; simp (disch := omega) [go_sem, *, wrap64_id, upd_ne, Try.ntmps38]) | (apply Hide.out hK; clear hK K; try with_reducible dsimp only [thenA]) | (apply Hide.out ht; clear ht hf Kt Kf) | (apply Hide.out hf; clear ht hf Kt Kf) | (clear hK K; apply Hide.out hK; clear hK K; try with_reducible dsimp only [thenA]) | (clear hK K; clear hK K; apply Hide.out hK; clear hK K; try with_reducible dsimp only [thenA]) | (refine ac_block ?_) | (refine ac_skip ?_; simp only [thenA, blockA]) | (refine ac_exit ?_; simp only [thenA, blockA, if_true, if_false, Nat.reduceEqDiff]) | (with_reducible show nextK _ _ _ _ _ _ _; simp (disch := omega) [go_sem, *, wrap64_id, upd_ne, mk3_true, flatten_replicate_one, stepK_if, ilt_true, ilt_false, ile_true, ile_false, Try.ntmps38]) | (refine wantK_split (fun hc => ?_) (fun hc => ?_) <;> (try simp only [Bool.not_eq_true', Bool.not_eq_false', Bool.not_eq_eq_eq_not, Bool.not_true, Bool.not_false, decide_eq_true_eq, decide_eq_false_iff_not, Int.not_lt, Int.not_le] at hc) <;> (try (exfalso; omega)) <;> (try simp (disch := omega) [go_sem, *, wrap64_id, upd_ne, mk3_true, flatten_replicate_one, stepK_if, ilt_true, ilt_false, ile_true, ile_false, Try.ntmps38])) | (refine ac_cond_h fun Kt Kf ht hf => ?_; simp (disch := omega) [go_sem, *, wrap64_id, upd_ne, mk3_true, flatten_replicate_one, stepK_if, ilt_true, ilt_false, ile_true, ile_false, Try.ntmps38]; try (refine ⟨fun hc => ?_, fun hc => ?_⟩ <;> try (exfalso; omega))))
  refine ac_fzbox (m := n) (t := 3) (c := [iv .i64 (w.last + 1), iv .i64 mk, iv .i64 mf, iv .i64 mt, iv .i64 mn, sv mx]) (by simp (disch := omega) only [upd_ne, upd_same]) (by simp [go_sem]) ?_
  refine ac_draw3_h [3] mixed (by kernel_rfl) (fun x hx => by simp at hx; subst hx; exact ⟨_, by simp [go_sem]; rfl⟩) fun K2 hK2 => ?_
  simp (disch := omega) [go_sem, *, upd_ne]
  refine ap_done (ap_clo ty32.1 ty32.2.1 ty32.2.2.1 ty32.2.2.2 (by simp [cellsOf, AV.scalar]) (fun hx => hv.out (by intro e; rw [e] at hx; exact hx rfl)) ?_ (by rw [List.length_map]; omega)) ?_
  · simp (disch := omega) only [upd_ne]; exact hb.none (by omega)
  simp (disch := omega) [go_sem, *]
  refine ap_done (ap_clo2 ty32.1 ty32.2.1 ty32.2.2.1 ty32.2.2.2 (by simp [cellsOf, AV.scalar]) (by simp only [upd_same]) (fun x hx => by obtain ⟨m, _, rfl⟩ := List.mem_map.1 hx; rfl) (by simp) (by simp; omega)) ?_
  rw [acV_ne (by simp)]
  simp (disch := omega) [go_sem, *, upd_ne]
  refine hK2.out _ ?_
  clear hK2 K2
  dsimp only
  refine ⟨by simp, _, (by simp (disch := omega) [go_sem] <;> rfl), ?_⟩
  refine ret_fzcell (n + 1 + 6 + 9 + 9) p true (by omega) (by simp (disch := omega) only [upd_ne, upd_same]; exact acO_ne (by simp)) (upd_same _ _ _) ?_
  have htm : ¬ t = n + 1 + 6 + 9 + 9 := by omega
  have hputm : (putW w [⟨mi, mk, mf, mt, mn, mx⟩]).mails = L ++ [⟨w.last + 1, mk, mf, mt, mn, mx⟩] := by
    simp only [putW, ← hLe.out, room]
    rw [List.take_of_length_le (by simp; omega)]; rfl
  have hputl : (putW w [⟨mi, mk, mf, mt, mn, mx⟩]).last = w.last + 1 := by
    simp only [putW, ← hLe.out, room]
    rw [List.take_of_length_le (by simp; omega)]; rfl
  have hfl := mails_len (L ++ [⟨w.last + 1, mk, mf, mt, mn, mx⟩])
  have hel := elems_mails (L ++ [⟨w.last + 1, mk, mf, mt, mn, mx⟩])
  simp only [List.map_append, List.map_cons, List.map_nil, List.length_append, List.length_map, List.length_cons, List.length_nil, Nat.zero_add] at hfl hel
  refine ret_id (hK0.out _ _ ⟨.fslc false false 6 ((L ++ [(⟨w.last + 1, mk, mf, mt, mn, mx⟩ : Mail)]).map encMail), T, ⟨?_, ?_, R.out.tv, ?_, R.out.ne⟩, by omega, fun k hk h1 h2 => ?_⟩)
  · rw [upd_same, hputl]
    have e1 : ∀ M : Mail, M = ⟨w.last + 1, mk, mf, mt, mn, mx⟩ → fzDL (n + 1 + 6 + 9 + 9) (flat (L.map encMail ++ [encMail M])) true [iv .i64 w.st, iv .i64 w.wait, iv .i64 w.tick, iv .i64 (w.last + 1 + 1), .slc t 0 (w.st * w.st) 4, .slc (n + 1 + 6 + 9 + 9) 0 (L.length + 1) 6] = [iv .i64 w.st, iv .i64 w.wait, iv .i64 w.tick, iv .i64 (w.last + 1 + 1), .slc t 0 (w.st * w.st) 4, .fslc false false 6 ((L ++ [M]).map encMail)] := by
      intro M hM
      rw [← hM] at hel hfl
      simp only [fzDL, fzD]
      rw [if_neg (fun h => htm h.1), if_pos ⟨trivial, by rw [hfl]; omega, fun h => by cases h⟩, List.drop_zero, hel, List.map_append]; rfl
    replace e1 := e1 _ rfl
    exact congrArg (fun z => some (AObj.cells z)) e1
  · show MailsV (putW w [⟨mi, mk, mf, mt, mn, mx⟩]).mails _
    rw [hputm]; exact ⟨false, false, 6, rfl, fun _ => rfl⟩
  · have hts := R.out.ts
    have hne' : t ≠ p := fun e => R.out.ne e.symm
    simp (disch := omega) only [upd_ne]
    exact hts
  · simp (disch := omega) only [upd_ne]
end
end Go.AM

namespace Go.AM
open Go.Proofs Wl
set_option maxRecDepth 10000
set_option maxHeartbeats 4000000
theorem fz_head {m t k : Nat} {a b c d : AV} (ha : cellsOf a = [a] ∧ ∀ x y z, fzD x y z a = a) (hb : ∀ x y z, fzD x y z b = b) (hc : ∀ x y z, fzD x y z c = c) (hd : ∀ x y z, fzD x y z d = d) (hmt : t ≠ m) (L : List Mail) :
    fzDL m (flat (L.map encMail)) true [a, b, c, d, .slc t 0 k 4, .slc m 0 L.length 6] = [a, b, c, d, .slc t 0 k 4, .fslc false false 6 (L.map encMail)] := by
  have hfl := mails_len L
  have hel := elems_mails L
  rw [List.length_map] at hel
  simp only [fzDL, ha.2, hb, hc, hd]
  simp only [fzD]
  rw [if_neg (fun h => hmt h.1), if_pos ⟨trivial, by rw [hfl]; omega, fun h => by cases h⟩, List.drop_zero, hel]
theorem fz_iv (k : IntKind) (i : Int) : cellsOf (iv k i) = [iv k i] ∧ ∀ x y z, fzD x y z (iv k i) = iv k i := ⟨rfl, fun _ _ _ => by simp only [fzD]⟩
section
variable {w : Wd} {p t : Nat} {V : AV} {T : Nat → Nat → AV} {h : AHeap}
theorem take_ref (R : RRep w p t V T h) (hl : w.mails.length ≤ 200) {i : Nat} {m : Mail} (hm : w.mails[i]? = some m) (n : Nat) (hpn : p < n) (htn : t < n) (K0 : AV → AHeap → Nat → Prop)
    (hK0 : ∀ h' n', RTurn { w with mails := w.mails.eraseIdx i } p t h n h' n' → K0 (encMail m) h' n') : ACalls Try.prog 39 [.ptr p 0, iv .i64 i] h n K0 := by
  refine ACalls.entry (by kernel_rfl) fun hb _ => calls_of Try.func39 rfl (by kernel_rfl) (by simp [Try.ntmps39]) ?_
  have hd := R.hd
  have hne := R.ne
  obtain ⟨mi, mk, mf, mt, mn, mx⟩ := m
  obtain ⟨v1, v2, v3, rfl, hv⟩ := R.mv
  replace hK0 : Hide _ := hK0
  obtain ⟨L, hLe⟩ : ∃ L, Hide (L = w.mails) := ⟨_, rfl⟩
  rw [← hLe.out] at hl hv hd hm
  rw [← hLe.out] at R
  have hlt := (List.getElem?_eq_some_iff.1 hm).1
  have hge := (List.getElem?_eq_some_iff.1 hm).2
  obtain rfl := hv (by intro e; rw [e] at hlt; simp at hlt)
  replace R : Hide _ := R; replace hv : Hide _ := hv; replace hm : Hide _ := hm
  repeat' (first | (refine ac_seq_h fun K hK => ?_) | (refine ac_region_h fun K hK => ?_; simp (disch := omega) [go_sem, *, upd_ne, ile_true, Try.ntmps39]) | (apply Hide.out hK; clear hK K; try with_reducible dsimp only [thenA]) | (apply Hide.out ht; clear ht hf Kt Kf) | (apply Hide.out hf; clear ht hf Kt Kf) | (clear hK K; apply Hide.out hK; clear hK K; try with_reducible dsimp only [thenA]) | (clear hK K; clear hK K; apply Hide.out hK; clear hK K; try with_reducible dsimp only [thenA]) | (refine ac_block ?_) | (refine ac_skip ?_; simp only [thenA, blockA]) | (refine ac_exit ?_; simp only [thenA, blockA, if_true, if_false, Nat.reduceEqDiff]) | (with_reducible show nextK _ _ _ _ _ _ _; simp (disch := omega) [go_sem, *, wrap64_id, upd_ne, mk3_true, flatten_replicate_one, stepK_if, ilt_true, ilt_false, ile_true, ile_false, Try.ntmps39]) | (refine wantK_split (fun hc => ?_) (fun hc => ?_) <;> (try simp only [Bool.not_eq_true', Bool.not_eq_false', Bool.not_eq_eq_eq_not, Bool.not_true, Bool.not_false, decide_eq_true_eq, decide_eq_false_iff_not, Int.not_lt, Int.not_le] at hc) <;> (try (exfalso; omega)) <;> (try simp (disch := omega) [go_sem, *, wrap64_id, upd_ne, mk3_true, flatten_replicate_one, stepK_if, ilt_true, ilt_false, ile_true, ile_false, Try.ntmps39])) | (refine ac_cond_h fun Kt Kf ht hf => ?_; simp (disch := omega) [go_sem, *, wrap64_id, upd_ne, mk3_true, flatten_replicate_one, stepK_if, ilt_true, ilt_false, ile_true, ile_false, Try.ntmps39]; try (refine ⟨fun hc => ?_, fun hc => ?_⟩ <;> try (exfalso; omega))))
  refine ac_chain [8, 16, 19] (fun h' => h' p = some (.cells [iv .i64 w.st, iv .i64 w.wait, iv .i64 w.tick, iv .i64 (w.last + 1), .slc t 0 (w.st * w.st) 4, .fslc v1 v2 6 (L.map encMail)])) mixed (by kernel_rfl) ?_ ?_
  · simp (disch := omega) only [upd_ne]; exact hd
  rw [List.toList_toArray]
  have hi1 : (i : Int) ≤ L.length := by omega
  have hi2 : (0 : Int) ≤ i := by omega
  have hi3 : (i : Int) + 1 ≤ L.length := by omega
  have hi4 : (0 : Int) ≤ (i : Int) + 1 := by omega
  have hi5 : ((i : Int) + 1).toNat = i + 1 := by omega
  have htk : List.take L.length (List.map encMail L) = L.map encMail := List.take_of_length_le (by simp)
  have hfr : Hide (∀ k, n ≤ k → h k = none) := fun k hk => hb.none hk
  have hE : Hide ((L.eraseIdx i).map encMail = (L.map encMail).take i ++ (L.map encMail).drop (i + 1)) := by
    show (L.eraseIdx i).map encMail = _
    rw [List.eraseIdx_eq_take_drop_succ, List.map_append, List.map_take, List.map_drop]
  have hlen2 : (L.eraseIdx i).length = L.length - 1 := by rw [List.length_eraseIdx, if_pos hlt]
  have hall : Hide (∀ x ∈ L.map encMail, (cellsOf x).length = 6) := fun x hx => by obtain ⟨m, _, rfl⟩ := List.mem_map.1 hx; rfl
  obtain ⟨A, hA⟩ : ∃ A, Hide (A = (L.map encMail).take i) := ⟨_, rfl⟩
  obtain ⟨B, hB⟩ : ∃ B, Hide (B = (L.map encMail).drop (i + 1)) := ⟨_, rfl⟩
  have hA2 : Hide (∀ x ∈ A, (cellsOf x).length = 6) := fun x hx => by rw [hA.out] at hx; exact hall.out x (List.mem_of_mem_take hx)
  have hAl : A.length ≤ 200 := by rw [hA.out, List.length_take, List.length_map]; omega
  have hBl : B.length ≤ 200 := by rw [hB.out, List.length_drop, List.length_map]; omega
  have hA3 : List.take i (List.map encMail L) = A := hA.out.symm
  have hB3 : List.drop (i + 1) (List.map encMail L) = B := hB.out.symm
  rw [hA3, hB3] at hE
  by_cases hBn : B ≠ []
  · have hABn : A ++ B ≠ [] := by simp [hBn]
    repeat' (first | (refine aC_q rfl (by decide) rfl (fun h' hh => by (simp (disch := omega) [go_sem, fVal, *] <;> rfl)) ?_; simp only [pS_some, Nat.reduceAdd]))
    refine aC_e rfl (by decide) rfl (by simp (disch := omega) [go_sem, fVal, *]; exact ap_clo ty32.1 ty32.2.1 ty32.2.2.1 ty32.2.2.2 (by simp [cellsOf, AV.scalar]) (fun _ => rfl) (by simp (disch := omega) only [upd_ne]; exact hfr.out _ (by omega)) (by omega)) (.inr (by simp (disch := omega) only [upd_ne]; exact hd)) ?_
    simp only [pS_some, Nat.reduceAdd]
    repeat' (first | (refine aC_q rfl (by decide) rfl (fun h' hh => by (simp (disch := omega) [go_sem, fVal, wrap64_id, *] <;> rfl)) ?_; simp only [pS_some, Nat.reduceAdd]))
    refine aC_e rfl (by decide) rfl (by simp (disch := omega) [go_sem, fVal, *]; exact (ap_clo2 ty32.1 ty32.2.1 ty32.2.2.1 ty32.2.2.2 (by simp [cellsOf, AV.scalar]) (upd_same _ _ _) hA2.out hBn (by omega)).trans (by rw [acV_ne hABn])) (.inr (by simp (disch := omega) only [upd_ne]; exact hd)) ?_
    simp only [pS_some, Nat.reduceAdd]
    repeat' (first | (refine aC_q rfl (by decide) rfl (fun h' hh => by (simp (disch := omega) [go_sem, fVal, *] <;> rfl)) ?_; simp only [pS_some, Nat.reduceAdd]))
    refine aC_e rfl (by decide) rfl (by simp (disch := omega) [go_sem, fVal, upd_ne, *] <;> exact ⟨rfl, rfl⟩) (.inl rfl) ?_
    simp only [pS_none, Nat.reduceAdd]
    refine aC_end ?_
    refine hK.out _ ?_
    clear hK K
    try dsimp only [thenA]
    repeat' (first | (refine ac_seq_h fun K hK => ?_) | (refine ac_region_h fun K hK => ?_; simp (disch := omega) [go_sem, *, upd_ne]) | (refine ac_draw_h mixed (by kernel_rfl) fun K hK => ?_; simp (disch := omega) [go_sem, *, wrap64_id, upd_ne, mk3_true, flatten_replicate_one, stepK_if, ilt_true, ilt_false, ile_true, ile_false, Try.ntmps39]) | (apply Hide.out hK; clear hK K; try with_reducible dsimp only [thenA]) | (apply Hide.out ht; clear ht hf Kt Kf) | (apply Hide.out hf; clear ht hf Kt Kf) | (clear hK K; apply Hide.out hK; clear hK K; try with_reducible dsimp only [thenA]) | (clear hK K; clear hK K; apply Hide.out hK; clear hK K; try with_reducible dsimp only [thenA]) | (refine ac_block ?_) | (refine ac_skip ?_; simp only [thenA, blockA]) | (refine ac_exit ?_; simp only [thenA, blockA, if_true, if_false, Nat.reduceEqDiff]) | (with_reducible show nextK _ _ _ _ _ _ _; simp (disch := omega) [go_sem, *, wrap64_id, upd_ne, mk3_true, flatten_replicate_one, stepK_if, ilt_true, ilt_false, ile_true, ile_false, Try.ntmps39]) | (refine wantK_split (fun hc => ?_) (fun hc => ?_) <;> (try simp only [Bool.not_eq_true', Bool.not_eq_false', Bool.not_eq_eq_eq_not, Bool.not_true, Bool.not_false, decide_eq_true_eq, decide_eq_false_iff_not, Int.not_lt, Int.not_le] at hc) <;> (try (exfalso; omega)) <;> (try simp (disch := omega) [go_sem, *, wrap64_id, upd_ne, mk3_true, flatten_replicate_one, stepK_if, ilt_true, ilt_false, ile_true, ile_false, Try.ntmps39])) | (refine ac_cond_h fun Kt Kf ht hf => ?_; simp (disch := omega) [go_sem, *, wrap64_id, upd_ne, mk3_true, flatten_replicate_one, stepK_if, ilt_true, ilt_false, ile_true, ile_false, Try.ntmps39]; try (refine ⟨fun hc => ?_, fun hc => ?_⟩ <;> try (exfalso; omega))))
    refine ac_ret ?_
    refine ⟨by simp, _, (by simp (disch := omega) [go_sem] <;> rfl), ?_⟩
    refine ret_fzcell (n + 1 + 9 + 16) p true (by omega) (by simp (disch := omega) only [upd_ne, upd_same]; exact acO_ne hABn) (by simp (disch := omega) only [upd_ne]; exact upd_same _ _ _) ?_
    refine ret_id (hK0.out _ _ ⟨.fslc false false 6 ((L.eraseIdx i).map encMail), T, ⟨?_, ?_, R.out.tv, ?_, R.out.ne⟩, (by dsimp only; omega), fun k hk h1 h2 => ?_⟩)
    · rw [upd_same]
      have hz := fz_head (m := n + 1 + 9 + 16) (t := t) (k := w.st * w.st) (fz_iv .i64 w.st) (fz_iv .i64 w.wait).2 (fz_iv .i64 w.tick).2 (fz_iv .i64 (w.last + 1)).2 (by omega) (L.eraseIdx i)
      rw [hE.out, hlen2] at hz
      rw [hE.out]
      have hl8 : A.length + B.length = L.length - 1 := by
        have := congrArg List.length hE.out
        rw [List.length_map, hlen2] at this
        simp at this; omega
      rw [hl8]
      exact congrArg (fun z => some (AObj.cells z)) hz
    · show MailsV (w.mails.eraseIdx i) _
      rw [← hLe.out]
      exact ⟨false, false, 6, rfl, fun _ => rfl⟩
    · have hts := R.out.ts
      have hne' : t ≠ p := fun e => R.out.ne e.symm
      simp (disch := omega) only [upd_ne]
      exact hts
    · simp (disch := omega) only [upd_ne]
  have hB0 : B = [] := Classical.byContradiction hBn
  clear hBn
  subst hB0
  by_cases hAn : A ≠ []
  · skip
    repeat' (first | (refine aC_q rfl (by decide) rfl (fun h' hh => by (simp (disch := omega) [go_sem, fVal, *] <;> rfl)) ?_; simp only [pS_some, Nat.reduceAdd]))
    refine aC_e rfl (by decide) rfl (by simp (disch := omega) [go_sem, fVal, *]; exact ap_clo ty32.1 ty32.2.1 ty32.2.2.1 ty32.2.2.2 (by simp [cellsOf, AV.scalar]) (fun _ => rfl) (by simp (disch := omega) only [upd_ne]; exact hfr.out _ (by omega)) (by omega)) (.inr (by simp (disch := omega) only [upd_ne]; exact hd)) ?_
    simp only [pS_some, Nat.reduceAdd]
    repeat' (first | (refine aC_q rfl (by decide) rfl (fun h' hh => by (simp (disch := omega) [go_sem, fVal, wrap64_id, *] <;> rfl)) ?_; simp only [pS_some, Nat.reduceAdd]))
    refine aC_e rfl (by decide) rfl (by simp (disch := omega) [go_sem, fVal, *]; exact (ap_clo3 ty32.1 ty32.2.1 ty32.2.2.1 ty32.2.2.2 (by simp [cellsOf, AV.scalar]) (upd_same _ _ _) hA2.out).trans (by rw [bV_ne hAn])) (.inr (by simp (disch := omega) only [upd_ne]; exact hd)) ?_
    simp only [pS_some, Nat.reduceAdd]
    repeat' (first | (refine aC_q rfl (by decide) rfl (fun h' hh => by (simp (disch := omega) [go_sem, fVal, *] <;> rfl)) ?_; simp only [pS_some, Nat.reduceAdd]))
    refine aC_e rfl (by decide) rfl (by simp (disch := omega) [go_sem, fVal, upd_ne, *] <;> exact ⟨rfl, rfl⟩) (.inl rfl) ?_
    simp only [pS_none, Nat.reduceAdd]
    refine aC_end ?_
    refine hK.out _ ?_
    clear hK K
    try dsimp only [thenA]
    repeat' (first | (refine ac_seq_h fun K hK => ?_) | (refine ac_region_h fun K hK => ?_; simp (disch := omega) [go_sem, *, upd_ne]) | (refine ac_draw_h mixed (by kernel_rfl) fun K hK => ?_; simp (disch := omega) [go_sem, *, wrap64_id, upd_ne, mk3_true, flatten_replicate_one, stepK_if, ilt_true, ilt_false, ile_true, ile_false, Try.ntmps39]) | (apply Hide.out hK; clear hK K; try with_reducible dsimp only [thenA]) | (apply Hide.out ht; clear ht hf Kt Kf) | (apply Hide.out hf; clear ht hf Kt Kf) | (clear hK K; apply Hide.out hK; clear hK K; try with_reducible dsimp only [thenA]) | (clear hK K; clear hK K; apply Hide.out hK; clear hK K; try with_reducible dsimp only [thenA]) | (refine ac_block ?_) | (refine ac_skip ?_; simp only [thenA, blockA]) | (refine ac_exit ?_; simp only [thenA, blockA, if_true, if_false, Nat.reduceEqDiff]) | (with_reducible show nextK _ _ _ _ _ _ _; simp (disch := omega) [go_sem, *, wrap64_id, upd_ne, mk3_true, flatten_replicate_one, stepK_if, ilt_true, ilt_false, ile_true, ile_false, Try.ntmps39]) | (refine wantK_split (fun hc => ?_) (fun hc => ?_) <;> (try simp only [Bool.not_eq_true', Bool.not_eq_false', Bool.not_eq_eq_eq_not, Bool.not_true, Bool.not_false, decide_eq_true_eq, decide_eq_false_iff_not, Int.not_lt, Int.not_le] at hc) <;> (try (exfalso; omega)) <;> (try simp (disch := omega) [go_sem, *, wrap64_id, upd_ne, mk3_true, flatten_replicate_one, stepK_if, ilt_true, ilt_false, ile_true, ile_false, Try.ntmps39])) | (refine ac_cond_h fun Kt Kf ht hf => ?_; simp (disch := omega) [go_sem, *, wrap64_id, upd_ne, mk3_true, flatten_replicate_one, stepK_if, ilt_true, ilt_false, ile_true, ile_false, Try.ntmps39]; try (refine ⟨fun hc => ?_, fun hc => ?_⟩ <;> try (exfalso; omega))))
    refine ac_ret ?_
    refine ⟨by simp, _, (by simp (disch := omega) [go_sem] <;> rfl), ?_⟩
    refine ret_fzcell (n + 1 + 9 + 8) p true (by omega) (by simp (disch := omega) only [upd_ne, upd_same]; exact acO_ne hAn) (by simp (disch := omega) only [upd_ne]; exact upd_same _ _ _) ?_
    refine ret_id (hK0.out _ _ ⟨.fslc false false 6 ((L.eraseIdx i).map encMail), T, ⟨?_, ?_, R.out.tv, ?_, R.out.ne⟩, (by dsimp only; omega), fun k hk h1 h2 => ?_⟩)
    · rw [upd_same]
      have hz := fz_head (m := n + 1 + 9 + 8) (t := t) (k := w.st * w.st) (fz_iv .i64 w.st) (fz_iv .i64 w.wait).2 (fz_iv .i64 w.tick).2 (fz_iv .i64 (w.last + 1)).2 (by omega) (L.eraseIdx i)
      rw [hE.out, hlen2] at hz
      rw [hE.out]
      have hl8 : A.length = L.length - 1 := by
        have := congrArg List.length hE.out
        rw [List.length_map, hlen2] at this
        simp at this; omega
      rw [List.append_nil] at hz
      rw [List.append_nil]
      rw [hl8]
      exact congrArg (fun z => some (AObj.cells z)) hz
    · show MailsV (w.mails.eraseIdx i) _
      rw [← hLe.out]
      exact ⟨false, false, 6, rfl, fun _ => rfl⟩
    · have hts := R.out.ts
      have hne' : t ≠ p := fun e => R.out.ne e.symm
      simp (disch := omega) only [upd_ne]
      exact hts
    · simp (disch := omega) only [upd_ne]
  have hA0 : Hide (A = []) := Classical.byContradiction hAn
  clear hAn
  repeat' (first | (refine aC_q rfl (by decide) rfl (fun h' hh => by (simp (disch := omega) [go_sem, fVal, *] <;> rfl)) ?_; simp only [pS_some, Nat.reduceAdd]))
  refine aC_e rfl (by decide) rfl (by simp (disch := omega) [go_sem, fVal, *]; exact ap_clo ty32.1 ty32.2.1 ty32.2.2.1 ty32.2.2.2 (by simp [cellsOf, AV.scalar]) (fun _ => rfl) (by simp (disch := omega) only [upd_ne]; exact hfr.out _ (by omega)) (by omega)) (.inr (by simp (disch := omega) only [upd_ne]; exact hd)) ?_
  simp only [pS_some, Nat.reduceAdd]
  repeat' (first | (refine aC_q rfl (by decide) rfl (fun h' hh => by (simp (disch := omega) [go_sem, fVal, wrap64_id, *] <;> rfl)) ?_; simp only [pS_some, Nat.reduceAdd]))
  refine aC_e rfl (by decide) rfl (by simp (disch := omega) [go_sem, fVal, *]; exact (ap_clo3 ty32.1 ty32.2.1 ty32.2.2.1 ty32.2.2.2 (by simp [cellsOf, AV.scalar]) (upd_same _ _ _) hA2.out).trans (by rw [hA0.out, bV_nil])) (.inr (by simp (disch := omega) only [upd_ne]; exact hd)) ?_
  simp only [pS_some, Nat.reduceAdd]
  repeat' (first | (refine aC_q rfl (by decide) rfl (fun h' hh => by (simp (disch := omega) [go_sem, fVal, *] <;> rfl)) ?_; simp only [pS_some, Nat.reduceAdd]))
  refine aC_e rfl (by decide) rfl (by simp (disch := omega) [go_sem, fVal, upd_ne, *] <;> exact ⟨rfl, rfl⟩) (.inl rfl) ?_
  simp only [pS_none, Nat.reduceAdd]
  refine aC_end ?_
  refine hK.out _ ?_
  clear hK K
  try dsimp only [thenA]
  repeat' (first | (refine ac_seq_h fun K hK => ?_) | (refine ac_region_h fun K hK => ?_; simp (disch := omega) [go_sem, *, upd_ne]) | (refine ac_draw_h mixed (by kernel_rfl) fun K hK => ?_; simp (disch := omega) [go_sem, *, wrap64_id, upd_ne, mk3_true, flatten_replicate_one, stepK_if, ilt_true, ilt_false, ile_true, ile_false, Try.ntmps39]) | (apply Hide.out hK; clear hK K; try with_reducible dsimp only [thenA]) | (apply Hide.out ht; clear ht hf Kt Kf) | (apply Hide.out hf; clear ht hf Kt Kf) | (clear hK K; apply Hide.out hK; clear hK K; try with_reducible dsimp only [thenA]) | (clear hK K; clear hK K; apply Hide.out hK; clear hK K; try with_reducible dsimp only [thenA]) | (refine ac_block ?_) | (refine ac_skip ?_; simp only [thenA, blockA]) | (refine ac_exit ?_; simp only [thenA, blockA, if_true, if_false, Nat.reduceEqDiff]) | (with_reducible show nextK _ _ _ _ _ _ _; simp (disch := omega) [go_sem, *, wrap64_id, upd_ne, mk3_true, flatten_replicate_one, stepK_if, ilt_true, ilt_false, ile_true, ile_false, Try.ntmps39]) | (refine wantK_split (fun hc => ?_) (fun hc => ?_) <;> (try simp only [Bool.not_eq_true', Bool.not_eq_false', Bool.not_eq_eq_eq_not, Bool.not_true, Bool.not_false, decide_eq_true_eq, decide_eq_false_iff_not, Int.not_lt, Int.not_le] at hc) <;> (try (exfalso; omega)) <;> (try simp (disch := omega) [go_sem, *, wrap64_id, upd_ne, mk3_true, flatten_replicate_one, stepK_if, ilt_true, ilt_false, ile_true, ile_false, Try.ntmps39])) | (refine ac_cond_h fun Kt Kf ht hf => ?_; simp (disch := omega) [go_sem, *, wrap64_id, upd_ne, mk3_true, flatten_replicate_one, stepK_if, ilt_true, ilt_false, ile_true, ile_false, Try.ntmps39]; try (refine ⟨fun hc => ?_, fun hc => ?_⟩ <;> try (exfalso; omega))))
  refine ac_ret ?_
  refine ⟨by simp, _, (by simp (disch := omega) [go_sem] <;> rfl), ?_⟩
  refine ret_id (hK0.out _ _ ⟨.fslc false true 6 [], T, ⟨?_, ?_, R.out.tv, ?_, R.out.ne⟩, (by dsimp only; omega), fun k hk h1 h2 => ?_⟩)
  · simp (disch := omega) only [upd_ne]; exact upd_same _ _ _
  · show MailsV (w.mails.eraseIdx i) _
    rw [← hLe.out]
    have h9 : L.eraseIdx i = [] := by
      have := hE.out
      rw [hA0.out] at this
      simpa using this
    rw [h9]
    exact ⟨false, true, 6, rfl, fun _ => rfl⟩
  · have hts := R.out.ts
    have hne' : t ≠ p := fun e => R.out.ne e.symm
    simp (disch := omega) only [upd_ne]
    exact hts
  · simp (disch := omega) only [upd_ne]
end
end Go.AM

namespace Go.AM
open Go.Proofs Wl
set_option maxRecDepth 10000
set_option maxHeartbeats 4000000
section
variable {w : Wd} {p t : Nat} {V : AV} {T : Nat → Nat → AV} {h : AHeap}
theorem RRep.row (R : RRep w p t V T h) {a b : Nat} (ha : a < w.st) (hb : b < w.st) : ∃ pre post, h t = some (.cells (pre ++ (T a b :: iv .i64 (w.tk a b).heard :: iv .i64 (w.tk a b).known :: iv .i64 (w.tk a b).due :: post))) ∧ pre.length = (a * w.st + b) * 4 ∧
    ∀ (t' : Talk) (v : AV) (h' : AHeap), TextsV t'.said v → h' p = h p → h' t = some (.cells (pre ++ (v :: iv .i64 t'.heard :: iv .i64 t'.known :: iv .i64 t'.due :: post))) → RRep (setT w a b t') p t V (upT T a b v) h' := by
  obtain ⟨pre, post, r1, r2, r3⟩ := row_split T w ha hb
  refine ⟨pre, post, by rw [← r1]; exact R.ts, r2, fun t' v h' hv h1 h2 => ⟨by rw [h1]; exact R.hd, R.mv, fun x y hx hy => ?_, by rw [r3]; exact h2, R.ne⟩⟩
  by_cases c : x = a ∧ y = b
  · simp only [setT, upT, if_pos c]; exact hv
  · simp only [setT, upT, if_neg c]; exact R.tv x y hx hy
theorem RTurn.of {w' : Wd} {V' : AV} {T' : Nat → Nat → AV} {h' : AHeap} {n n' : Nat} (R : RRep w' p t V' T' h') (hn : n ≤ n') (hf : ∀ k, k < n → k ≠ p → k ≠ t → h' k = h k) : RTurn w' p t h n h' n' := ⟨V', T', R, hn, hf⟩
theorem RTurn.from {w' : Wd} {h1 h' : AHeap} {n n1 n' : Nat} (X : RTurn w' p t h1 n1 h' n') (hn : n ≤ n1) (hf : ∀ k, k < n → k ≠ p → k ≠ t → h1 k = h k) : RTurn w' p t h n h' n' := by
  obtain ⟨V, T, R, a, b⟩ := X
  exact ⟨V, T, R, by omega, fun k k1 k2 k3 => by rw [b k (by omega) k2 k3]; exact hf k k1 k2 k3⟩
theorem dropPk {α : Type} {pre L : List α} {o j k : Nat} (h : pre.length = o) : (pre ++ L).drop (o + j + k) = L.drop (j + k) := by rw [Nat.add_assoc]; exact dropPj h
theorem arrive_ref (R : RRep w p t V T h) (hw : Wok w) (hl : w.mails.length ≤ 199) (h1 : w.last ≤ 1000000000000) {m : Mail} (hm : MOk w m) (n : Nat) (hpn : p < n) (htn : t < n) (K0 : AV → AHeap → Nat → Prop)
    (hK0 : ∀ h' n', RTurn (Wl.arrive w m) p t h n h' n' → K0 (.tup []) h' n') : ACalls Try.prog 40 [.ptr p 0, encMail m] h n K0 := by
  refine ACalls.entry (by kernel_rfl) fun hb _ => calls_of Try.func40 rfl (by kernel_rfl) (by simp [Try.ntmps40]) ?_
  have hd := R.hd
  have hne := R.ne
  have hne' : t ≠ p := fun e => R.ne e.symm
  have s1 := hw.s1
  have w0 := hw.w0; have w1 := hw.w1; have t0 := hw.t0; have t1 := hw.t1; have l0 := hw.l0
  obtain ⟨mi, mk, mf, mt, mn, mx⟩ := m
  obtain ⟨hP, hm2⟩ := hm
  obtain ⟨x, y, hx, hy, hxy, hfx, hty⟩ := pair_iff.1 hP
  simp only at hfx hty hm2 hP
  subst hfx hty
  simp only [Int.toNat_natCast] at hm2
  replace hK0 : Hide _ := hK0
  rcases hm2 with ⟨hk, n1, n2⟩ | ⟨hk, n1, n2⟩
  · -- a word
    subst hk
    have hT := hw.tk x y
    have k0 := hT.k0; have k1 := hT.kh; have k2 := hT.hs; have k3 := hT.sl
    have c2 := fun h' (R' : RRep w p t V T h') k => talk_ref R' s1 hx hy k
    obtain ⟨pre, post, r1, r2, r3⟩ := R.row hx hy
    obtain ⟨o, ho⟩ : ∃ o, Hide (o = (x * w.st + y) * 4) := ⟨_, rfl⟩
    rw [← ho.out] at r2
    replace c2 : Hide _ := c2; replace r3 : Hide _ := r3; replace R : Hide _ := R
    have e0 := fun (L : List AV) => dropP0 (L := L) r2
    have e1 := fun (L : List AV) (j : Nat) => dropPj (L := L) (j := j) r2
    have e2 := fun (L : List AV) (j : Nat) => takePj (L := L) (j := j) r2
    have e3 := fun (L : List AV) => takeP0 (L := L) r2
    have e4 := fun (L : List AV) (j k : Nat) => dropPk (L := L) (j := j) (k := k) r2
    by_cases hnum : mn = (w.tk x y).heard + 1
    · have harr : Hide (Wl.arrive w ⟨mi, 1, x, y, mn, mx⟩ = putW (setT w x y { w.tk x y with heard := (w.tk x y).heard + 1 }) [⟨0, 2, y, x, (w.tk x y).heard + 1 + 1, ByteArray.empty⟩]) := by
        show Wl.arrive w _ = _
        simp [Wl.arrive, hnum]
      repeat' (first | (refine ac_seq_h fun K hK => ?_) | (refine ac_region_h fun K hK => ?_; simp (disch := omega) [go_sem, *, Try.ntmps40]) | (refine ac_draw_h mixed (by kernel_rfl) fun K hK => ?_; simp (disch := omega) [go_sem, *, wrap64_id, upd_ne, mk3_true, flatten_replicate_one, stepK_if, ilt_true, ilt_false, ile_true, ile_false, Try.ntmps40]) | (apply Hide.out hK; clear hK K; try with_reducible dsimp only [thenA]) | (apply Hide.out ht; clear ht hf Kt Kf) | (apply Hide.out hf; clear ht hf Kt Kf) | (clear hK K; apply Hide.out hK; clear hK K; try with_reducible dsimp only [thenA]) | (clear hK K; clear hK K; apply Hide.out hK; clear hK K; try with_reducible dsimp only [thenA]) | (refine ac_block ?_) | (refine ac_skip ?_; simp only [thenA]) | (refine ac_exit ?_; simp only [thenA, blockA, if_true, if_false, Nat.reduceEqDiff]) | (with_reducible show nextK _ _ _ _ _ _ _; simp (disch := omega) [go_sem, *, wrap64_id, upd_ne, mk3_true, flatten_replicate_one, stepK_if, ilt_true, ilt_false, ile_true, ile_false, Try.ntmps40]) | (refine wantK_split (fun hc => ?_) (fun hc => ?_) <;> (try simp only [Bool.not_eq_true', Bool.not_eq_false', Bool.not_eq_eq_eq_not, Bool.not_true, Bool.not_false, decide_eq_true_eq, decide_eq_false_iff_not, Int.not_lt, Int.not_le] at hc) <;> (try (exfalso; omega)) <;> (try simp (disch := omega) [go_sem, *, wrap64_id, upd_ne, mk3_true, flatten_replicate_one, stepK_if, ilt_true, ilt_false, ile_true, ile_false, Try.ntmps40])) | (refine ac_cond_h fun Kt Kf ht hf => ?_; simp (disch := omega) [go_sem, *]; try (refine ⟨fun hc => ?_, fun hc => ?_⟩ <;> try (exfalso; omega))))
      refine APureAt.call (c2.out _ (R.out.congr (by simp (disch := omega) only [upd_ne]) (by simp (disch := omega) only [upd_ne])) _) ?_
      rw [← ho.out]
      repeat' (first | (refine ac_seq_h fun K hK => ?_) | (refine ac_region_h fun K hK => ?_; simp (disch := omega) [go_sem, *, wrap64_id, upd_ne, stepK_if]) | (refine ac_draw_h mixed (by kernel_rfl) fun K hK => ?_; simp (disch := omega) [go_sem, *, wrap64_id, upd_ne]) | (apply Hide.out hK; clear hK K; try with_reducible dsimp only [thenA]) | (apply Hide.out ht; clear ht hf Kt Kf) | (apply Hide.out hf; clear ht hf Kt Kf) | (clear hK K; apply Hide.out hK; clear hK K; try with_reducible dsimp only [thenA]) | (clear hK K; clear hK K; apply Hide.out hK; clear hK K; try with_reducible dsimp only [thenA]) | (refine ac_block ?_) | (refine ac_skip ?_; simp only [thenA, blockA]) | (refine ac_exit ?_; simp only [thenA, blockA, if_true, if_false, Nat.reduceEqDiff]) | (with_reducible show nextK _ _ _ _ _ _ _; simp (disch := omega) [go_sem, *]) | (refine wantK_split (fun hc => ?_) (fun hc => ?_) <;> (try simp only [Bool.not_eq_true', Bool.not_eq_false', Bool.not_eq_eq_eq_not, Bool.not_true, Bool.not_false, decide_eq_true_eq, decide_eq_false_iff_not, Int.not_lt, Int.not_le] at hc) <;> (try (exfalso; omega)) <;> (try simp (disch := omega) [go_sem, *, wrap64_id, upd_ne, mk3_true, flatten_replicate_one, stepK_if, ilt_true, ilt_false, ile_true, ile_false, Try.ntmps40])) | (refine ac_cond_h fun Kt Kf ht hf => ?_; simp (disch := omega) [go_sem, *]; try (refine ⟨fun hc => ?_, fun hc => ?_⟩ <;> try (exfalso; omega))))
      refine send_ref (r3.out { w.tk x y with heard := (w.tk x y).heard + 1 } (T x y) _ (R.out.tv x y hx hy) (by simp (disch := omega) only [upd_ne]) (by rw [upd_same])) hl (by show 0 ≤ w.last; omega) h1 ⟨0, 2, y, x, (w.tk x y).heard + 1 + 1, ByteArray.empty⟩ _ (by omega) (by omega) _ (fun h' n' X => ?_)
      rw [← harr.out] at X
      replace X : Hide _ := X
      repeat' (first | (refine ac_seq_h fun K hK => ?_) | (refine ac_region_h fun K hK => ?_; simp (disch := omega) [go_sem, *, wrap64_id, upd_ne, mk3_true, flatten_replicate_one, stepK_if, ilt_true, ilt_false, ile_true, ile_false, Try.ntmps40]) | (refine ac_draw_h mixed (by kernel_rfl) fun K hK => ?_; simp (disch := omega) [go_sem, *, wrap64_id, upd_ne, mk3_true, flatten_replicate_one, stepK_if, ilt_true, ilt_false, ile_true, ile_false, Try.ntmps40]) | (apply Hide.out hK; clear hK K; try with_reducible dsimp only [thenA]) | (apply Hide.out ht; clear ht hf Kt Kf) | (apply Hide.out hf; clear ht hf Kt Kf) | (clear hK K; apply Hide.out hK; clear hK K; try with_reducible dsimp only [thenA]) | (clear hK K; clear hK K; apply Hide.out hK; clear hK K; try with_reducible dsimp only [thenA]) | (refine ac_block ?_) | (refine ac_skip ?_; simp only [thenA, blockA]) | (refine ac_exit ?_; simp only [thenA, blockA, if_true, if_false, Nat.reduceEqDiff]) | (with_reducible show nextK _ _ _ _ _ _ _; simp (disch := omega) [go_sem, *, wrap64_id, upd_ne, mk3_true, flatten_replicate_one, stepK_if, ilt_true, ilt_false, ile_true, ile_false, Try.ntmps40]) | (refine wantK_split (fun hc => ?_) (fun hc => ?_) <;> (try simp only [Bool.not_eq_true', Bool.not_eq_false', Bool.not_eq_eq_eq_not, Bool.not_true, Bool.not_false, decide_eq_true_eq, decide_eq_false_iff_not, Int.not_lt, Int.not_le] at hc) <;> (try (exfalso; omega)) <;> (try simp (disch := omega) [go_sem, *, wrap64_id, upd_ne, mk3_true, flatten_replicate_one, stepK_if, ilt_true, ilt_false, ile_true, ile_false, Try.ntmps40])) | (refine ac_cond_h fun Kt Kf ht hf => ?_; simp (disch := omega) [go_sem, *, wrap64_id, upd_ne, mk3_true, flatten_replicate_one, stepK_if, ilt_true, ilt_false, ile_true, ile_false, Try.ntmps40]; try (refine ⟨fun hc => ?_, fun hc => ?_⟩ <;> try (exfalso; omega))))
      refine ⟨by simp, _, (by simp (disch := omega) [go_sem] <;> rfl), ?_⟩
      exact ret_id (hK0.out _ _ (RTurn.from X.out (by omega) fun k k1 k2 k3 => by simp (disch := omega) only [upd_ne]))
    · have harr : Hide (Wl.arrive w ⟨mi, 1, x, y, mn, mx⟩ = putW w [⟨0, 2, y, x, (w.tk x y).heard + 1, ByteArray.empty⟩]) := by
        show Wl.arrive w _ = _
        simp [Wl.arrive, hnum]
      have hnum2 : (mn == (w.tk x y).heard + 1) = false := by simpa using hnum
      repeat' (first | (refine ac_seq_h fun K hK => ?_) | (refine ac_region_h fun K hK => ?_; simp (disch := omega) [go_sem, *, Try.ntmps40]) | (refine ac_draw_h mixed (by kernel_rfl) fun K hK => ?_; simp (disch := omega) [go_sem, *, wrap64_id, upd_ne, mk3_true, flatten_replicate_one, stepK_if, ilt_true, ilt_false, ile_true, ile_false, Try.ntmps40]) | (apply Hide.out hK; clear hK K; try with_reducible dsimp only [thenA]) | (apply Hide.out ht; clear ht hf Kt Kf) | (apply Hide.out hf; clear ht hf Kt Kf) | (clear hK K; apply Hide.out hK; clear hK K; try with_reducible dsimp only [thenA]) | (clear hK K; clear hK K; apply Hide.out hK; clear hK K; try with_reducible dsimp only [thenA]) | (refine ac_block ?_) | (refine ac_skip ?_; simp only [thenA]) | (refine ac_exit ?_; simp only [thenA, blockA, if_true, if_false, Nat.reduceEqDiff]) | (with_reducible show nextK _ _ _ _ _ _ _; simp (disch := omega) [go_sem, *, wrap64_id, upd_ne, mk3_true, flatten_replicate_one, stepK_if, ilt_true, ilt_false, ile_true, ile_false, Try.ntmps40]) | (refine wantK_split (fun hc => ?_) (fun hc => ?_) <;> (try simp only [Bool.not_eq_true', Bool.not_eq_false', Bool.not_eq_eq_eq_not, Bool.not_true, Bool.not_false, decide_eq_true_eq, decide_eq_false_iff_not, Int.not_lt, Int.not_le] at hc) <;> (try (exfalso; omega)) <;> (try simp (disch := omega) [go_sem, *, wrap64_id, upd_ne, mk3_true, flatten_replicate_one, stepK_if, ilt_true, ilt_false, ile_true, ile_false, Try.ntmps40])) | (refine ac_cond_h fun Kt Kf ht hf => ?_; simp (disch := omega) [go_sem, *]; try (refine ⟨fun hc => ?_, fun hc => ?_⟩ <;> try (exfalso; omega))))
      refine APureAt.call (c2.out _ (R.out.congr (by simp (disch := omega) only [upd_ne]) (by simp (disch := omega) only [upd_ne])) _) ?_
      rw [← ho.out]
      repeat' (first | (refine ac_seq_h fun K hK => ?_) | (refine ac_region_h fun K hK => ?_; simp (disch := omega) [go_sem, *, wrap64_id, upd_ne, mk3_true, flatten_replicate_one, stepK_if, ilt_true, ilt_false, ile_true, ile_false, Try.ntmps40]) | (refine ac_draw_h mixed (by kernel_rfl) fun K hK => ?_; simp (disch := omega) [go_sem, *, wrap64_id, upd_ne]) | (apply Hide.out hK; clear hK K; try with_reducible dsimp only [thenA]) | (apply Hide.out ht; clear ht hf Kt Kf) | (apply Hide.out hf; clear ht hf Kt Kf) | (clear hK K; apply Hide.out hK; clear hK K; try with_reducible dsimp only [thenA]) | (clear hK K; clear hK K; apply Hide.out hK; clear hK K; try with_reducible dsimp only [thenA]) | (refine ac_block ?_) | (refine ac_skip ?_; simp only [thenA]) | (refine ac_exit ?_; simp only [thenA, blockA, if_true, if_false, Nat.reduceEqDiff]) | (with_reducible show nextK _ _ _ _ _ _ _; simp (disch := omega) [go_sem, *]) | (refine wantK_split (fun hc => ?_) (fun hc => ?_) <;> (try simp only [Bool.not_eq_true', Bool.not_eq_false', Bool.not_eq_eq_eq_not, Bool.not_true, Bool.not_false, decide_eq_true_eq, decide_eq_false_iff_not, Int.not_lt, Int.not_le] at hc) <;> (try (exfalso; omega)) <;> (try simp (disch := omega) [go_sem, *, wrap64_id, upd_ne, mk3_true, flatten_replicate_one, stepK_if, ilt_true, ilt_false, ile_true, ile_false, Try.ntmps40])) | (refine ac_cond_h fun Kt Kf ht hf => ?_; simp (disch := omega) [go_sem, *]; try (refine ⟨fun hc => ?_, fun hc => ?_⟩ <;> try (exfalso; omega))))
      refine send_ref (R.out.congr (by simp (disch := omega) only [upd_ne]) (by simp (disch := omega) only [upd_ne])) hl (by omega) h1 ⟨0, 2, y, x, (w.tk x y).heard + 1, ByteArray.empty⟩ _ (by omega) (by omega) _ (fun h' n' X => ?_)
      rw [← harr.out] at X
      replace X : Hide _ := X
      repeat' (first | (refine ac_seq_h fun K hK => ?_) | (refine ac_region_h fun K hK => ?_; simp (disch := omega) [go_sem, *, wrap64_id, upd_ne, mk3_true, flatten_replicate_one, stepK_if, ilt_true, ilt_false, ile_true, ile_false, Try.ntmps40]) | (refine ac_draw_h mixed (by kernel_rfl) fun K hK => ?_; simp (disch := omega) [go_sem, *, wrap64_id, upd_ne, mk3_true, flatten_replicate_one, stepK_if, ilt_true, ilt_false, ile_true, ile_false, Try.ntmps40]) | (apply Hide.out hK; clear hK K; try with_reducible dsimp only [thenA]) | (apply Hide.out ht; clear ht hf Kt Kf) | (apply Hide.out hf; clear ht hf Kt Kf) | (clear hK K; apply Hide.out hK; clear hK K; try with_reducible dsimp only [thenA]) | (clear hK K; clear hK K; apply Hide.out hK; clear hK K; try with_reducible dsimp only [thenA]) | (refine ac_block ?_) | (refine ac_skip ?_; simp only [thenA, blockA]) | (refine ac_exit ?_; simp only [thenA, blockA, if_true, if_false, Nat.reduceEqDiff]) | (with_reducible show nextK _ _ _ _ _ _ _; simp (disch := omega) [go_sem, *, wrap64_id, upd_ne, mk3_true, flatten_replicate_one, stepK_if, ilt_true, ilt_false, ile_true, ile_false, Try.ntmps40]) | (refine wantK_split (fun hc => ?_) (fun hc => ?_) <;> (try simp only [Bool.not_eq_true', Bool.not_eq_false', Bool.not_eq_eq_eq_not, Bool.not_true, Bool.not_false, decide_eq_true_eq, decide_eq_false_iff_not, Int.not_lt, Int.not_le] at hc) <;> (try (exfalso; omega)) <;> (try simp (disch := omega) [go_sem, *, wrap64_id, upd_ne, mk3_true, flatten_replicate_one, stepK_if, ilt_true, ilt_false, ile_true, ile_false, Try.ntmps40])) | (refine ac_cond_h fun Kt Kf ht hf => ?_; simp (disch := omega) [go_sem, *, wrap64_id, upd_ne, mk3_true, flatten_replicate_one, stepK_if, ilt_true, ilt_false, ile_true, ile_false, Try.ntmps40]; try (refine ⟨fun hc => ?_, fun hc => ?_⟩ <;> try (exfalso; omega))))
      refine ⟨by simp, _, (by simp (disch := omega) [go_sem] <;> rfl), ?_⟩
      exact ret_id (hK0.out _ _ (RTurn.from X.out (by omega) fun k k1 k2 k3 => by simp (disch := omega) only [upd_ne]))
  · -- a receipt
    subst hk
    have hT := hw.tk y x
    have k0 := hT.k0; have k1 := hT.kh; have k2 := hT.hs; have k3 := hT.sl
    have c2 := fun h' (R' : RRep w p t V T h') k => talk_ref R' s1 hy hx k
    obtain ⟨pre, post, r1, r2, r3⟩ := R.row hy hx
    obtain ⟨o, ho⟩ : ∃ o, Hide (o = (y * w.st + x) * 4) := ⟨_, rfl⟩
    rw [← ho.out] at r2
    replace c2 : Hide _ := c2; replace r3 : Hide _ := r3; replace R : Hide _ := R
    have e0 := fun (L : List AV) => dropP0 (L := L) r2
    have e1 := fun (L : List AV) (j : Nat) => dropPj (L := L) (j := j) r2
    have e2 := fun (L : List AV) (j : Nat) => takePj (L := L) (j := j) r2
    have e3 := fun (L : List AV) => takeP0 (L := L) r2
    have e4 := fun (L : List AV) (j k : Nat) => dropPk (L := L) (j := j) (k := k) r2
    by_cases hnum : (w.tk y x).known < mn - 1
    · have harr : Hide (Wl.arrive w ⟨mi, 2, x, y, mn, mx⟩ = setT w y x { w.tk y x with known := mn - 1, due := w.tick + w.wait }) := by
        show Wl.arrive w _ = _
        simp [Wl.arrive, hnum]
      rw [harr.out] at hK0
      replace hK0 : Hide _ := hK0
      clear harr
      repeat' (first | (refine ac_seq_h fun K hK => ?_) | (refine ac_region_h fun K hK => ?_; simp (disch := omega) [go_sem, *, Try.ntmps40]) | (refine ac_draw_h mixed (by kernel_rfl) fun K hK => ?_; simp (disch := omega) [go_sem, *, wrap64_id, upd_ne, mk3_true, flatten_replicate_one, stepK_if, ilt_true, ilt_false, ile_true, ile_false, Try.ntmps40]) | (apply Hide.out hK; clear hK K; try with_reducible dsimp only [thenA]) | (apply Hide.out ht; clear ht hf Kt Kf) | (apply Hide.out hf; clear ht hf Kt Kf) | (clear hK K; apply Hide.out hK; clear hK K; try with_reducible dsimp only [thenA]) | (clear hK K; clear hK K; apply Hide.out hK; clear hK K; try with_reducible dsimp only [thenA]) | (refine ac_block ?_) | (refine ac_skip ?_; simp only [thenA, blockA]) | (refine ac_exit ?_; simp only [thenA, blockA, if_true, if_false, Nat.reduceEqDiff]) | (with_reducible show nextK _ _ _ _ _ _ _; simp (disch := omega) [go_sem, *, wrap64_id, upd_ne, mk3_true, flatten_replicate_one, stepK_if, ilt_true, ilt_false, ile_true, ile_false, Try.ntmps40]) | (refine wantK_split (fun hc => ?_) (fun hc => ?_) <;> (try simp only [Bool.not_eq_true', Bool.not_eq_false', Bool.not_eq_eq_eq_not, Bool.not_true, Bool.not_false, decide_eq_true_eq, decide_eq_false_iff_not, Int.not_lt, Int.not_le] at hc) <;> (try (exfalso; omega)) <;> (try simp (disch := omega) [go_sem, *, wrap64_id, upd_ne, mk3_true, flatten_replicate_one, stepK_if, ilt_true, ilt_false, ile_true, ile_false, Try.ntmps40])) | (refine ac_cond_h fun Kt Kf ht hf => ?_; simp (disch := omega) [go_sem, *]; try (refine ⟨fun hc => ?_, fun hc => ?_⟩ <;> try (exfalso; omega))))
      refine APureAt.call (c2.out _ (R.out.congr (by simp (disch := omega) only [upd_ne]) (by simp (disch := omega) only [upd_ne])) _) ?_
      rw [← ho.out]
      repeat' (first | (refine ac_seq_h fun K hK => ?_) | (refine ac_region_h fun K hK => ?_; simp (disch := omega) [go_sem, *, wrap64_id, upd_ne, stepK_if]) | (refine ac_draw_h mixed (by kernel_rfl) fun K hK => ?_; simp (disch := omega) [go_sem, *, wrap64_id, upd_ne, stepK_if]) | (apply Hide.out hK; clear hK K; try with_reducible dsimp only [thenA]) | (apply Hide.out ht; clear ht hf Kt Kf) | (apply Hide.out hf; clear ht hf Kt Kf) | (clear hK K; apply Hide.out hK; clear hK K; try with_reducible dsimp only [thenA]) | (clear hK K; clear hK K; apply Hide.out hK; clear hK K; try with_reducible dsimp only [thenA]) | (refine ac_block ?_) | (refine ac_skip ?_; simp only [thenA, blockA]) | (refine ac_exit ?_; simp only [thenA, blockA, if_true, if_false, Nat.reduceEqDiff]) | (with_reducible show nextK _ _ _ _ _ _ _; simp (disch := omega) [go_sem, *]) | (refine wantK_split (fun hc => ?_) (fun hc => ?_) <;> (try simp only [Bool.not_eq_true', Bool.not_eq_false', Bool.not_eq_eq_eq_not, Bool.not_true, Bool.not_false, decide_eq_true_eq, decide_eq_false_iff_not, Int.not_lt, Int.not_le] at hc) <;> (try (exfalso; omega)) <;> (try simp (disch := omega) [go_sem, *, wrap64_id, upd_ne, mk3_true, flatten_replicate_one, stepK_if, ilt_true, ilt_false, ile_true, ile_false, Try.ntmps40])) | (refine ac_cond_h fun Kt Kf ht hf => ?_; simp (disch := omega) [go_sem, *]; try (refine ⟨fun hc => ?_, fun hc => ?_⟩ <;> try (exfalso; omega))))
      refine ac_ret ?_
      refine ⟨by simp, _, (by simp (disch := omega) [go_sem] <;> rfl), ?_⟩
      refine ret_id (hK0.out _ _ (RTurn.of (r3.out { w.tk y x with known := mn - 1, due := w.tick + w.wait } (T y x) _ (R.out.tv y x hy hx) (by simp (disch := omega) only [upd_ne]) (upd_same _ _ _)) (by dsimp only; omega) fun k k1 k2 k3 => by simp (disch := omega) only [upd_ne]))
    · have harr : Hide (Wl.arrive w ⟨mi, 2, x, y, mn, mx⟩ = w) := by
        show Wl.arrive w _ = _
        simp [Wl.arrive, hnum]
      rw [harr.out] at hK0
      replace hK0 : Hide _ := hK0
      clear harr
      repeat' (first | (refine ac_seq_h fun K hK => ?_) | (refine ac_region_h fun K hK => ?_; simp (disch := omega) [go_sem, *, Try.ntmps40]) | (refine ac_draw_h mixed (by kernel_rfl) fun K hK => ?_; simp (disch := omega) [go_sem, *, wrap64_id, upd_ne, mk3_true, flatten_replicate_one, stepK_if, ilt_true, ilt_false, ile_true, ile_false, Try.ntmps40]) | (apply Hide.out hK; clear hK K; try with_reducible dsimp only [thenA]) | (apply Hide.out ht; clear ht hf Kt Kf) | (apply Hide.out hf; clear ht hf Kt Kf) | (clear hK K; apply Hide.out hK; clear hK K; try with_reducible dsimp only [thenA]) | (clear hK K; clear hK K; apply Hide.out hK; clear hK K; try with_reducible dsimp only [thenA]) | (refine ac_block ?_) | (refine ac_skip ?_; simp only [thenA, blockA]) | (refine ac_exit ?_; simp only [thenA, blockA, if_true, if_false, Nat.reduceEqDiff]) | (with_reducible show nextK _ _ _ _ _ _ _; simp (disch := omega) [go_sem, *, wrap64_id, upd_ne, mk3_true, flatten_replicate_one, stepK_if, ilt_true, ilt_false, ile_true, ile_false, Try.ntmps40]) | (refine wantK_split (fun hc => ?_) (fun hc => ?_) <;> (try simp only [Bool.not_eq_true', Bool.not_eq_false', Bool.not_eq_eq_eq_not, Bool.not_true, Bool.not_false, decide_eq_true_eq, decide_eq_false_iff_not, Int.not_lt, Int.not_le] at hc) <;> (try (exfalso; omega)) <;> (try simp (disch := omega) [go_sem, *, wrap64_id, upd_ne, mk3_true, flatten_replicate_one, stepK_if, ilt_true, ilt_false, ile_true, ile_false, Try.ntmps40])) | (refine ac_cond_h fun Kt Kf ht hf => ?_; simp (disch := omega) [go_sem, *]; try (refine ⟨fun hc => ?_, fun hc => ?_⟩ <;> try (exfalso; omega))))
      refine APureAt.call (c2.out _ (R.out.congr (by simp (disch := omega) only [upd_ne]) (by simp (disch := omega) only [upd_ne])) _) ?_
      rw [← ho.out]
      repeat' (first | (refine ac_seq_h fun K hK => ?_) | (refine ac_region_h fun K hK => ?_; simp (disch := omega) [go_sem, *, wrap64_id, upd_ne, mk3_true, flatten_replicate_one, stepK_if, ilt_true, ilt_false, ile_true, ile_false, Try.ntmps40]) | (refine ac_draw_h mixed (by kernel_rfl) fun K hK => ?_; simp (disch := omega) [go_sem, *, wrap64_id, upd_ne]) | (apply Hide.out hK; clear hK K; try with_reducible dsimp only [thenA]) | (apply Hide.out ht; clear ht hf Kt Kf) | (apply Hide.out hf; clear ht hf Kt Kf) | (clear hK K; apply Hide.out hK; clear hK K; try with_reducible dsimp only [thenA]) | (clear hK K; clear hK K; apply Hide.out hK; clear hK K; try with_reducible dsimp only [thenA]) | (refine ac_block ?_) | (refine ac_skip ?_; simp only [thenA]) | (refine ac_exit ?_; simp only [thenA, blockA, if_true, if_false, Nat.reduceEqDiff]) | (with_reducible show nextK _ _ _ _ _ _ _; simp (disch := omega) [go_sem, *]) | (refine wantK_split (fun hc => ?_) (fun hc => ?_) <;> (try simp only [Bool.not_eq_true', Bool.not_eq_false', Bool.not_eq_eq_eq_not, Bool.not_true, Bool.not_false, decide_eq_true_eq, decide_eq_false_iff_not, Int.not_lt, Int.not_le] at hc) <;> (try (exfalso; omega)) <;> (try simp (disch := omega) [go_sem, *, wrap64_id, upd_ne, mk3_true, flatten_replicate_one, stepK_if, ilt_true, ilt_false, ile_true, ile_false, Try.ntmps40])) | (refine ac_cond_h fun Kt Kf ht hf => ?_; simp (disch := omega) [go_sem, *]; try (refine ⟨fun hc => ?_, fun hc => ?_⟩ <;> try (exfalso; omega))))
      refine ac_ret ?_
      refine ⟨by simp, _, (by simp (disch := omega) [go_sem] <;> rfl), ?_⟩
      refine ret_id (hK0.out _ _ (RTurn.of (R.out.congr (by simp (disch := omega) only [upd_ne]) (by simp (disch := omega) only [upd_ne])) (by dsimp only; omega) fun k k1 k2 k3 => by simp (disch := omega) only [upd_ne]))
end
end Go.AM
