/- How far the IDs go; RelayOnce over the abstract machine. Conditions: as each theorem says. -/
import Derived.Test.YtjbphojecieloaaWf
namespace Wl
open Go.AM
theorem put_last (w : Wd) (l : List Mail) : (putW w l).last ≤ w.last + 200 ∧ w.last ≤ (putW w l).last := by
  simp only [putW, List.length_take, room]; omega
theorem doW_last {w : Wd} (h : Wok w) (s : Step) : (doW w s).1.last ≤ w.last + 200 ∧ w.last ≤ (doW w s).1.last := by
  have same : w.last ≤ w.last + 200 ∧ w.last ≤ w.last := ⟨by omega, Int.le_refl _⟩
  unfold doW
  split
  · exact same
  split
  · unfold sayW
    split
    · exact same
    split
    · exact same
    · exact put_last _ _
  split
  · unfold timeW
    split
    · exact same
    · rename_i hc
      obtain ⟨c1, c2⟩ := Wl.within_iff.1 ((Bool.not_eq_false _).mp hc)
      have h0 := h.t0
      have h1 : Wok { w with tick := s.n } := h.clock (by omega) c2
      have h2 := timeGo_sum (grid w.st) { w with tick := s.n }
      have h3 : Wok (timeGo { w with tick := s.n } (grid w.st)) := Wok.timeGo h1 fun p hp => mem_grid.1 hp
      have h4 := h3.ml
      simp only at h2 ⊢
      have h5 := h.ml
      have h6 : ∀ (l : List (Nat × Nat)) (v : Wd), v.mails.length ≤ (timeGo v l).mails.length := by
        intro l
        induction l with
        | nil => intro v; exact Nat.le_refl _
        | cons p r ih =>
          intro v
          obtain ⟨a, b⟩ := p
          refine Nat.le_trans ?_ (ih (timeP v a b))
          unfold timeP; split
          · exact Nat.le_refl _
          · simp only [setT, putW, List.length_append]; omega
      have h7 := h6 (grid w.st) { w with tick := s.n }
      simp only at h7
      omega
  split
  · unfold deliverW; split
    · exact same
    split
    · exact same
    · unfold arrive
      split
      · refine ⟨Int.le_trans (put_last _ _).1 ?_, Int.le_trans ?_ (put_last _ _).2⟩ <;> split <;> exact Int.le_refl _
      · split <;> exact same
  split
  · unfold loseW; split <;> exact same
  split
  · unfold doubleW; split
    · exact same
    split
    · exact same
    split
    · exact same
    · exact put_last _ _
  · unfold crashW; split <;> exact same
/-- all steps -/
def runW (w : Wd) : List Step → Wd
  | [] => w
  | s :: r => runW (doW w s).1 r
theorem runW_snoc (w : Wd) : ∀ (l : List Step) (s : Step), runW w (l ++ [s]) = (doW (runW w l) s).1
  | [], s => rfl
  | x :: r, s => by rw [List.cons_append, runW, runW, runW_snoc]
theorem runW_ok : ∀ (l : List Step) {w : Wd}, Wok w → Wok (runW w l) ∧ (runW w l).last ≤ w.last + 200 * l.length
  | [], w, h => ⟨h, by simp [runW]⟩
  | s :: r, w, h => by
    obtain ⟨h1, h2⟩ := runW_ok r (h.step s)
    refine ⟨h1, ?_⟩
    have := (doW_last h s).1
    rw [runW, List.length_cons]; omega
theorem doW_st (w : Wd) (s : Step) : (doW w s).1.st = w.st := by
  unfold doW sayW timeW deliverW loseW doubleW crashW arrive
  repeat' (first | rfl | split)
  all_goals first | rfl | (exact timeGo_st _ _) | skip
theorem runW_st : ∀ (l : List Step) (w : Wd), (runW w l).st = w.st
  | [], w => rfl
  | s :: r, w => by rw [runW, runW_st, doW_st]
end Wl

namespace Go.AM
open Go.Proofs Wl
set_option maxRecDepth 10000
set_option maxHeartbeats 4000000
theorem first_take (A : List ByteArray) (k : Nat) : firstL (A.take k) A = true := by
  simp only [firstL, Bool.and_eq_true, decide_eq_true_eq, List.all_eq_true, List.mem_range, List.length_take]
  refine ⟨by omega, fun j hj => ?_⟩
  have : (A.take k).getD j ByteArray.empty = A.getD j ByteArray.empty := by
    simp only [List.getD_eq_getElem?_getD]
    rw [List.getElem?_take_of_lt (by omega)]
  rw [this]; simp
theorem once_law {w : Wd} (hw : Wok w) (a b : Int) : firstL (heardW w b a) (saidW w a b) = true ∧ ((saidW w a b).length : Int) - openW w a b ≤ (heardW w b a).length ∧ 0 ≤ openW w a b ∧ openW w a b ≤ 1000 ∧ (saidW w a b).length ≤ 1000 ∧ (heardW w b a).length ≤ 1000 := by
  unfold heardW saidW openW
  cases hP : isPair w a b
  · simp [firstL]
  · have hT := hw.tk a.toNat b.toNat
    have := hT.k0; have := hT.kh; have := hT.hs; have := hT.sl
    simp only [if_true]
    refine ⟨first_take _ _, ?_, ?_, ?_, ?_, ?_⟩
    · rw [List.length_take]; unfold opn; omega
    · unfold opn; omega
    · unfold opn; omega
    · omega
    · rw [List.length_take]; omega
theorem relayOnce_spec (st wait : Int) (l : List Step) (nl : Bool) (hl : l.length ≤ 9223372036854775807) : APure Try.prog 4 [iv .i64 st, iv .i64 wait, .fslc nl false 5 (l.map encStep)] (bv true) := by
  intro h n
  refine ACalls.pure (ACalls.entry (by kernel_rfl) fun hb _ => calls_of Try.func4 rfl (by kernel_rfl) (by simp [Try.ntmps4]) ?_)
  have c7 := light_spec l nl false 300 hl
  cases hli : lightL l 300 with
  | false =>
    rw [hli] at c7
    repeat' (first
      | (refine ac_seq_h fun K hK => ?_)
      | (refine ac_region_h fun K hK => ?_; simp (disch := omega) [go_sem, *, Try.ntmps4 ])
      | (refine ac_draw_h mixed (by kernel_rfl) fun K hK => ?_; simp (disch := omega) [go_sem, *, wrap64_id, upd_ne, mk3_true, flatten_replicate_one, stepK_if, ilt_true, ilt_false, ile_true, ile_false, Try.ntmps4 ])
      | (apply Hide.out hK; clear hK K; try with_reducible dsimp only [thenA])
      | (apply Hide.out ht; clear ht hf Kt Kf)
      | (apply Hide.out hf; clear ht hf Kt Kf)
      | (clear hK K; apply Hide.out hK; clear hK K; try with_reducible dsimp only [thenA])
      | (clear hK K; clear hK K; apply Hide.out hK; clear hK K; try with_reducible dsimp only [thenA])
      | (with_reducible refine APure.call (c7) ?_; try simp (disch := omega) [go_sem, * ])
      | (with_reducible refine APure.call (worlds_spec) ?_; try simp (disch := omega) [go_sem, * ])
      | (refine ac_block ?_)
      | (refine ac_skip ?_; simp only [thenA, blockA])
      | (refine ac_exit ?_; simp only [thenA, blockA, if_true, if_false, Nat.reduceEqDiff])
      | (with_reducible show nextK _ _ _ _ _ _ _; simp (disch := omega) [go_sem, *, wrap64_id, upd_ne, mk3_true, flatten_replicate_one, stepK_if, ilt_true, ilt_false, ile_true, ile_false, Try.ntmps4 ])
      | (refine wantK_split (fun hc => ?_) (fun hc => ?_) <;> (try simp only [Bool.not_eq_true', Bool.not_eq_false', Bool.not_eq_eq_eq_not, Bool.not_true, Bool.not_false, decide_eq_true_eq, decide_eq_false_iff_not, Int.not_lt, Int.not_le] at hc) <;> (try (exfalso; omega)) <;> (try simp (disch := omega) [go_sem, *, wrap64_id, upd_ne, mk3_true, flatten_replicate_one, stepK_if, ilt_true, ilt_false, ile_true, ile_false, Try.ntmps4 ]))
      | (refine ac_cond_h fun Kt Kf ht hf => ?_; simp (disch := omega) [go_sem, * ]; try (refine ⟨fun hc => ?_, fun hc => ?_⟩ <;> try (exfalso; omega))))
    (refine ac_ret ?_; try dsimp only [thenA, blockA]; refine ⟨by simp, _, (by first | rfl | (simp (disch := omega) [go_sem, upd_ne] <;> rfl)), ?_⟩; refine ret_id ⟨fun k hk => (by first | rfl | (repeat rw [upd_ne _ _ _ _ (by omega)])), (by simp [go_sem, below]), (by simp [go_sem] <;> omega), by simp, by simp⟩)
  | true =>
    rw [hli] at c7
    have hl3 : l.length ≤ 300 := by
      simp only [lightL, Bool.and_eq_true, decide_eq_true_eq] at hli; omega
    clear hl hli
    repeat' (first
      | (refine ac_seq_h fun K hK => ?_)
      | (refine ac_region_h fun K hK => ?_; simp (disch := omega) [go_sem, *, Try.ntmps4 ])
      | (refine ac_draw_h mixed (by kernel_rfl) fun K hK => ?_; simp (disch := omega) [go_sem, *, wrap64_id, upd_ne, mk3_true, flatten_replicate_one, stepK_if, ilt_true, ilt_false, ile_true, ile_false, Try.ntmps4 ])
      | (apply Hide.out hK; clear hK K; try with_reducible dsimp only [thenA])
      | (apply Hide.out ht; clear ht hf Kt Kf)
      | (apply Hide.out hf; clear ht hf Kt Kf)
      | (clear hK K; apply Hide.out hK; clear hK K; try with_reducible dsimp only [thenA])
      | (clear hK K; clear hK K; apply Hide.out hK; clear hK K; try with_reducible dsimp only [thenA])
      | (with_reducible refine APure.call (c7) ?_; try simp (disch := omega) [go_sem, * ])
      | (with_reducible refine APure.call (worlds_spec) ?_; try simp (disch := omega) [go_sem, *, wrap64_id, upd_ne, mk3_true, flatten_replicate_one, stepK_if, ilt_true, ilt_false, ile_true, ile_false, Try.ntmps4 ])
      | (refine ac_block ?_)
      | (refine ac_skip ?_; simp only [thenA])
      | (refine ac_exit ?_; simp only [thenA, blockA, if_true, if_false, Nat.reduceEqDiff])
      | (with_reducible show nextK _ _ _ _ _ _ _; simp (disch := omega) [go_sem, *, wrap64_id, upd_ne, mk3_true, flatten_replicate_one, stepK_if, ilt_true, ilt_false, ile_true, ile_false, Try.ntmps4 ])
      | (refine wantK_split (fun hc => ?_) (fun hc => ?_) <;> (try simp only [Bool.not_eq_true', Bool.not_eq_false', Bool.not_eq_eq_eq_not, Bool.not_true, Bool.not_false, decide_eq_true_eq, decide_eq_false_iff_not, Int.not_lt, Int.not_le] at hc) <;> (try (exfalso; omega)) <;> (try simp (disch := omega) [go_sem, *, wrap64_id, upd_ne, mk3_true, flatten_replicate_one, stepK_if, ilt_true, ilt_false, ile_true, ile_false, Try.ntmps4 ]))
      | (refine ac_cond_h fun Kt Kf ht hf => ?_; simp (disch := omega) [go_sem, * ]; try (refine ⟨fun hc => ?_, fun hc => ?_⟩ <;> try (exfalso; omega))))
    refine At.new st wait _ _ (fun hc m hm => ?_) (fun hc p H m hm A => ?_)
    · skip
      repeat' (first
        | (refine ac_seq_h fun K hK => ?_)
        | (refine ac_region_h fun K hK => ?_; simp (disch := omega) [go_sem, * ])
        | (refine ac_draw_h mixed (by kernel_rfl) fun K hK => ?_; simp (disch := omega) [go_sem, *, wrap64_id, upd_ne, mk3_true, flatten_replicate_one, stepK_if, ilt_true, ilt_false, ile_true, ile_false, Try.ntmps4 ])
        | (apply Hide.out hK; clear hK K; try with_reducible dsimp only [thenA])
        | (apply Hide.out ht; clear ht hf Kt Kf)
        | (apply Hide.out hf; clear ht hf Kt Kf)
        | (clear hK K; apply Hide.out hK; clear hK K; try with_reducible dsimp only [thenA])
        | (clear hK K; clear hK K; apply Hide.out hK; clear hK K; try with_reducible dsimp only [thenA])
        | (with_reducible refine APure.call (c7) ?_; try simp (disch := omega) [go_sem, *, wrap64_id, upd_ne, mk3_true, flatten_replicate_one, stepK_if, ilt_true, ilt_false, ile_true, ile_false, Try.ntmps4 ])
        | (with_reducible refine APure.call (worlds_spec) ?_; try simp (disch := omega) [go_sem, * ])
        | (refine ac_block ?_)
        | (refine ac_skip ?_; simp only [thenA, blockA])
        | (refine ac_exit ?_; simp only [thenA, blockA, if_true, if_false, Nat.reduceEqDiff])
        | (with_reducible show nextK _ _ _ _ _ _ _; simp (disch := omega) [go_sem, * ])
        | (refine wantK_split (fun hc => ?_) (fun hc => ?_) <;> (try simp only [Bool.not_eq_true', Bool.not_eq_false', Bool.not_eq_eq_eq_not, Bool.not_true, Bool.not_false, decide_eq_true_eq, decide_eq_false_iff_not, Int.not_lt, Int.not_le] at hc) <;> (try (exfalso; omega)) <;> (try simp (disch := omega) [go_sem, *, wrap64_id, upd_ne, mk3_true, flatten_replicate_one, stepK_if, ilt_true, ilt_false, ile_true, ile_false, Try.ntmps4 ]))
        | (refine ac_cond_h fun Kt Kf ht hf => ?_; simp (disch := omega) [go_sem, * ]; try (refine ⟨fun hc => ?_, fun hc => ?_⟩ <;> try (exfalso; omega))))
      (refine ac_ret ?_; try dsimp only [thenA, blockA]; refine ⟨by simp, _, (by first | rfl | (simp (disch := omega) [go_sem, upd_ne] <;> rfl)), ?_⟩; refine ret_id ⟨fun k hk => (by first | rfl | (repeat rw [upd_ne _ _ _ _ (by omega)])), (by simp [go_sem, below]), (by simp [go_sem] <;> omega), by simp, by simp⟩)
    · rw [Bool.and_eq_true] at hc
      obtain ⟨k1, k2⟩ := hc
      obtain ⟨k3, k4⟩ := Wl.within_iff.1 k1
      obtain ⟨k5, k6⟩ := Wl.within_iff.1 k2
      clear k1 k2
      obtain ⟨S, rfl⟩ : ∃ S : Nat, st = S := ⟨st.toNat, by omega⟩
      have w0 : Hide (Wok (newW S wait)) := Wok.new (by omega) (by omega) k5 k6
      rw [Int.toNat_natCast] at A
      replace A : Hide _ := A
      repeat' (first
        | (refine ac_seq_h fun K hK => ?_)
        | (refine ac_region_h fun K hK => ?_; simp (disch := omega) [go_sem, * ])
        | (refine ac_draw_h mixed (by kernel_rfl) fun K hK => ?_; simp (disch := omega) [go_sem, *, wrap64_id, upd_ne, mk3_true, flatten_replicate_one, stepK_if, ilt_true, ilt_false, ile_true, ile_false, Try.ntmps4 ])
        | (apply Hide.out hK; clear hK K; try with_reducible dsimp only [thenA])
        | (apply Hide.out ht; clear ht hf Kt Kf)
        | (apply Hide.out hf; clear ht hf Kt Kf)
        | (clear hK K; apply Hide.out hK; clear hK K; try with_reducible dsimp only [thenA])
        | (clear hK K; clear hK K; apply Hide.out hK; clear hK K; try with_reducible dsimp only [thenA])
        | (with_reducible refine APure.call (c7) ?_; try simp (disch := omega) [go_sem, *, wrap64_id, upd_ne, mk3_true, flatten_replicate_one, stepK_if, ilt_true, ilt_false, ile_true, ile_false, Try.ntmps4 ])
        | (with_reducible refine APure.call (worlds_spec) ?_; try simp (disch := omega) [go_sem, *, wrap64_id, upd_ne, mk3_true, flatten_replicate_one, stepK_if, ilt_true, ilt_false, ile_true, ile_false, Try.ntmps4 ])
        | (refine ac_block ?_)
        | (refine ac_skip ?_; simp only [thenA])
        | (refine ac_exit ?_; simp only [thenA, blockA, if_true, if_false, Nat.reduceEqDiff])
        | (with_reducible show nextK _ _ _ _ _ _ _; simp (disch := omega) [go_sem, * ])
        | (refine wantK_split (fun hc => ?_) (fun hc => ?_) <;> (try simp only [Bool.not_eq_true', Bool.not_eq_false', Bool.not_eq_eq_eq_not, Bool.not_true, Bool.not_false, decide_eq_true_eq, decide_eq_false_iff_not, Int.not_lt, Int.not_le] at hc) <;> (try (exfalso; omega)) <;> (try simp (disch := omega) [go_sem, *, wrap64_id, upd_ne, mk3_true, flatten_replicate_one, stepK_if, ilt_true, ilt_false, ile_true, ile_false, Try.ntmps4 ]))
        | (refine ac_cond_h fun Kt Kf ht hf => ?_; simp (disch := omega) [go_sem, * ]; try (refine ⟨fun hc => ?_, fun hc => ?_⟩ <;> try (exfalso; omega))))
      replace c7 : Hide _ := c7
      refine ac_loop_wk (fun s' => ∃ (i n1 : Nat) (H : AHeap), i ≤ l.length ∧ At (runW (newW S wait) (l.take i)) p (n + 1 + 3 + 8) h H n1 ∧ s' = ⟨98, [(0, iv .i64 S), (2, .fslc nl false 5 (l.map encStep)), (7, .ptr p 0), (9, iv .i64 i), (6, bv false)], H, n1⟩) (fun z => l.length - (intAt z 9).toNat) ?_ ?_
      · exact loop_start (by simp [go_sem]) (Sub.refl _) ⟨0, _, _, Nat.zero_le _, At.mono A.out (by omega), rfl⟩
      clear A H hm m
      rintro s' ⟨i, n1, H, hi, A, rfl⟩
      obtain ⟨w, hwe⟩ : ∃ w, Hide (w = runW (newW S wait) (l.take i)) := ⟨_, rfl⟩
      rw [← hwe.out] at A
      obtain ⟨ww, wl⟩ := runW_ok (l.take i) w0.out
      rw [← hwe.out] at ww wl
      have wl2 : w.last ≤ 100000000000 := by
        have h1 : (newW S wait).last = 0 := rfl
        rw [h1] at wl
        have h2 : (l.take i).length ≤ 300 := by rw [List.length_take]; omega
        omega
      clear wl
      replace A : Hide _ := A
      replace ww : Hide _ := ww
      by_cases hlt : i < l.length
      · obtain ⟨s, hs1, hs2, _⟩ := at_k hlt
        have hnext : Hide (runW (newW S wait) (l.take (i + 1)) = (doW w s).1) := by
          rw [Hide, List.take_succ_eq_append_getElem hlt, hs1, runW_snoc, ← hwe.out]
        have wn : Hide (Wok (doW w s).1) := ww.out.step s
        obtain ⟨w2, hw2⟩ : ∃ w2, Hide (w2 = (doW w s).1) := ⟨_, rfl⟩
        repeat' (first
          | (refine ac_seq_h fun K hK => ?_)
          | (refine ac_region_h fun K hK => ?_; simp (disch := omega) [go_sem, *, ilt_true, ile_true])
          | (refine ac_draw_h mixed (by kernel_rfl) fun K hK => ?_; simp (disch := omega) [go_sem, *, wrap64_id, upd_ne, mk3_true, flatten_replicate_one, stepK_if, ilt_true, ilt_false, ile_true, ile_false, Try.ntmps4])
          | (apply Hide.out hK; clear hK K; try with_reducible dsimp only [thenA])
          | (apply Hide.out ht; clear ht hf Kt Kf)
          | (apply Hide.out hf; clear ht hf Kt Kf)
          | (clear hK K; apply Hide.out hK; clear hK K; try with_reducible dsimp only [thenA])
          | (clear hK K; clear hK K; apply Hide.out hK; clear hK K; try with_reducible dsimp only [thenA])
          | (refine ac_block ?_)
          | (refine ac_skip ?_; simp only [thenA])
          | (refine ac_exit ?_; simp only [thenA, blockA, if_true, if_false, Nat.reduceEqDiff])
          | (with_reducible show nextK _ _ _ _ _ _ _; simp (disch := omega) [go_sem, *, wrap64_id, upd_ne, mk3_true, flatten_replicate_one, stepK_if, ilt_true, ilt_false, ile_true, ile_false, Try.ntmps4])
          | (refine wantK_split (fun hc => ?_) (fun hc => ?_) <;> (try simp only [Bool.not_eq_true', Bool.not_eq_false', Bool.not_eq_eq_eq_not, Bool.not_true, Bool.not_false, decide_eq_true_eq, decide_eq_false_iff_not, Int.not_lt, Int.not_le] at hc) <;> (try (exfalso; omega)) <;> (try simp (disch := omega) [go_sem, *, wrap64_id, upd_ne, mk3_true, flatten_replicate_one, stepK_if, ilt_true, ilt_false, ile_true, ile_false, Try.ntmps4]))
          | (refine ac_cond_h fun Kt Kf ht hf => ?_; simp (disch := omega) [go_sem, *]; try (refine ⟨fun hc => ?_, fun hc => ?_⟩ <;> try (exfalso; omega))))
        refine At.do A.out (by omega) ww.out wl2 s _ (fun H2 n2 hn2 A2 => ?_)
        rw [← hw2.out] at A2
        rw [← hw2.out] at hnext wn
        replace A2 : Hide _ := A2
        clear A
        repeat' (first
          | (refine ac_seq_h fun K hK => ?_)
          | (refine ac_region_h fun K hK => ?_; simp (disch := omega) [go_sem, *])
          | (refine ac_draw_h mixed (by kernel_rfl) fun K hK => ?_; simp (disch := omega) [go_sem, *, wrap64_id, upd_ne, mk3_true, flatten_replicate_one, stepK_if, ilt_true, ilt_false, ile_true, ile_false, Try.ntmps4])
          | (apply Hide.out hK; clear hK K; try with_reducible dsimp only [thenA])
          | (apply Hide.out ht; clear ht hf Kt Kf)
          | (apply Hide.out hf; clear ht hf Kt Kf)
          | (clear hK K; apply Hide.out hK; clear hK K; try with_reducible dsimp only [thenA])
          | (clear hK K; clear hK K; apply Hide.out hK; clear hK K; try with_reducible dsimp only [thenA])
          | (refine ac_block ?_)
          | (refine ac_skip ?_; simp only [thenA, blockA])
          | (refine ac_exit ?_; simp only [thenA, blockA, if_true, if_false, Nat.reduceEqDiff])
          | (with_reducible show nextK _ _ _ _ _ _ _; simp (disch := omega) [go_sem, *, wrap64_id, upd_ne, mk3_true, flatten_replicate_one, stepK_if, ilt_true, ilt_false, ile_true, ile_false, Try.ntmps4])
          | (refine wantK_split (fun hc => ?_) (fun hc => ?_) <;> (try simp only [Bool.not_eq_true', Bool.not_eq_false', Bool.not_eq_eq_eq_not, Bool.not_true, Bool.not_false, decide_eq_true_eq, decide_eq_false_iff_not, Int.not_lt, Int.not_le] at hc) <;> (try (exfalso; omega)) <;> (try simp (disch := omega) [go_sem, *, wrap64_id, upd_ne, mk3_true, flatten_replicate_one, stepK_if, ilt_true, ilt_false, ile_true, ile_false, Try.ntmps4]))
          | (refine ac_cond_h fun Kt Kf ht hf => ?_; simp (disch := omega) [go_sem, *, wrap64_id, upd_ne, mk3_true, flatten_replicate_one, stepK_if, ilt_true, ilt_false, ile_true, ile_false, Try.ntmps4]; try (refine ⟨fun hc => ?_, fun hc => ?_⟩ <;> try (exfalso; omega))))
        refine ac_loop_wk (fun s' => ∃ (a n3 : Nat), n2 ≤ n3 ∧ a ≤ S ∧ s' = ⟨98, [(0, iv .i64 S), (2, .fslc nl false 5 (l.map encStep)), (7, .ptr p 0), (9, iv .i64 i), (6, bv false), (10, iv .i64 a)], H2, n3⟩) (fun z => S - (intAt z 10).toNat) ?_ ?_
        · refine loop_start (by simp [go_sem]) (Sub.refl _) ⟨0, _, ?_, Nat.zero_le _, rfl⟩
          omega
        rintro s' ⟨a, n3, hn3, ha, rfl⟩
        by_cases hlta : a < S
        · skip
          repeat' (first
            | (refine ac_seq_h fun K hK => ?_)
            | (refine ac_region_h fun K hK => ?_; simp (disch := omega) [go_sem, *, ilt_true])
            | (refine ac_draw_h mixed (by kernel_rfl) fun K hK => ?_; simp (disch := omega) [go_sem, *, wrap64_id, upd_ne, mk3_true, flatten_replicate_one, stepK_if, ilt_true, ilt_false, ile_true, ile_false, Try.ntmps4])
            | (apply Hide.out hK; clear hK K; try with_reducible dsimp only [thenA])
            | (apply Hide.out ht; clear ht hf Kt Kf)
            | (apply Hide.out hf; clear ht hf Kt Kf)
            | (clear hK K; apply Hide.out hK; clear hK K; try with_reducible dsimp only [thenA])
            | (clear hK K; clear hK K; apply Hide.out hK; clear hK K; try with_reducible dsimp only [thenA])
            | (refine ac_block ?_)
            | (refine ac_skip ?_; simp only [thenA])
            | (refine ac_exit ?_; simp only [thenA, blockA, if_true, if_false, Nat.reduceEqDiff])
            | (with_reducible show nextK _ _ _ _ _ _ _; simp (disch := omega) [go_sem, *, wrap64_id, upd_ne, mk3_true, flatten_replicate_one, stepK_if, ilt_true, ilt_false, ile_true, ile_false, Try.ntmps4])
            | (refine wantK_split (fun hc => ?_) (fun hc => ?_) <;> (try simp only [Bool.not_eq_true', Bool.not_eq_false', Bool.not_eq_eq_eq_not, Bool.not_true, Bool.not_false, decide_eq_true_eq, decide_eq_false_iff_not, Int.not_lt, Int.not_le] at hc) <;> (try (exfalso; omega)) <;> (try simp (disch := omega) [go_sem, *, wrap64_id, upd_ne, mk3_true, flatten_replicate_one, stepK_if, ilt_true, ilt_false, ile_true, ile_false, Try.ntmps4]))
            | (refine ac_cond_h fun Kt Kf ht hf => ?_; simp (disch := omega) [go_sem, *]; try (refine ⟨fun hc => ?_, fun hc => ?_⟩ <;> try (exfalso; omega))))
          refine ac_loop_wk (fun s' => ∃ (b n4 : Nat), n2 ≤ n4 ∧ b ≤ S ∧ s' = ⟨98, [(0, iv .i64 S), (2, .fslc nl false 5 (l.map encStep)), (7, .ptr p 0), (9, iv .i64 i), (6, bv false), (10, iv .i64 a), (11, iv .i64 b)], H2, n4⟩) (fun z => S - (intAt z 11).toNat) ?_ ?_
          · refine loop_start (by simp [go_sem]) (Sub.refl _) ⟨0, _, ?_, Nat.zero_le _, rfl⟩
            omega
          rintro s' ⟨b, n4, hn4, hb2, rfl⟩
          by_cases hltb : b < S
          · obtain ⟨X, hX1, hX2⟩ := At.said A2.out wn.out (a : Int) (b : Int)
            obtain ⟨Y, hY1, hY2⟩ := At.heard A2.out wn.out (b : Int) (a : Int)
            obtain ⟨g1, g2, g3, g4, g5, g6⟩ := once_law wn.out (a : Int) (b : Int)
            have hop := fun k => At.open A2.out wn.out (a : Int) (b : Int) k
            obtain ⟨x1, x2, x3, rfl, hx⟩ := hX1
            obtain ⟨y1, y2, y3, rfl, hy⟩ := hY1
            have hfirst := first_spec (heardW w2 b a) (saidW w2 a b) y1 y2 x1 x2 y3 x3 hy hx g6 g5
            rw [g1] at hfirst
            generalize saidW w2 a b = X at *
            generalize heardW w2 b a = Y at *
            generalize openW w2 a b = O at *
            replace hX2 : Hide _ := hX2
            replace hY2 : Hide _ := hY2
            replace hop : Hide _ := hop
            replace hfirst : Hide _ := hfirst
            replace hx : Hide _ := hx
            replace hy : Hide _ := hy
            clear g1
            by_cases ca : (a : Int) = s.a
            · have ca2 : ((a : Int) == s.a) = true := by simpa using ca
              replace ca : Hide _ := ca
              repeat' (first
                | (refine ac_seq_h fun K hK => ?_)
                | (refine ac_region_h fun K hK => ?_; simp (disch := omega) [go_sem, *, ilt_true, ile_true])
                | (refine ac_draw_h mixed (by kernel_rfl) fun K hK => ?_; simp (disch := omega) [go_sem, *, wrap64_id, upd_ne, mk3_true, flatten_replicate_one, stepK_if, ilt_true, ilt_false, ile_true, ile_false, Try.ntmps4])
                | (apply Hide.out hK; clear hK K; try with_reducible dsimp only [thenA])
                | (apply Hide.out ht; clear ht hf Kt Kf)
                | (apply Hide.out hf; clear ht hf Kt Kf)
                | (clear hK K; apply Hide.out hK; clear hK K; try with_reducible dsimp only [thenA])
                | (clear hK K; clear hK K; apply Hide.out hK; clear hK K; try with_reducible dsimp only [thenA])
                | (refine ac_block ?_)
                | (refine ac_skip ?_; simp only [thenA])
                | (refine ac_exit ?_; simp only [thenA, blockA, if_true, if_false, Nat.reduceEqDiff])
                | (with_reducible show nextK _ _ _ _ _ _ _; simp (disch := omega) [go_sem, *, wrap64_id, upd_ne, mk3_true, flatten_replicate_one, stepK_if, ilt_true, ilt_false, ile_true, ile_false, Try.ntmps4])
                | (refine wantK_split (fun hc => ?_) (fun hc => ?_) <;> (try simp only [Bool.not_eq_true', Bool.not_eq_false', Bool.not_eq_eq_eq_not, Bool.not_true, Bool.not_false, decide_eq_true_eq, decide_eq_false_iff_not, Int.not_lt, Int.not_le] at hc) <;> (try (exfalso; omega)) <;> (try simp (disch := omega) [go_sem, *, wrap64_id, upd_ne, mk3_true, flatten_replicate_one, stepK_if, ilt_true, ilt_false, ile_true, ile_false, Try.ntmps4]))
                | (refine ac_cond_h fun Kt Kf ht hf => ?_; simp (disch := omega) [go_sem, *]; try (refine ⟨fun hc => ?_, fun hc => ?_⟩ <;> try (exfalso; omega))))
              refine APureAt.call (hX2.out _) ?_
              repeat' (first
                | (refine ac_seq_h fun K hK => ?_)
                | (refine ac_region_h fun K hK => ?_; simp (disch := omega) [go_sem, *])
                | (refine ac_draw_h mixed (by kernel_rfl) fun K hK => ?_; simp (disch := omega) [go_sem, *, wrap64_id, upd_ne, mk3_true, flatten_replicate_one, stepK_if, ilt_true, ilt_false, ile_true, ile_false, Try.ntmps4])
                | (apply Hide.out hK; clear hK K; try with_reducible dsimp only [thenA])
                | (apply Hide.out ht; clear ht hf Kt Kf)
                | (apply Hide.out hf; clear ht hf Kt Kf)
                | (clear hK K; apply Hide.out hK; clear hK K; try with_reducible dsimp only [thenA])
                | (clear hK K; clear hK K; apply Hide.out hK; clear hK K; try with_reducible dsimp only [thenA])
                | (refine ac_block ?_)
                | (refine ac_skip ?_; simp only [thenA, blockA])
                | (refine ac_exit ?_; simp only [thenA, blockA, if_true, if_false, Nat.reduceEqDiff])
                | (with_reducible show nextK _ _ _ _ _ _ _; simp (disch := omega) [go_sem, *])
                | (refine wantK_split (fun hc => ?_) (fun hc => ?_) <;> (try simp only [Bool.not_eq_true', Bool.not_eq_false', Bool.not_eq_eq_eq_not, Bool.not_true, Bool.not_false, decide_eq_true_eq, decide_eq_false_iff_not, Int.not_lt, Int.not_le] at hc) <;> (try (exfalso; omega)) <;> (try simp (disch := omega) [go_sem, *, wrap64_id, upd_ne, mk3_true, flatten_replicate_one, stepK_if, ilt_true, ilt_false, ile_true, ile_false, Try.ntmps4]))
                | (refine ac_cond_h fun Kt Kf ht hf => ?_; simp (disch := omega) [go_sem, *, wrap64_id, upd_ne, mk3_true, flatten_replicate_one, stepK_if, ilt_true, ilt_false, ile_true, ile_false, Try.ntmps4]; try (refine ⟨fun hc => ?_, fun hc => ?_⟩ <;> try (exfalso; omega))))
              refine APureAt.call (hY2.out _) ?_
              repeat' (first
                | (refine ac_seq_h fun K hK => ?_)
                | (refine ac_region_h fun K hK => ?_; simp (disch := omega) [go_sem, *])
                | (refine ac_draw_h mixed (by kernel_rfl) fun K hK => ?_; simp (disch := omega) [go_sem, *, wrap64_id, upd_ne, mk3_true, flatten_replicate_one, stepK_if, ilt_true, ilt_false, ile_true, ile_false, Try.ntmps4])
                | (apply Hide.out hK; clear hK K; try with_reducible dsimp only [thenA])
                | (apply Hide.out ht; clear ht hf Kt Kf)
                | (apply Hide.out hf; clear ht hf Kt Kf)
                | (clear hK K; apply Hide.out hK; clear hK K; try with_reducible dsimp only [thenA])
                | (clear hK K; clear hK K; apply Hide.out hK; clear hK K; try with_reducible dsimp only [thenA])
                | (refine ac_block ?_)
                | (refine ac_skip ?_; simp only [thenA, blockA])
                | (refine ac_exit ?_; simp only [thenA, blockA, if_true, if_false, Nat.reduceEqDiff])
                | (with_reducible show nextK _ _ _ _ _ _ _; simp (disch := omega) [go_sem, *])
                | (refine wantK_split (fun hc => ?_) (fun hc => ?_) <;> (try simp only [Bool.not_eq_true', Bool.not_eq_false', Bool.not_eq_eq_eq_not, Bool.not_true, Bool.not_false, decide_eq_true_eq, decide_eq_false_iff_not, Int.not_lt, Int.not_le] at hc) <;> (try (exfalso; omega)) <;> (try simp (disch := omega) [go_sem, *, wrap64_id, upd_ne, mk3_true, flatten_replicate_one, stepK_if, ilt_true, ilt_false, ile_true, ile_false, Try.ntmps4]))
                | (refine ac_cond_h fun Kt Kf ht hf => ?_; simp (disch := omega) [go_sem, *, wrap64_id, upd_ne, mk3_true, flatten_replicate_one, stepK_if, ilt_true, ilt_false, ile_true, ile_false, Try.ntmps4]; try (refine ⟨fun hc => ?_, fun hc => ?_⟩ <;> try (exfalso; omega))))
              refine APure.call hfirst.out ?_
              repeat' (first
                | (refine ac_seq_h fun K hK => ?_)
                | (refine ac_region_h fun K hK => ?_; simp (disch := omega) [go_sem, *, wrap64_id, upd_ne, mk3_true, flatten_replicate_one, stepK_if, ilt_true, ilt_false, ile_true, ile_false, Try.ntmps4])
                | (refine ac_draw_h mixed (by kernel_rfl) fun K hK => ?_; simp (disch := omega) [go_sem, *, wrap64_id, upd_ne, mk3_true, flatten_replicate_one, stepK_if, ilt_true, ilt_false, ile_true, ile_false, Try.ntmps4])
                | (apply Hide.out hK; clear hK K; try with_reducible dsimp only [thenA])
                | (apply Hide.out ht; clear ht hf Kt Kf)
                | (apply Hide.out hf; clear ht hf Kt Kf)
                | (clear hK K; apply Hide.out hK; clear hK K; try with_reducible dsimp only [thenA])
                | (clear hK K; clear hK K; apply Hide.out hK; clear hK K; try with_reducible dsimp only [thenA])
                | (refine ac_block ?_)
                | (refine ac_skip ?_; simp only [thenA, blockA])
                | (refine ac_exit ?_; simp only [thenA, blockA, if_true, if_false, Nat.reduceEqDiff])
                | (with_reducible show nextK _ _ _ _ _ _ _; simp (disch := omega) [go_sem, *])
                | (refine wantK_split (fun hc => ?_) (fun hc => ?_) <;> (try simp only [Bool.not_eq_true', Bool.not_eq_false', Bool.not_eq_eq_eq_not, Bool.not_true, Bool.not_false, decide_eq_true_eq, decide_eq_false_iff_not, Int.not_lt, Int.not_le] at hc) <;> (try (exfalso; omega)) <;> (try simp (disch := omega) [go_sem, *, wrap64_id, upd_ne, mk3_true, flatten_replicate_one, stepK_if, ilt_true, ilt_false, ile_true, ile_false, Try.ntmps4]))
                | (refine ac_cond_h fun Kt Kf ht hf => ?_; simp (disch := omega) [go_sem, *, wrap64_id, upd_ne, mk3_true, flatten_replicate_one, stepK_if, ilt_true, ilt_false, ile_true, ile_false, Try.ntmps4]; try (refine ⟨fun hc => ?_, fun hc => ?_⟩ <;> try (exfalso; omega))))
              refine APureAt.call (hop.out _) ?_
              repeat' (first
                | (refine ac_seq_h fun K hK => ?_)
                | (refine ac_region_h fun K hK => ?_; simp (disch := omega) [go_sem, *, wrap64_id, upd_ne, mk3_true, flatten_replicate_one, stepK_if, ilt_true, ilt_false, ile_true, ile_false, Try.ntmps4])
                | (refine ac_draw_h mixed (by kernel_rfl) fun K hK => ?_; simp (disch := omega) [go_sem, *, wrap64_id, upd_ne, mk3_true, flatten_replicate_one, stepK_if, ilt_true, ilt_false, ile_true, ile_false, Try.ntmps4])
                | (apply Hide.out hK; clear hK K; try with_reducible dsimp only [thenA])
                | (apply Hide.out ht; clear ht hf Kt Kf)
                | (apply Hide.out hf; clear ht hf Kt Kf)
                | (clear hK K; apply Hide.out hK; clear hK K; try with_reducible dsimp only [thenA])
                | (clear hK K; clear hK K; apply Hide.out hK; clear hK K; try with_reducible dsimp only [thenA])
                | (refine ac_block ?_)
                | (refine ac_skip ?_; simp only [thenA, blockA])
                | (refine ac_exit ?_; simp only [thenA, blockA, if_true, if_false, Nat.reduceEqDiff])
                | (with_reducible show nextK _ _ _ _ _ _ _; simp (disch := omega) [go_sem, *, wrap64_id, ilt_false])
                | (refine wantK_split (fun hc => ?_) (fun hc => ?_) <;> (try simp only [Bool.not_eq_true', Bool.not_eq_false', Bool.not_eq_eq_eq_not, Bool.not_true, Bool.not_false, decide_eq_true_eq, decide_eq_false_iff_not, Int.not_lt, Int.not_le] at hc) <;> (try (exfalso; omega)) <;> (try simp (disch := omega) [go_sem, *, wrap64_id, upd_ne, mk3_true, flatten_replicate_one, stepK_if, ilt_true, ilt_false, ile_true, ile_false, Try.ntmps4]))
                | (refine ac_cond_h fun Kt Kf ht hf => ?_; simp (disch := omega) [go_sem, *, wrap64_id, upd_ne, mk3_true, flatten_replicate_one, stepK_if, ilt_true, ilt_false, ile_true, ile_false, Try.ntmps4]; try (refine ⟨fun hc => ?_, fun hc => ?_⟩ <;> try (exfalso; omega))))
              refine APureAt.call (hop.out _) ?_
              repeat' (first
                | (refine ac_seq_h fun K hK => ?_)
                | (refine ac_region_h fun K hK => ?_; simp (disch := omega) [go_sem, *, wrap64_id])
                | (refine ac_draw_h mixed (by kernel_rfl) fun K hK => ?_; simp (disch := omega) [go_sem, *, wrap64_id, upd_ne, mk3_true, flatten_replicate_one, stepK_if, ilt_true, ilt_false, ile_true, ile_false, Try.ntmps4])
                | (apply Hide.out hK; clear hK K; try with_reducible dsimp only [thenA])
                | (apply Hide.out ht; clear ht hf Kt Kf)
                | (apply Hide.out hf; clear ht hf Kt Kf)
                | (clear hK K; apply Hide.out hK; clear hK K; try with_reducible dsimp only [thenA])
                | (clear hK K; clear hK K; apply Hide.out hK; clear hK K; try with_reducible dsimp only [thenA])
                | (refine ac_block ?_)
                | (refine ac_skip ?_; simp only [thenA, blockA])
                | (refine ac_exit ?_; simp only [thenA, blockA, if_true, if_false, Nat.reduceEqDiff])
                | (with_reducible show nextK _ _ _ _ _ _ _; simp (disch := omega) [go_sem, *, ilt_false])
                | (refine wantK_split (fun hc => ?_) (fun hc => ?_) <;> (try simp only [Bool.not_eq_true', Bool.not_eq_false', Bool.not_eq_eq_eq_not, Bool.not_true, Bool.not_false, decide_eq_true_eq, decide_eq_false_iff_not, Int.not_lt, Int.not_le] at hc) <;> (try (exfalso; omega)) <;> (try simp (disch := omega) [go_sem, *, wrap64_id, upd_ne, mk3_true, flatten_replicate_one, stepK_if, ilt_true, ilt_false, ile_true, ile_false, Try.ntmps4]))
                | (refine ac_cond_h fun Kt Kf ht hf => ?_; simp (disch := omega) [go_sem, *]; try (refine ⟨fun hc => ?_, fun hc => ?_⟩ <;> try (exfalso; omega))))
              refine round_end (by simp [go_sem]) (Sub.refl _) ⟨b + 1, _, ?_, by omega, rfl⟩ (by simp [intAt, go_sem]; omega)
              omega
            have ca2 : ((a : Int) == s.a) = false := by simpa using ca
            by_cases ck : 2 ≤ s.kind
            · skip
              repeat' (first
                | (refine ac_seq_h fun K hK => ?_)
                | (refine ac_region_h fun K hK => ?_; simp (disch := omega) [go_sem, *, ilt_true, ile_true])
                | (refine ac_draw_h mixed (by kernel_rfl) fun K hK => ?_; simp (disch := omega) [go_sem, *, wrap64_id, upd_ne, mk3_true, flatten_replicate_one, stepK_if, ilt_true, ilt_false, ile_true, ile_false, Try.ntmps4])
                | (apply Hide.out hK; clear hK K; try with_reducible dsimp only [thenA])
                | (apply Hide.out ht; clear ht hf Kt Kf)
                | (apply Hide.out hf; clear ht hf Kt Kf)
                | (clear hK K; apply Hide.out hK; clear hK K; try with_reducible dsimp only [thenA])
                | (clear hK K; clear hK K; apply Hide.out hK; clear hK K; try with_reducible dsimp only [thenA])
                | (refine ac_block ?_)
                | (refine ac_skip ?_; simp only [thenA])
                | (refine ac_exit ?_; simp only [thenA, blockA, if_true, if_false, Nat.reduceEqDiff])
                | (with_reducible show nextK _ _ _ _ _ _ _; simp (disch := omega) [go_sem, *, wrap64_id, upd_ne, mk3_true, flatten_replicate_one, stepK_if, ilt_true, ilt_false, ile_true, ile_false, Try.ntmps4])
                | (refine wantK_split (fun hc => ?_) (fun hc => ?_) <;> (try simp only [Bool.not_eq_true', Bool.not_eq_false', Bool.not_eq_eq_eq_not, Bool.not_true, Bool.not_false, decide_eq_true_eq, decide_eq_false_iff_not, Int.not_lt, Int.not_le] at hc) <;> (try (exfalso; omega)) <;> (try simp (disch := omega) [go_sem, *, wrap64_id, upd_ne, mk3_true, flatten_replicate_one, stepK_if, ilt_true, ilt_false, ile_true, ile_false, Try.ntmps4]))
                | (refine ac_cond_h fun Kt Kf ht hf => ?_; simp (disch := omega) [go_sem, *]; try (refine ⟨fun hc => ?_, fun hc => ?_⟩ <;> try (exfalso; omega))))
              refine APureAt.call (hX2.out _) ?_
              repeat' (first
                | (refine ac_seq_h fun K hK => ?_)
                | (refine ac_region_h fun K hK => ?_; simp (disch := omega) [go_sem, *])
                | (refine ac_draw_h mixed (by kernel_rfl) fun K hK => ?_; simp (disch := omega) [go_sem, *, wrap64_id, upd_ne, mk3_true, flatten_replicate_one, stepK_if, ilt_true, ilt_false, ile_true, ile_false, Try.ntmps4])
                | (apply Hide.out hK; clear hK K; try with_reducible dsimp only [thenA])
                | (apply Hide.out ht; clear ht hf Kt Kf)
                | (apply Hide.out hf; clear ht hf Kt Kf)
                | (clear hK K; apply Hide.out hK; clear hK K; try with_reducible dsimp only [thenA])
                | (clear hK K; clear hK K; apply Hide.out hK; clear hK K; try with_reducible dsimp only [thenA])
                | (refine ac_block ?_)
                | (refine ac_skip ?_; simp only [thenA, blockA])
                | (refine ac_exit ?_; simp only [thenA, blockA, if_true, if_false, Nat.reduceEqDiff])
                | (with_reducible show nextK _ _ _ _ _ _ _; simp (disch := omega) [go_sem, *])
                | (refine wantK_split (fun hc => ?_) (fun hc => ?_) <;> (try simp only [Bool.not_eq_true', Bool.not_eq_false', Bool.not_eq_eq_eq_not, Bool.not_true, Bool.not_false, decide_eq_true_eq, decide_eq_false_iff_not, Int.not_lt, Int.not_le] at hc) <;> (try (exfalso; omega)) <;> (try simp (disch := omega) [go_sem, *, wrap64_id, upd_ne, mk3_true, flatten_replicate_one, stepK_if, ilt_true, ilt_false, ile_true, ile_false, Try.ntmps4]))
                | (refine ac_cond_h fun Kt Kf ht hf => ?_; simp (disch := omega) [go_sem, *, wrap64_id, upd_ne, mk3_true, flatten_replicate_one, stepK_if, ilt_true, ilt_false, ile_true, ile_false, Try.ntmps4]; try (refine ⟨fun hc => ?_, fun hc => ?_⟩ <;> try (exfalso; omega))))
              refine APureAt.call (hY2.out _) ?_
              repeat' (first
                | (refine ac_seq_h fun K hK => ?_)
                | (refine ac_region_h fun K hK => ?_; simp (disch := omega) [go_sem, *])
                | (refine ac_draw_h mixed (by kernel_rfl) fun K hK => ?_; simp (disch := omega) [go_sem, *, wrap64_id, upd_ne, mk3_true, flatten_replicate_one, stepK_if, ilt_true, ilt_false, ile_true, ile_false, Try.ntmps4])
                | (apply Hide.out hK; clear hK K; try with_reducible dsimp only [thenA])
                | (apply Hide.out ht; clear ht hf Kt Kf)
                | (apply Hide.out hf; clear ht hf Kt Kf)
                | (clear hK K; apply Hide.out hK; clear hK K; try with_reducible dsimp only [thenA])
                | (clear hK K; clear hK K; apply Hide.out hK; clear hK K; try with_reducible dsimp only [thenA])
                | (refine ac_block ?_)
                | (refine ac_skip ?_; simp only [thenA, blockA])
                | (refine ac_exit ?_; simp only [thenA, blockA, if_true, if_false, Nat.reduceEqDiff])
                | (with_reducible show nextK _ _ _ _ _ _ _; simp (disch := omega) [go_sem, *])
                | (refine wantK_split (fun hc => ?_) (fun hc => ?_) <;> (try simp only [Bool.not_eq_true', Bool.not_eq_false', Bool.not_eq_eq_eq_not, Bool.not_true, Bool.not_false, decide_eq_true_eq, decide_eq_false_iff_not, Int.not_lt, Int.not_le] at hc) <;> (try (exfalso; omega)) <;> (try simp (disch := omega) [go_sem, *, wrap64_id, upd_ne, mk3_true, flatten_replicate_one, stepK_if, ilt_true, ilt_false, ile_true, ile_false, Try.ntmps4]))
                | (refine ac_cond_h fun Kt Kf ht hf => ?_; simp (disch := omega) [go_sem, *, wrap64_id, upd_ne, mk3_true, flatten_replicate_one, stepK_if, ilt_true, ilt_false, ile_true, ile_false, Try.ntmps4]; try (refine ⟨fun hc => ?_, fun hc => ?_⟩ <;> try (exfalso; omega))))
              refine APure.call hfirst.out ?_
              repeat' (first
                | (refine ac_seq_h fun K hK => ?_)
                | (refine ac_region_h fun K hK => ?_; simp (disch := omega) [go_sem, *, wrap64_id, upd_ne, mk3_true, flatten_replicate_one, stepK_if, ilt_true, ilt_false, ile_true, ile_false, Try.ntmps4])
                | (refine ac_draw_h mixed (by kernel_rfl) fun K hK => ?_; simp (disch := omega) [go_sem, *, wrap64_id, upd_ne, mk3_true, flatten_replicate_one, stepK_if, ilt_true, ilt_false, ile_true, ile_false, Try.ntmps4])
                | (apply Hide.out hK; clear hK K; try with_reducible dsimp only [thenA])
                | (apply Hide.out ht; clear ht hf Kt Kf)
                | (apply Hide.out hf; clear ht hf Kt Kf)
                | (clear hK K; apply Hide.out hK; clear hK K; try with_reducible dsimp only [thenA])
                | (clear hK K; clear hK K; apply Hide.out hK; clear hK K; try with_reducible dsimp only [thenA])
                | (refine ac_block ?_)
                | (refine ac_skip ?_; simp only [thenA, blockA])
                | (refine ac_exit ?_; simp only [thenA, blockA, if_true, if_false, Nat.reduceEqDiff])
                | (with_reducible show nextK _ _ _ _ _ _ _; simp (disch := omega) [go_sem, *])
                | (refine wantK_split (fun hc => ?_) (fun hc => ?_) <;> (try simp only [Bool.not_eq_true', Bool.not_eq_false', Bool.not_eq_eq_eq_not, Bool.not_true, Bool.not_false, decide_eq_true_eq, decide_eq_false_iff_not, Int.not_lt, Int.not_le] at hc) <;> (try (exfalso; omega)) <;> (try simp (disch := omega) [go_sem, *, wrap64_id, upd_ne, mk3_true, flatten_replicate_one, stepK_if, ilt_true, ilt_false, ile_true, ile_false, Try.ntmps4]))
                | (refine ac_cond_h fun Kt Kf ht hf => ?_; simp (disch := omega) [go_sem, *, wrap64_id, upd_ne, mk3_true, flatten_replicate_one, stepK_if, ilt_true, ilt_false, ile_true, ile_false, Try.ntmps4]; try (refine ⟨fun hc => ?_, fun hc => ?_⟩ <;> try (exfalso; omega))))
              refine APureAt.call (hop.out _) ?_
              repeat' (first
                | (refine ac_seq_h fun K hK => ?_)
                | (refine ac_region_h fun K hK => ?_; simp (disch := omega) [go_sem, *, wrap64_id, upd_ne, mk3_true, flatten_replicate_one, stepK_if, ilt_true, ilt_false, ile_true, ile_false, Try.ntmps4])
                | (refine ac_draw_h mixed (by kernel_rfl) fun K hK => ?_; simp (disch := omega) [go_sem, *, wrap64_id, upd_ne, mk3_true, flatten_replicate_one, stepK_if, ilt_true, ilt_false, ile_true, ile_false, Try.ntmps4])
                | (apply Hide.out hK; clear hK K; try with_reducible dsimp only [thenA])
                | (apply Hide.out ht; clear ht hf Kt Kf)
                | (apply Hide.out hf; clear ht hf Kt Kf)
                | (clear hK K; apply Hide.out hK; clear hK K; try with_reducible dsimp only [thenA])
                | (clear hK K; clear hK K; apply Hide.out hK; clear hK K; try with_reducible dsimp only [thenA])
                | (refine ac_block ?_)
                | (refine ac_skip ?_; simp only [thenA, blockA])
                | (refine ac_exit ?_; simp only [thenA, blockA, if_true, if_false, Nat.reduceEqDiff])
                | (with_reducible show nextK _ _ _ _ _ _ _; simp (disch := omega) [go_sem, *, wrap64_id, ilt_false])
                | (refine wantK_split (fun hc => ?_) (fun hc => ?_) <;> (try simp only [Bool.not_eq_true', Bool.not_eq_false', Bool.not_eq_eq_eq_not, Bool.not_true, Bool.not_false, decide_eq_true_eq, decide_eq_false_iff_not, Int.not_lt, Int.not_le] at hc) <;> (try (exfalso; omega)) <;> (try simp (disch := omega) [go_sem, *, wrap64_id, upd_ne, mk3_true, flatten_replicate_one, stepK_if, ilt_true, ilt_false, ile_true, ile_false, Try.ntmps4]))
                | (refine ac_cond_h fun Kt Kf ht hf => ?_; simp (disch := omega) [go_sem, *, wrap64_id, upd_ne, mk3_true, flatten_replicate_one, stepK_if, ilt_true, ilt_false, ile_true, ile_false, Try.ntmps4]; try (refine ⟨fun hc => ?_, fun hc => ?_⟩ <;> try (exfalso; omega))))
              refine APureAt.call (hop.out _) ?_
              repeat' (first
                | (refine ac_seq_h fun K hK => ?_)
                | (refine ac_region_h fun K hK => ?_; simp (disch := omega) [go_sem, *, wrap64_id])
                | (refine ac_draw_h mixed (by kernel_rfl) fun K hK => ?_; simp (disch := omega) [go_sem, *, wrap64_id, upd_ne, mk3_true, flatten_replicate_one, stepK_if, ilt_true, ilt_false, ile_true, ile_false, Try.ntmps4])
                | (apply Hide.out hK; clear hK K; try with_reducible dsimp only [thenA])
                | (apply Hide.out ht; clear ht hf Kt Kf)
                | (apply Hide.out hf; clear ht hf Kt Kf)
                | (clear hK K; apply Hide.out hK; clear hK K; try with_reducible dsimp only [thenA])
                | (clear hK K; clear hK K; apply Hide.out hK; clear hK K; try with_reducible dsimp only [thenA])
                | (refine ac_block ?_)
                | (refine ac_skip ?_; simp only [thenA, blockA])
                | (refine ac_exit ?_; simp only [thenA, blockA, if_true, if_false, Nat.reduceEqDiff])
                | (with_reducible show nextK _ _ _ _ _ _ _; simp (disch := omega) [go_sem, *, ilt_false])
                | (refine wantK_split (fun hc => ?_) (fun hc => ?_) <;> (try simp only [Bool.not_eq_true', Bool.not_eq_false', Bool.not_eq_eq_eq_not, Bool.not_true, Bool.not_false, decide_eq_true_eq, decide_eq_false_iff_not, Int.not_lt, Int.not_le] at hc) <;> (try (exfalso; omega)) <;> (try simp (disch := omega) [go_sem, *, wrap64_id, upd_ne, mk3_true, flatten_replicate_one, stepK_if, ilt_true, ilt_false, ile_true, ile_false, Try.ntmps4]))
                | (refine ac_cond_h fun Kt Kf ht hf => ?_; simp (disch := omega) [go_sem, *]; try (refine ⟨fun hc => ?_, fun hc => ?_⟩ <;> try (exfalso; omega))))
              refine round_end (by simp [go_sem]) (Sub.refl _) ⟨b + 1, _, ?_, by omega, rfl⟩ (by simp [intAt, go_sem]; omega)
              omega
            · skip
              repeat' (first
                | (refine ac_seq_h fun K hK => ?_)
                | (refine ac_region_h fun K hK => ?_; simp (disch := omega) [go_sem, *, wrap64_id, ilt_true, ile_true])
                | (refine ac_draw_h mixed (by kernel_rfl) fun K hK => ?_; simp (disch := omega) [go_sem, *, wrap64_id, upd_ne, mk3_true, flatten_replicate_one, stepK_if, ilt_true, ilt_false, ile_true, ile_false, Try.ntmps4])
                | (apply Hide.out hK; clear hK K; try with_reducible dsimp only [thenA])
                | (apply Hide.out ht; clear ht hf Kt Kf)
                | (apply Hide.out hf; clear ht hf Kt Kf)
                | (clear hK K; apply Hide.out hK; clear hK K; try with_reducible dsimp only [thenA])
                | (clear hK K; clear hK K; apply Hide.out hK; clear hK K; try with_reducible dsimp only [thenA])
                | (refine ac_block ?_)
                | (refine ac_skip ?_; simp only [thenA, blockA])
                | (refine ac_exit ?_; simp only [thenA, blockA, if_true, if_false, Nat.reduceEqDiff])
                | (with_reducible show nextK _ _ _ _ _ _ _; simp (disch := omega) [go_sem, *, wrap64_id, upd_ne, mk3_true, flatten_replicate_one, stepK_if, ilt_true, ilt_false, ile_true, ile_false, Try.ntmps4])
                | (refine wantK_split (fun hc => ?_) (fun hc => ?_) <;> (try simp only [Bool.not_eq_true', Bool.not_eq_false', Bool.not_eq_eq_eq_not, Bool.not_true, Bool.not_false, decide_eq_true_eq, decide_eq_false_iff_not, Int.not_lt, Int.not_le] at hc) <;> (try (exfalso; omega)) <;> (try simp (disch := omega) [go_sem, *, wrap64_id, upd_ne, mk3_true, flatten_replicate_one, stepK_if, ilt_true, ilt_false, ile_true, ile_false, Try.ntmps4]))
                | (refine ac_cond_h fun Kt Kf ht hf => ?_; simp (disch := omega) [go_sem, *]; try (refine ⟨fun hc => ?_, fun hc => ?_⟩ <;> try (exfalso; omega))))
              refine round_end (by simp [go_sem]) (Sub.refl _) ⟨a + 1, _, ?_, by omega, rfl⟩ (by simp [intAt, go_sem]; omega)
              omega
          · skip
            repeat' (first
              | (refine ac_seq_h fun K hK => ?_)
              | (refine ac_region_h fun K hK => ?_; simp (disch := omega) [go_sem, *, wrap64_id, ilt_false])
              | (refine ac_draw_h mixed (by kernel_rfl) fun K hK => ?_; simp (disch := omega) [go_sem, *, wrap64_id, upd_ne, mk3_true, flatten_replicate_one, stepK_if, ilt_true, ilt_false, ile_true, ile_false, Try.ntmps4])
              | (apply Hide.out hK; clear hK K; try with_reducible dsimp only [thenA])
              | (apply Hide.out ht; clear ht hf Kt Kf)
              | (apply Hide.out hf; clear ht hf Kt Kf)
              | (clear hK K; apply Hide.out hK; clear hK K; try with_reducible dsimp only [thenA])
              | (clear hK K; clear hK K; apply Hide.out hK; clear hK K; try with_reducible dsimp only [thenA])
              | (refine ac_block ?_)
              | (refine ac_skip ?_; simp only [thenA, blockA])
              | (refine ac_exit ?_; simp only [thenA, blockA, if_true, if_false, Nat.reduceEqDiff])
              | (with_reducible show nextK _ _ _ _ _ _ _; simp (disch := omega) [go_sem, *, wrap64_id, upd_ne, mk3_true, flatten_replicate_one, stepK_if, ilt_true, ilt_false, ile_true, ile_false, Try.ntmps4])
              | (refine wantK_split (fun hc => ?_) (fun hc => ?_) <;> (try simp only [Bool.not_eq_true', Bool.not_eq_false', Bool.not_eq_eq_eq_not, Bool.not_true, Bool.not_false, decide_eq_true_eq, decide_eq_false_iff_not, Int.not_lt, Int.not_le] at hc) <;> (try (exfalso; omega)) <;> (try simp (disch := omega) [go_sem, *, wrap64_id, upd_ne, mk3_true, flatten_replicate_one, stepK_if, ilt_true, ilt_false, ile_true, ile_false, Try.ntmps4]))
              | (refine ac_cond_h fun Kt Kf ht hf => ?_; simp (disch := omega) [go_sem, *]; try (refine ⟨fun hc => ?_, fun hc => ?_⟩ <;> try (exfalso; omega))))
            refine round_end (by simp [go_sem]) (Sub.refl _) ⟨a + 1, _, ?_, by omega, rfl⟩ (by simp [intAt, go_sem]; omega)
            omega
        · skip
          repeat' (first
            | (refine ac_seq_h fun K hK => ?_)
            | (refine ac_region_h fun K hK => ?_; simp (disch := omega) [go_sem, *, wrap64_id, ilt_false])
            | (refine ac_draw_h mixed (by kernel_rfl) fun K hK => ?_; simp (disch := omega) [go_sem, *, wrap64_id, upd_ne, mk3_true, flatten_replicate_one, stepK_if, ilt_true, ilt_false, ile_true, ile_false, Try.ntmps4])
            | (apply Hide.out hK; clear hK K; try with_reducible dsimp only [thenA])
            | (apply Hide.out ht; clear ht hf Kt Kf)
            | (apply Hide.out hf; clear ht hf Kt Kf)
            | (clear hK K; apply Hide.out hK; clear hK K; try with_reducible dsimp only [thenA])
            | (clear hK K; clear hK K; apply Hide.out hK; clear hK K; try with_reducible dsimp only [thenA])
            | (refine ac_block ?_)
            | (refine ac_skip ?_; simp only [thenA, blockA])
            | (refine ac_exit ?_; simp only [thenA, blockA, if_true, if_false, Nat.reduceEqDiff])
            | (with_reducible show nextK _ _ _ _ _ _ _; simp (disch := omega) [go_sem, *, wrap64_id, upd_ne, mk3_true, flatten_replicate_one, stepK_if, ilt_true, ilt_false, ile_true, ile_false, Try.ntmps4])
            | (refine wantK_split (fun hc => ?_) (fun hc => ?_) <;> (try simp only [Bool.not_eq_true', Bool.not_eq_false', Bool.not_eq_eq_eq_not, Bool.not_true, Bool.not_false, decide_eq_true_eq, decide_eq_false_iff_not, Int.not_lt, Int.not_le] at hc) <;> (try (exfalso; omega)) <;> (try simp (disch := omega) [go_sem, *, wrap64_id, upd_ne, mk3_true, flatten_replicate_one, stepK_if, ilt_true, ilt_false, ile_true, ile_false, Try.ntmps4]))
            | (refine ac_cond_h fun Kt Kf ht hf => ?_; simp (disch := omega) [go_sem, *]; try (refine ⟨fun hc => ?_, fun hc => ?_⟩ <;> try (exfalso; omega))))
          refine round_end (by simp [go_sem]) (Sub.refl _) ⟨i + 1, _, _, by omega, ?_, rfl⟩ (by simp [intAt, go_sem]; omega)
          rw [hnext.out]
          exact At.mono A2.out (by omega)
      · have hil : i = l.length := by omega
        repeat' (first
          | (refine ac_seq_h fun K hK => ?_)
          | (refine ac_region_h fun K hK => ?_; simp (disch := omega) [go_sem, *])
          | (refine ac_draw_h mixed (by kernel_rfl) fun K hK => ?_; simp (disch := omega) [go_sem, *, wrap64_id, upd_ne, mk3_true, flatten_replicate_one, stepK_if, ilt_true, ilt_false, ile_true, ile_false, Try.ntmps4])
          | (apply Hide.out hK; clear hK K; try with_reducible dsimp only [thenA])
          | (apply Hide.out ht; clear ht hf Kt Kf)
          | (apply Hide.out hf; clear ht hf Kt Kf)
          | (clear hK K; apply Hide.out hK; clear hK K; try with_reducible dsimp only [thenA])
          | (clear hK K; clear hK K; apply Hide.out hK; clear hK K; try with_reducible dsimp only [thenA])
          | (refine ac_block ?_)
          | (refine ac_skip ?_; simp only [thenA, blockA])
          | (refine ac_exit ?_; simp only [thenA, blockA, if_true])
          | (with_reducible show nextK _ _ _ _ _ _ _; simp (disch := omega) [go_sem, *, wrap64_id, upd_ne, mk3_true, flatten_replicate_one, stepK_if, ilt_true, ilt_false, ile_true, ile_false, Try.ntmps4])
          | (refine wantK_split (fun hc => ?_) (fun hc => ?_) <;> (try simp only [Bool.not_eq_true', Bool.not_eq_false', Bool.not_eq_eq_eq_not, Bool.not_true, Bool.not_false, decide_eq_true_eq, decide_eq_false_iff_not, Int.not_lt, Int.not_le] at hc) <;> (try (exfalso; omega)) <;> (try simp (disch := omega) [go_sem, *, wrap64_id, upd_ne, mk3_true, flatten_replicate_one, stepK_if, ilt_true, ilt_false, ile_true, ile_false, Try.ntmps4]))
          | (refine ac_cond_h fun Kt Kf ht hf => ?_; simp (disch := omega) [go_sem, *]; try (refine ⟨fun hc => ?_, fun hc => ?_⟩ <;> try (exfalso; omega))))
        refine APure.call worlds_spec ?_
        repeat' (first
          | (refine ac_seq_h fun K hK => ?_)
          | (refine ac_region_h fun K hK => ?_; simp (disch := omega) [go_sem, *, wrap64_id, upd_ne, mk3_true, flatten_replicate_one, stepK_if, ilt_true, ilt_false, ile_true, ile_false, Try.ntmps4])
          | (refine ac_draw_h mixed (by kernel_rfl) fun K hK => ?_; simp (disch := omega) [go_sem, *, wrap64_id, upd_ne, mk3_true, flatten_replicate_one, stepK_if, ilt_true, ilt_false, ile_true, ile_false, Try.ntmps4])
          | (apply Hide.out hK; clear hK K; try with_reducible dsimp only [thenA])
          | (apply Hide.out ht; clear ht hf Kt Kf)
          | (apply Hide.out hf; clear ht hf Kt Kf)
          | (clear hK K; apply Hide.out hK; clear hK K; try with_reducible dsimp only [thenA])
          | (clear hK K; clear hK K; apply Hide.out hK; clear hK K; try with_reducible dsimp only [thenA])
          | (refine ac_block ?_)
          | (refine ac_skip ?_; simp only [thenA, blockA])
          | (refine ac_exit ?_; simp only [thenA, blockA, if_true, if_false, Nat.reduceEqDiff])
          | (with_reducible show nextK _ _ _ _ _ _ _; simp (disch := omega) [go_sem, *])
          | (refine wantK_split (fun hc => ?_) (fun hc => ?_) <;> (try simp only [Bool.not_eq_true', Bool.not_eq_false', Bool.not_eq_eq_eq_not, Bool.not_true, Bool.not_false, decide_eq_true_eq, decide_eq_false_iff_not, Int.not_lt, Int.not_le] at hc) <;> (try (exfalso; omega)) <;> (try simp (disch := omega) [go_sem, *, wrap64_id, upd_ne, mk3_true, flatten_replicate_one, stepK_if, ilt_true, ilt_false, ile_true, ile_false, Try.ntmps4]))
          | (refine ac_cond_h fun Kt Kf ht hf => ?_; simp (disch := omega) [go_sem, *, wrap64_id, upd_ne, mk3_true, flatten_replicate_one, stepK_if, ilt_true, ilt_false, ile_true, ile_false, Try.ntmps4]; try (refine ⟨fun hc => ?_, fun hc => ?_⟩ <;> try (exfalso; omega))))
        refine ac_ret ?_
        refine ⟨by simp, _, (by simp (disch := omega) [go_sem] <;> rfl), ?_⟩
        obtain ⟨N, V, R, hp, ho, hf, hb0⟩ := A.out
        refine ret_id ⟨fun k hk => hf k (by omega), by simp [go_sem, below], by simp [go_sem], rfl, rfl⟩
end Go.AM
