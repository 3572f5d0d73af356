/- Walks: Last to Arrives. Conditions: as each theorem says. -/
import Derived.Test.YtkhdnlojgoonkaaWa
namespace Go.AM
open Go.Proofs Nets
set_option maxRecDepth 10000
set_option maxHeartbeats 4000000
theorem backward_spec (nl : Bool) (l : List Span) (h : AHeap) (n : Nat) (K : AV → AHeap → Nat → Prop) (hk : K (.func (.func 56) [] [.ptr n 0]) (h.upd n (some (.cells [encOpen nl l]))) (n + 2 + 2)) : ACalls Try.prog 37 [encOpen nl l] h n K := by
  refine ACalls.entry (by kernel_rfl) fun hb _ => calls_of Try.func37 rfl (by kernel_rfl) (by simp [Try.ntmps37]) ?_
  repeat' (first
    | (refine ac_seq_h fun K hK => ?_)
    | (refine ac_region_h fun K hK => ?_; simp (disch := omega) [go_sem, *, Try.ntmps37])
    | (refine ac_draw_h mixed (by kernel_rfl) fun K hK => ?_; simp (disch := omega) [go_sem, *, wrap64_id, upd_ne, mk3_true, flatten_replicate_one, stepK_if, ilt_true, ilt_false, ile_true, ile_false, Try.ntmps37])
    | (apply Hide.out hK; clear hK K; try with_reducible dsimp only [thenA])
    | (apply Hide.out ht; clear ht hf Kt Kf)
    | (apply Hide.out hf; clear ht hf Kt Kf)
    | (clear hK K; apply Hide.out hK; clear hK K; try with_reducible dsimp only [thenA])
    | (clear hK K; clear hK K; apply Hide.out hK; clear hK K; try with_reducible dsimp only [thenA])
    | (refine ac_block ?_)
    | (refine ac_skip ?_; simp only [thenA, blockA])
    | (refine ac_exit ?_; simp only [thenA, blockA, if_true, if_false, Nat.reduceEqDiff])
    | (with_reducible show nextK _ _ _ _ _ _ _; simp (disch := omega) [go_sem, *, wrap64_id, upd_ne, mk3_true, flatten_replicate_one, stepK_if, ilt_true, ilt_false, ile_true, ile_false, Try.ntmps37])
    | (refine wantK_split (fun hc => ?_) (fun hc => ?_) <;> (try simp only [Bool.not_eq_true', Bool.not_eq_false', Bool.not_eq_eq_eq_not, Bool.not_true, Bool.not_false, decide_eq_true_eq, decide_eq_false_iff_not, Int.not_lt, Int.not_le] at hc) <;> (try (exfalso; omega)) <;> (try simp (disch := omega) [go_sem, *, wrap64_id, upd_ne, mk3_true, flatten_replicate_one, stepK_if, ilt_true, ilt_false, ile_true, ile_false, Try.ntmps37]))
    | (refine ac_cond_h fun Kt Kf ht hf => ?_; simp (disch := omega) [go_sem, *, wrap64_id, upd_ne, mk3_true, flatten_replicate_one, stepK_if, ilt_true, ilt_false, ile_true, ile_false, Try.ntmps37]; try (refine ⟨fun hc => ?_, fun hc => ?_⟩ <;> try (exfalso; omega))))
  refine ac_ret ?_
  try dsimp only [thenA, blockA]
  refine ⟨by simp, _, rfl, ?_⟩
  exact ret_id hk
theorem backward_iter (m p : Nat) (nl : Bool) (l : List Span) (hl : l.length < 1000000) (I : Nat → AHeap → Nat → Prop) (J : AHeap → Nat → Prop) (h : AHeap) (n : Nat) (K : AV → AHeap → Nat → Prop)
    (h0 : I l.length h n) (hp : ∀ k h' n', I k h' n' → h' p = some (.cells [encOpen nl l]) ∧ n ≤ n') (mono : ∀ k h' a b, I k h' a → a ≤ b → I k h' b)
    (step : ∀ k x h' n', n ≤ n' → l[k]? = some x → I (k + 1) h' n' → YieldsA Try.prog m [iv .i64 k, encSpan x] (I k) J h' n')
    (hI : ∀ h' n', I 0 h' n' → K (.tup []) h' n') (hJ : ∀ h' n', J h' n' → K (.tup []) h' n') : ACalls Try.prog 56 [.yld m, .ptr p 0] h n K := by
  refine ACalls.entry (by kernel_rfl) fun hb _ => calls_of Try.func56 rfl (by kernel_rfl) (by simp [Try.ntmps56]) ?_
  have hp0 := (hp _ _ _ h0).1
  repeat' (first
    | (refine ac_seq_h fun K hK => ?_)
    | (refine ac_region_h fun K hK => ?_; simp (disch := omega) [go_sem, *, wrap64_id, Try.ntmps56])
    | (refine ac_draw_h mixed (by kernel_rfl) fun K hK => ?_; simp (disch := omega) [go_sem, *, wrap64_id, upd_ne, mk3_true, flatten_replicate_one, stepK_if, ilt_true, ilt_false, ile_true, ile_false, Try.ntmps56])
    | (apply Hide.out hK; clear hK K; try with_reducible dsimp only [thenA])
    | (apply Hide.out ht; clear ht hf Kt Kf)
    | (apply Hide.out hf; clear ht hf Kt Kf)
    | (clear hK K; apply Hide.out hK; clear hK K; try with_reducible dsimp only [thenA])
    | (clear hK K; clear hK K; apply Hide.out hK; clear hK K; try with_reducible dsimp only [thenA])
    | (refine ac_block ?_)
    | (refine ac_skip ?_; simp only [thenA, blockA])
    | (refine ac_exit ?_; simp only [thenA, blockA, if_true, if_false, Nat.reduceEqDiff])
    | (with_reducible show nextK _ _ _ _ _ _ _; simp (disch := omega) [go_sem, *, wrap64_id, upd_ne, mk3_true, flatten_replicate_one, stepK_if, ilt_true, ilt_false, ile_true, ile_false, Try.ntmps56])
    | (refine wantK_split (fun hc => ?_) (fun hc => ?_) <;> (try simp only [Bool.not_eq_true', Bool.not_eq_false', Bool.not_eq_eq_eq_not, Bool.not_true, Bool.not_false, decide_eq_true_eq, decide_eq_false_iff_not, Int.not_lt, Int.not_le] at hc) <;> (try (exfalso; omega)) <;> (try simp (disch := omega) [go_sem, *, wrap64_id, upd_ne, mk3_true, flatten_replicate_one, stepK_if, ilt_true, ilt_false, ile_true, ile_false, Try.ntmps56]))
    | (refine ac_cond_h fun Kt Kf ht hf => ?_; simp (disch := omega) [go_sem, *, wrap64_id, upd_ne, mk3_true, flatten_replicate_one, stepK_if, ilt_true, ilt_false, ile_true, ile_false, Try.ntmps56]; try (refine ⟨fun hc => ?_, fun hc => ?_⟩ <;> try (exfalso; omega))))
  refine ac_loop_wk (fun s => ∃ (k n' : Nat) (h' : AHeap), n ≤ n' ∧ k ≤ l.length ∧ I k h' n' ∧ s = ⟨19, [(0, .yld m), (1, .ptr p 0), (3, iv .i64 (k - 1))], h', n'⟩)
      (fun s => upAt s 3) ?_ ?_
  · refine loop_start (by simp [go_sem]) (Sub.refl _) ⟨l.length, _, _, ?_, Nat.le_refl _, mono _ _ _ _ h0 ?_, rfl⟩ <;> omega
  · rintro s ⟨k, n', h', hn', hk, hIk, rfl⟩
    have hpk := (hp _ _ _ hIk).1
    by_cases hlt : 0 < k
    · obtain ⟨k, rfl⟩ : ∃ j, k = j + 1 := ⟨k - 1, by omega⟩
      have e1 : ((k + 1 : Nat) : Int) - 1 = (k : Int) := by omega
      rw [e1]
      obtain ⟨x, hx1, hx2, _⟩ := at_k (show k < l.length by omega)
      have hst := fun b hb => step k x h' b (by omega) hx2 (mono _ _ n' b hIk hb)
      clear step hIk
      repeat' (first
        | (refine ac_seq_h fun K hK => ?_)
        | (refine ac_region_h fun K hK => ?_; simp (disch := omega) [go_sem, *, ile_true])
        | (refine ac_draw_h mixed (by kernel_rfl) fun K hK => ?_; simp (disch := omega) [go_sem, *, wrap64_id, upd_ne, mk3_true, flatten_replicate_one, stepK_if, ilt_true, ilt_false, ile_true, ile_false])
        | (apply Hide.out hK; clear hK K; try with_reducible dsimp only [thenA])
        | (apply Hide.out ht; clear ht hf Kt Kf)
        | (apply Hide.out hf; clear ht hf Kt Kf)
        | (clear hK K; apply Hide.out hK; clear hK K; try with_reducible dsimp only [thenA])
        | (clear hK K; clear hK K; apply Hide.out hK; clear hK K; try with_reducible dsimp only [thenA])
        | (refine ac_block ?_)
        | (refine ac_skip ?_; simp only [thenA])
        | (refine ac_exit ?_; simp only [thenA, blockA, if_true, if_false, Nat.reduceEqDiff])
        | (with_reducible show nextK _ _ _ _ _ _ _; simp (disch := omega) [go_sem, *, wrap64_id, upd_ne, mk3_true, flatten_replicate_one, stepK_if, ilt_true, ilt_false, ile_true, ile_false])
        | (refine wantK_split (fun hc => ?_) (fun hc => ?_) <;> (try simp only [Bool.not_eq_true', Bool.not_eq_false', Bool.not_eq_eq_eq_not, Bool.not_true, Bool.not_false, decide_eq_true_eq, decide_eq_false_iff_not, Int.not_lt, Int.not_le] at hc) <;> (try (exfalso; omega)) <;> (try simp (disch := omega) [go_sem, *, wrap64_id, upd_ne, mk3_true, flatten_replicate_one, stepK_if, ilt_true, ilt_false, ile_true, ile_false]))
        | (refine ac_cond_h fun Kt Kf ht hf => ?_; simp (disch := omega) [go_sem, *]; try (refine ⟨fun hc => ?_, fun hc => ?_⟩ <;> try (exfalso; omega))))
      refine hst _ (by omega) _ (fun h2 n2 hI2 => ?_) (fun h2 n2 hJ2 => ?_)
      · skip
        repeat' (first
          | (refine ac_seq_h fun K hK => ?_)
          | (refine ac_region_h fun K hK => ?_; simp (disch := omega) [go_sem, *, wrap64_id])
          | (refine ac_draw_h mixed (by kernel_rfl) fun K hK => ?_; simp (disch := omega) [go_sem, *, wrap64_id, upd_ne, mk3_true, flatten_replicate_one, stepK_if, ilt_true, ilt_false, ile_true, ile_false])
          | (apply Hide.out hK; clear hK K; try with_reducible dsimp only [thenA])
          | (apply Hide.out ht; clear ht hf Kt Kf)
          | (apply Hide.out hf; clear ht hf Kt Kf)
          | (clear hK K; apply Hide.out hK; clear hK K; try with_reducible dsimp only [thenA])
          | (clear hK K; clear hK K; apply Hide.out hK; clear hK K; try with_reducible dsimp only [thenA])
          | (refine ac_block ?_)
          | (refine ac_skip ?_; simp only [thenA, blockA])
          | (refine ac_exit ?_; simp only [thenA, blockA, if_true, if_false, Nat.reduceEqDiff])
          | (with_reducible show nextK _ _ _ _ _ _ _; simp (disch := omega) [go_sem, *])
          | (refine wantK_split (fun hc => ?_) (fun hc => ?_) <;> (try simp only [Bool.not_eq_true', Bool.not_eq_false', Bool.not_eq_eq_eq_not, Bool.not_true, Bool.not_false, decide_eq_true_eq, decide_eq_false_iff_not, Int.not_lt, Int.not_le] at hc) <;> (try (exfalso; omega)) <;> (try simp (disch := omega) [go_sem, *, wrap64_id, upd_ne, mk3_true, flatten_replicate_one, stepK_if, ilt_true, ilt_false, ile_true, ile_false]))
          | (refine ac_cond_h fun Kt Kf ht hf => ?_; simp (disch := omega) [go_sem, *]; try (refine ⟨fun hc => ?_, fun hc => ?_⟩ <;> try (exfalso; omega))))
        have := (hp _ _ _ hI2).2
        exact round_end (by simp [go_sem]) (Sub.refl _) ⟨k, _, h2, by omega, by omega, mono _ _ _ _ hI2 (by omega), rfl⟩ (by simp [upAt, intAt, go_sem])
      · skip
        repeat' (first
          | (refine ac_seq_h fun K hK => ?_)
          | (refine ac_region_h fun K hK => ?_; simp (disch := omega) [go_sem, *, wrap64_id, upd_ne, mk3_true, flatten_replicate_one, stepK_if, ilt_true, ilt_false, ile_true, ile_false])
          | (refine ac_draw_h mixed (by kernel_rfl) fun K hK => ?_; simp (disch := omega) [go_sem, *, wrap64_id, upd_ne, mk3_true, flatten_replicate_one, stepK_if, ilt_true, ilt_false, ile_true, ile_false])
          | (apply Hide.out hK; clear hK K; try with_reducible dsimp only [thenA])
          | (apply Hide.out ht; clear ht hf Kt Kf)
          | (apply Hide.out hf; clear ht hf Kt Kf)
          | (clear hK K; apply Hide.out hK; clear hK K; try with_reducible dsimp only [thenA])
          | (clear hK K; clear hK K; apply Hide.out hK; clear hK K; try with_reducible dsimp only [thenA])
          | (refine ac_block ?_)
          | (refine ac_skip ?_; simp only [thenA, blockA])
          | (refine ac_exit ?_; simp only [thenA, blockA, if_true, if_false, Nat.reduceEqDiff])
          | (with_reducible show nextK _ _ _ _ _ _ _; simp (disch := omega) [go_sem, *])
          | (refine wantK_split (fun hc => ?_) (fun hc => ?_) <;> (try simp only [Bool.not_eq_true', Bool.not_eq_false', Bool.not_eq_eq_eq_not, Bool.not_true, Bool.not_false, decide_eq_true_eq, decide_eq_false_iff_not, Int.not_lt, Int.not_le] at hc) <;> (try (exfalso; omega)) <;> (try simp (disch := omega) [go_sem, *, wrap64_id, upd_ne, mk3_true, flatten_replicate_one, stepK_if, ilt_true, ilt_false, ile_true, ile_false]))
          | (refine ac_cond_h fun Kt Kf ht hf => ?_; simp (disch := omega) [go_sem, *]; try (refine ⟨fun hc => ?_, fun hc => ?_⟩ <;> try (exfalso; omega))))
        refine ac_ret ?_
        try dsimp only [thenA, blockA]
        refine ⟨by simp, _, rfl, ?_⟩
        exact ret_id (hJ _ _ hJ2)
    · obtain rfl : k = 0 := by omega
      repeat' (first
        | (refine ac_seq_h fun K hK => ?_)
        | (refine ac_region_h fun K hK => ?_; simp (disch := omega) [go_sem, *, ile_false])
        | (refine ac_draw_h mixed (by kernel_rfl) fun K hK => ?_; simp (disch := omega) [go_sem, *, wrap64_id, upd_ne, mk3_true, flatten_replicate_one, stepK_if, ilt_true, ilt_false, ile_true, ile_false])
        | (apply Hide.out hK; clear hK K; try with_reducible dsimp only [thenA])
        | (apply Hide.out ht; clear ht hf Kt Kf)
        | (apply Hide.out hf; clear ht hf Kt Kf)
        | (clear hK K; apply Hide.out hK; clear hK K; try with_reducible dsimp only [thenA])
        | (clear hK K; clear hK K; apply Hide.out hK; clear hK K; try with_reducible dsimp only [thenA])
        | (refine ac_block ?_)
        | (refine ac_skip ?_; simp only [thenA, blockA])
        | (refine ac_exit ?_; simp only [thenA, blockA, if_true])
        | (with_reducible show nextK _ _ _ _ _ _ _; simp (disch := omega) [go_sem, *, wrap64_id, upd_ne, mk3_true, flatten_replicate_one, stepK_if, ilt_true, ilt_false, ile_true, ile_false])
        | (refine wantK_split (fun hc => ?_) (fun hc => ?_) <;> (try simp only [Bool.not_eq_true', Bool.not_eq_false', Bool.not_eq_eq_eq_not, Bool.not_true, Bool.not_false, decide_eq_true_eq, decide_eq_false_iff_not, Int.not_lt, Int.not_le] at hc) <;> (try (exfalso; omega)) <;> (try simp (disch := omega) [go_sem, *, wrap64_id, upd_ne, mk3_true, flatten_replicate_one, stepK_if, ilt_true, ilt_false, ile_true, ile_false]))
        | (refine ac_cond_h fun Kt Kf ht hf => ?_; simp (disch := omega) [go_sem, *]; try (refine ⟨fun hc => ?_, fun hc => ?_⟩ <;> try (exfalso; omega))))
      refine ⟨by simp, _, rfl, ?_⟩
      exact ret_id (hI _ _ (mono _ _ _ _ hIk (by omega)))
theorem last_spec (l : Link) (tick : Int) : APure Try.prog 14 [encLink l, iv .i64 tick] (.tup [iv .i64 (last l tick).1, bv (last l tick).2]) := by
  intro h n
  refine ACalls.pure (ACalls.entry (by kernel_rfl) fun hb _ => calls_of Try.func14 rfl (by kernel_rfl) (by simp [Try.ntmps14]) ?_)
  cases hr : right l
  · skip
    repeat' (first
      | (refine ac_seq_h fun K hK => ?_)
      | (refine ac_region_h fun K hK => ?_; simp (disch := omega) [go_sem, *, upd_ne, Try.ntmps14 ])
      | (refine ac_draw_h mixed (by kernel_rfl) fun K hK => ?_; simp (disch := omega) [go_sem, *, wrap64_id, upd_ne, mk3_true, flatten_replicate_one, stepK_if, ilt_true, ilt_false, ile_true, ile_false, Try.ntmps14 ])
      | (apply Hide.out hK; clear hK K; try with_reducible dsimp only [thenA])
      | (apply Hide.out ht; clear ht hf Kt Kf)
      | (apply Hide.out hf; clear ht hf Kt Kf)
      | (clear hK K; apply Hide.out hK; clear hK K; try with_reducible dsimp only [thenA])
      | (clear hK K; clear hK K; apply Hide.out hK; clear hK K; try with_reducible dsimp only [thenA])
      | (with_reducible refine APure.call (right_spec _) ?_; try simp (disch := omega) [go_sem, * ])
      | (refine ac_block ?_)
      | (refine ac_skip ?_; simp only [thenA, blockA])
      | (refine ac_exit ?_; simp only [thenA, blockA, if_true, if_false, Nat.reduceEqDiff])
      | (with_reducible show nextK _ _ _ _ _ _ _; simp (disch := omega) [go_sem, *, wrap64_id, upd_ne, mk3_true, flatten_replicate_one, stepK_if, ilt_true, ilt_false, ile_true, ile_false, Try.ntmps14 ])
      | (refine wantK_split (fun hc => ?_) (fun hc => ?_) <;> (try simp only [Bool.not_eq_true', Bool.not_eq_false', Bool.not_eq_eq_eq_not, Bool.not_true, Bool.not_false, decide_eq_true_eq, decide_eq_false_iff_not, Int.not_lt, Int.not_le] at hc) <;> (try (exfalso; omega)) <;> (try simp (disch := omega) [go_sem, *, wrap64_id, upd_ne, mk3_true, flatten_replicate_one, stepK_if, ilt_true, ilt_false, ile_true, ile_false, Try.ntmps14 ]))
      | (refine ac_cond_h fun Kt Kf ht hf => ?_; simp (disch := omega) [go_sem, * ]; try (refine ⟨fun hc => ?_, fun hc => ?_⟩ <;> try (exfalso; omega))))
    try dsimp only [thenA, blockA]
    (refine ac_ret ?_; try dsimp only [thenA, blockA]; refine ⟨by simp, _, (by first | rfl | (simp (disch := omega) [go_sem, upd_ne] <;> rfl)), ?_⟩; refine ret_id ⟨fun k hk => (by first | rfl | (repeat rw [upd_ne _ _ _ _ (by omega)])), (by simp [go_sem, below, belowL]), (by simp [go_sem, last, hr] <;> omega), by simp, by simp⟩)
  have hL : last l tick = lastGo l.delay tick l.opn.reverse := by simp [last, hr]
  obtain ⟨d1, d2, o1, o2⟩ := right_spans hr
  repeat' (first
    | (refine ac_seq_h fun K hK => ?_)
    | (refine ac_region_h fun K hK => ?_; simp (disch := omega) [go_sem, *, upd_ne, Try.ntmps14 ])
    | (refine ac_draw_h mixed (by kernel_rfl) fun K hK => ?_; simp (disch := omega) [go_sem, *, wrap64_id, upd_ne, mk3_true, flatten_replicate_one, stepK_if, ilt_true, ilt_false, ile_true, ile_false, Try.ntmps14 ])
    | (apply Hide.out hK; clear hK K; try with_reducible dsimp only [thenA])
    | (apply Hide.out ht; clear ht hf Kt Kf)
    | (apply Hide.out hf; clear ht hf Kt Kf)
    | (clear hK K; apply Hide.out hK; clear hK K; try with_reducible dsimp only [thenA])
    | (clear hK K; clear hK K; apply Hide.out hK; clear hK K; try with_reducible dsimp only [thenA])
    | (with_reducible refine APure.call (right_spec _) ?_; try simp (disch := omega) [go_sem, * ])
    | (refine ac_block ?_)
    | (refine ac_skip ?_; simp only [thenA])
    | (refine ac_exit ?_; simp only [thenA, blockA, if_true, if_false, Nat.reduceEqDiff])
    | (with_reducible show nextK _ _ _ _ _ _ _; simp (disch := omega) [go_sem, *, wrap64_id, upd_ne, mk3_true, flatten_replicate_one, stepK_if, ilt_true, ilt_false, ile_true, ile_false, Try.ntmps14 ])
    | (refine wantK_split (fun hc => ?_) (fun hc => ?_) <;> (try simp only [Bool.not_eq_true', Bool.not_eq_false', Bool.not_eq_eq_eq_not, Bool.not_true, Bool.not_false, decide_eq_true_eq, decide_eq_false_iff_not, Int.not_lt, Int.not_le] at hc) <;> (try (exfalso; omega)) <;> (try simp (disch := omega) [go_sem, *, wrap64_id, upd_ne, mk3_true, flatten_replicate_one, stepK_if, ilt_true, ilt_false, ile_true, ile_false, Try.ntmps14 ]))
    | (refine ac_cond_h fun Kt Kf ht hf => ?_; simp (disch := omega) [go_sem, * ]; try (refine ⟨fun hc => ?_, fun hc => ?_⟩ <;> try (exfalso; omega))))
  refine backward_spec _ _ _ _ _ ?_
  simp [go_sem]
  apply Hide.out hK
  clear hK K
  dsimp only [thenA]
  apply Hide.out hK
  clear hK K
  refine ac_block ?_
  refine ac_rangeFunc (by rfl) ?_
  obtain ⟨H, hH⟩ : ∃ H, Hide (H = (((((h.upd n (some (cellsLink l))).upd (n + 1) (some (.cells [iv .i64 tick]))).upd (n + 2) (some (.cells [iv .i64 0]))).upd (n + 3) (some (.cells [bv false]))).upd (n + 4 + 3 + 3) (some (.cells [encOpen l.nl l.opn])))) := ⟨_, rfl⟩
  have hHB : NB H (n + 4 + 3 + 3 + 1) := fun k hk => by rw [hH.out]; simp (disch := omega) only [upd_ne]; exact hb.none (by omega)
  simp only [← hH.out]
  generalize hLO : AObj.loop LoopState.ready none 30 _ _ _ _ = LO
  refine backward_iter _ _ l.nl l.opn (by omega) (fun k h' n' => lastGo l.delay tick (l.opn.take k).reverse = lastGo l.delay tick l.opn.reverse ∧ n + 4 + 3 + 3 + 2 + 2 + 1 ≤ n' ∧ h' = H.upd (n + 4 + 3 + 3 + 2 + 2) (some LO)) (fun h' n' => (∀ k, k < n → h' k = h k) ∧ h' (n + 2) = some (.cells [iv .i64 (last l tick).1]) ∧ h' (n + 3) = some (.cells [bv (last l tick).2]) ∧ n + 4 + 3 + 3 + 2 + 2 + 1 ≤ n' ∧ ∃ s ps asg body, h' (n + 4 + 3 + 3 + 2 + 2) = some (.loop .done (some .ret) 30 s ps asg body)) _ _ _ ?_ ?_ ?_ ?_ ?_ ?_
  · exact ⟨by simp, Nat.le_refl _, rfl⟩
  · rintro k h' n' ⟨_, h1, rfl⟩
    refine ⟨?_, by omega⟩
    rw [hH.out]; simp (disch := omega) [upd_ne, upd_same]
  · rintro k h' a b ⟨h1, h2, h3⟩ hab
    exact ⟨h1, by omega, h3⟩
  · rintro k x h' n' hn hx ⟨hgo, hn', rfl⟩ KK hI hJ
    subst hLO
    refine yield_at (upd_same _ _ _) rfl (by simp) ?_
    have hx2 := o2 k x hx
    clear o2
    rw [reverse_at hx, lastGo] at hgo
    have h1 : H n = some (cellsLink l) := by rw [hH.out]; simp (disch := omega) only [upd_ne, upd_same]
    have h2 : H (n + 1) = some (.cells [iv .i64 tick]) := by rw [hH.out]; simp (disch := omega) only [upd_ne, upd_same]
    have h3 : H (n + 2) = some (.cells [iv .i64 0]) := by rw [hH.out]; simp (disch := omega) only [upd_ne, upd_same]
    have h4 : H (n + 3) = some (.cells [bv false]) := by rw [hH.out]; simp (disch := omega) only [upd_ne, upd_same]
    simp only [go_sem]
    repeat' (first
      | (refine ac_seq_h fun K hK => ?_)
      | (refine ac_region_h fun K hK => ?_; simp (disch := omega) [go_sem, *, encSpan])
      | (refine ac_draw_h mixed (by kernel_rfl) fun K hK => ?_; simp (disch := omega) [go_sem, *, wrap64_id, upd_ne, mk3_true, flatten_replicate_one, stepK_if, ilt_true, ilt_false, ile_true, ile_false, encSpan])
      | (apply Hide.out hK; clear hK K; try with_reducible dsimp only [thenA])
      | (apply Hide.out ht; clear ht hf Kt Kf)
      | (apply Hide.out hf; clear ht hf Kt Kf)
      | (clear hK K; apply Hide.out hK; clear hK K; try with_reducible dsimp only [thenA])
      | (clear hK K; clear hK K; apply Hide.out hK; clear hK K; try with_reducible dsimp only [thenA])
      | (refine ac_block ?_)
      | (refine ac_skip ?_; simp only [thenA, blockA])
      | (refine ac_exit ?_; simp only [thenA, blockA, if_true, if_false, Nat.reduceEqDiff])
      | (with_reducible show nextK _ _ _ _ _ _ _; simp (disch := omega) [go_sem, *, wrap64_id, upd_ne, mk3_true, flatten_replicate_one, stepK_if, ilt_true, ilt_false, ile_true, ile_false, encSpan])
      | (refine wantK_split (fun hc => ?_) (fun hc => ?_) <;> (try simp only [Bool.not_eq_true', Bool.not_eq_false', Bool.not_eq_eq_eq_not, Bool.not_true, Bool.not_false, decide_eq_true_eq, decide_eq_false_iff_not, Int.not_lt, Int.not_le] at hc) <;> (try (exfalso; omega)) <;> (try simp (disch := omega) [go_sem, *, wrap64_id, upd_ne, mk3_true, flatten_replicate_one, stepK_if, ilt_true, ilt_false, ile_true, ile_false, encSpan]))
      | (refine ac_cond_h fun Kt Kf ht hf => ?_; simp (disch := omega) [go_sem, *, wrap64_id, upd_ne, mk3_true, flatten_replicate_one, stepK_if, ilt_true, ilt_false, ile_true, ile_false, encSpan]; try (refine ⟨fun hc => ?_, fun hc => ?_⟩ <;> try (exfalso; omega))))
    refine asg_keep H (by simp (disch := omega) only [upd_ne, upd_same]) ?_
    repeat' (first
      | (refine ac_seq_h fun K hK => ?_)
      | (refine ac_region_h fun K hK => ?_; simp (disch := omega) [go_sem, *, wrap64_id, upd_ne])
      | (refine ac_draw_h mixed (by kernel_rfl) fun K hK => ?_; simp (disch := omega) [go_sem, *, wrap64_id, upd_ne, mk3_true, flatten_replicate_one, stepK_if, ilt_true, ilt_false, ile_true, ile_false, encSpan])
      | (apply Hide.out hK; clear hK K; try with_reducible dsimp only [thenA])
      | (apply Hide.out ht; clear ht hf Kt Kf)
      | (apply Hide.out hf; clear ht hf Kt Kf)
      | (clear hK K; apply Hide.out hK; clear hK K; try with_reducible dsimp only [thenA])
      | (clear hK K; clear hK K; apply Hide.out hK; clear hK K; try with_reducible dsimp only [thenA])
      | (refine ac_block ?_)
      | (refine ac_skip ?_; simp only [blockA])
      | (refine ac_exit ?_; simp only [thenA, blockA, if_true, if_false, Nat.reduceEqDiff])
      | (with_reducible show nextK _ _ _ _ _ _ _; simp (disch := omega) [go_sem, *, wrap64_id, upd_ne, mk3_true, flatten_replicate_one, stepK_if, ilt_true, ilt_false, ile_true, ile_false, encSpan])
      | (refine wantK_split (fun hc => ?_) (fun hc => ?_) <;> (try simp only [Bool.not_eq_true', Bool.not_eq_false', Bool.not_eq_eq_eq_not, Bool.not_true, Bool.not_false, decide_eq_true_eq, decide_eq_false_iff_not, Int.not_lt, Int.not_le] at hc) <;> (try (exfalso; omega)) <;> (try simp (disch := omega) [go_sem, *, wrap64_id, upd_ne, mk3_true, flatten_replicate_one, stepK_if, ilt_true, ilt_false, ile_true, ile_false, encSpan]))
      | (refine ac_cond_h fun Kt Kf ht hf => ?_; simp (disch := omega) [go_sem, *]; try (refine ⟨fun hc => ?_, fun hc => ?_⟩ <;> try (exfalso; omega))))
    · simp only [hc, if_true] at hgo
      refine ac_ret ?_
      refine ⟨by simp (disch := omega) only [upd_ne, upd_same], Hide.out hJ _ _ ?_⟩
      refine ⟨fun k hk => ?_, ?_, ?_, ?_, _, _, _, _, upd_same _ _ _⟩
      · simp (disch := omega) only [upd_ne]; rw [hH.out]; simp (disch := omega) only [upd_ne]
      · simp (disch := omega) only [upd_ne, upd_same]; rw [hL, ← hgo]
      · simp (disch := omega) only [upd_ne, upd_same]; rw [hL, ← hgo]
      · simp only; omega
    · rw [if_neg (by omega)] at hgo
      refine keep_round ?_ (by simp (disch := omega) only [upd_same]) (Hide.out hI _ _ ⟨hgo, by simp only; omega, rfl⟩)
      repeat (first | exact SubX.refl _ _ | refine SubX.at ?_ _ | refine SubX.new ?_ (hHB _ (by omega)) _)
  · rintro h' n' ⟨hgo, hn', rfl⟩
    subst hLO
    rw [rangeK, upd_same]
    simp [lastGo] at hgo
    refine ⟨by simp, ?_⟩
    dsimp only [blockA, thenA]
    apply Hide.out hK
    clear hK K
    have h3 : H (n + 2) = some (.cells [iv .i64 0]) := by rw [hH.out]; simp (disch := omega) only [upd_ne, upd_same]
    have h4 : H (n + 3) = some (.cells [bv false]) := by rw [hH.out]; simp (disch := omega) only [upd_ne, upd_same]
    repeat' (first
      | (refine ac_seq_h fun K hK => ?_)
      | (refine ac_region_h fun K hK => ?_; simp (disch := omega) [go_sem, *, upd_ne])
      | (refine ac_draw_h mixed (by kernel_rfl) fun K hK => ?_; simp (disch := omega) [go_sem, *, wrap64_id, upd_ne, mk3_true, flatten_replicate_one, stepK_if, ilt_true, ilt_false, ile_true, ile_false])
      | (apply Hide.out hK; clear hK K; try with_reducible dsimp only [thenA])
      | (apply Hide.out ht; clear ht hf Kt Kf)
      | (apply Hide.out hf; clear ht hf Kt Kf)
      | (clear hK K; apply Hide.out hK; clear hK K; try with_reducible dsimp only [thenA])
      | (clear hK K; clear hK K; apply Hide.out hK; clear hK K; try with_reducible dsimp only [thenA])
      | (refine ac_block ?_)
      | (refine ac_skip ?_; simp only [thenA, blockA])
      | (refine ac_exit ?_; simp only [thenA, blockA, if_true, if_false, Nat.reduceEqDiff])
      | (with_reducible show nextK _ _ _ _ _ _ _; simp (disch := omega) [go_sem, *, wrap64_id, upd_ne, mk3_true, flatten_replicate_one, stepK_if, ilt_true, ilt_false, ile_true, ile_false])
      | (refine wantK_split (fun hc => ?_) (fun hc => ?_) <;> (try simp only [Bool.not_eq_true', Bool.not_eq_false', Bool.not_eq_eq_eq_not, Bool.not_true, Bool.not_false, decide_eq_true_eq, decide_eq_false_iff_not, Int.not_lt, Int.not_le] at hc) <;> (try (exfalso; omega)) <;> (try simp (disch := omega) [go_sem, *, wrap64_id, upd_ne, mk3_true, flatten_replicate_one, stepK_if, ilt_true, ilt_false, ile_true, ile_false]))
      | (refine ac_cond_h fun Kt Kf ht hf => ?_; simp (disch := omega) [go_sem, *, wrap64_id, upd_ne, mk3_true, flatten_replicate_one, stepK_if, ilt_true, ilt_false, ile_true, ile_false]; try (refine ⟨fun hc => ?_, fun hc => ?_⟩ <;> try (exfalso; omega))))
    (refine ac_ret ?_; refine ⟨by simp, _, (by simp (disch := omega) [go_sem, upd_ne] <;> rfl), ?_⟩; refine ret_id ⟨fun k hk => ?_, (by simp [go_sem, below, belowL]), (by simp [go_sem, hL, ← hgo]), by simp, by simp⟩)
    simp (disch := omega) only [upd_ne]; rw [hH.out]; simp (disch := omega) only [upd_ne]
  · rintro h' n' ⟨j1, j2, j3, j4, s, ps, asg, body, j5⟩
    rw [rangeK, j5]
    refine ⟨by simp, ?_⟩
    dsimp only [blockA, thenA]
    refine ⟨by simp, _, (by simp (disch := omega) [go_sem, j2, j3, upd_ne] <;> rfl), ret_id ⟨fun k hk => ?_, ?_, rfl, by simp, by simp⟩⟩
    · rw [upd_ne _ _ _ _ (by omega)]; exact j1 k hk
    · simp [go_sem, below, belowL]
end Go.AM

namespace Go.AM
open Go.Proofs Nets
set_option maxRecDepth 10000
set_option maxHeartbeats 4000000
def sameGo (a b : List Int) : Nat → Bool
  | 0 => true
  | k + 1 => sameGo a b k && decide (a[k]? = b[k]?)
theorem sameInts_spec (n1 n2 f1 f2 : Bool) (s1 s2 : Nat) (a b : List Int) (ha : a.length < 1000000) (h1 : a ≠ [] → s1 = 1) (h2 : b ≠ [] → s2 = 1) : APure Try.prog 22 [.fslc n1 f1 s1 (a.map (iv .i64)), .fslc n2 f2 s2 (b.map (iv .i64))] (bv (decide (a = b))) := by
  intro h n
  refine ACalls.pure (ACalls.entry (by kernel_rfl) fun hb _ => calls_of Try.func22 rfl (by kernel_rfl) (by simp [Try.ntmps22]) ?_)
  by_cases hl : a.length = b.length
  · skip
    repeat' (first
      | (refine ac_seq_h fun K hK => ?_)
      | (refine ac_region_h fun K hK => ?_; simp (disch := omega) [go_sem, *, Try.ntmps22])
      | (refine ac_draw_h mixed (by kernel_rfl) fun K hK => ?_; simp (disch := omega) [go_sem, *, wrap64_id, upd_ne, mk3_true, flatten_replicate_one, stepK_if, ilt_true, ilt_false, ile_true, ile_false, Try.ntmps22])
      | (apply Hide.out hK; clear hK K; try with_reducible dsimp only [thenA])
      | (apply Hide.out ht; clear ht hf Kt Kf)
      | (apply Hide.out hf; clear ht hf Kt Kf)
      | (clear hK K; apply Hide.out hK; clear hK K; try with_reducible dsimp only [thenA])
      | (clear hK K; clear hK K; apply Hide.out hK; clear hK K; try with_reducible dsimp only [thenA])
      | (refine ac_block ?_)
      | (refine ac_skip ?_; simp only [thenA])
      | (refine ac_exit ?_; simp only [thenA, blockA, if_true, if_false, Nat.reduceEqDiff])
      | (with_reducible show nextK _ _ _ _ _ _ _; simp (disch := omega) [go_sem, *, wrap64_id, upd_ne, mk3_true, flatten_replicate_one, stepK_if, ilt_true, ilt_false, ile_true, ile_false, Try.ntmps22])
      | (refine wantK_split (fun hc => ?_) (fun hc => ?_) <;> (try simp only [Bool.not_eq_true', Bool.not_eq_false', Bool.not_eq_eq_eq_not, Bool.not_true, Bool.not_false, decide_eq_true_eq, decide_eq_false_iff_not, Int.not_lt, Int.not_le] at hc) <;> (try (exfalso; omega)) <;> (try simp (disch := omega) [go_sem, *, wrap64_id, upd_ne, mk3_true, flatten_replicate_one, stepK_if, ilt_true, ilt_false, ile_true, ile_false, Try.ntmps22]))
      | (refine ac_cond_h fun Kt Kf ht hf => ?_; simp (disch := omega) [go_sem, *]; try (refine ⟨fun hc => ?_, fun hc => ?_⟩ <;> try (exfalso; omega))))
    refine ac_loop_wk (fun s => ∃ k n' : Nat, n ≤ n' ∧ k ≤ a.length ∧ (∀ j, j < k → a[j]? = b[j]?) ∧ s = ⟨26, [(0, .fslc n1 f1 s1 (a.map (iv .i64))), (1, .fslc n2 f2 s2 (b.map (iv .i64))), (5, iv .i64 k)], h, n'⟩)
      (fun s => a.length - (intAt s 5).toNat) ?_ ?_
    · exact loop_start (by simp [go_sem]) (Sub.refl _) ⟨0, _, by omega, by omega, by simp, rfl⟩
    · rintro s ⟨k, n', hn', hk, hgo, rfl⟩
      by_cases hlt : k < a.length
      · obtain ⟨x, hx1, hx2, _⟩ := at_k hlt
        obtain ⟨y, hy1, hy2, _⟩ := at_k (show k < b.length by omega)
        have hs1 := h1 (by intro e; simp [e] at hlt)
        have hs2 := h2 (by intro e; simp [e] at hl; simp [hl] at hlt)
        subst hs1; subst hs2
        have hltb : k < b.length := by omega
        have hh : Hide (∀ j, j < k → a[j]? = b[j]?) := hgo
        clear h1 h2 hgo
        repeat' (first
          | (refine ac_seq_h fun K hK => ?_)
          | (refine ac_region_h fun K hK => ?_; simp (disch := omega) [go_sem, *, wrap64_id, ilt_true])
          | (refine ac_draw_h mixed (by kernel_rfl) fun K hK => ?_; simp (disch := omega) [go_sem, *, ile_true])
          | (apply Hide.out hK; clear hK K; try with_reducible dsimp only [thenA])
          | (apply Hide.out ht; clear ht hf Kt Kf)
          | (apply Hide.out hf; clear ht hf Kt Kf)
          | (clear hK K; apply Hide.out hK; clear hK K; try with_reducible dsimp only [thenA])
          | (clear hK K; clear hK K; apply Hide.out hK; clear hK K; try with_reducible dsimp only [thenA])
          | (refine ac_block ?_)
          | (refine ac_skip ?_; simp only [thenA, blockA])
          | (refine ac_exit ?_; simp only [thenA, blockA, if_true, if_false, Nat.reduceEqDiff])
          | (with_reducible show nextK _ _ _ _ _ _ _; simp (disch := omega) [go_sem, *, wrap64_id, upd_ne, mk3_true, flatten_replicate_one, stepK_if, ilt_true, ilt_false, ile_true, ile_false])
          | (refine wantK_split (fun hc => ?_) (fun hc => ?_) <;> (try simp only [Bool.not_eq_true', Bool.not_eq_false', Bool.not_eq_eq_eq_not, Bool.not_true, Bool.not_false, decide_eq_true_eq, decide_eq_false_iff_not, Int.not_lt, Int.not_le] at hc) <;> (try (exfalso; omega)) <;> (try simp (disch := omega) [go_sem, *, wrap64_id, upd_ne, mk3_true, flatten_replicate_one, stepK_if, ilt_true, ilt_false, ile_true, ile_false]))
          | (refine ac_cond_h fun Kt Kf ht hf => ?_; simp (disch := omega) [go_sem, *]; try (refine ⟨fun hc => ?_, fun hc => ?_⟩ <;> try (exfalso; omega))))
        · have : a ≠ b := fun e => by subst e; rw [hy1] at hx1; exact hc hx1.symm
          (refine ac_ret ?_; try dsimp only [thenA, blockA]; refine ⟨by simp, _, (by first | rfl | (simp (disch := omega) [go_sem, upd_ne] <;> rfl)), ?_⟩; refine ret_id ⟨fun k hk => (by first | rfl | (repeat rw [upd_ne _ _ _ _ (by omega)])), (by simp [go_sem, below]), (by simp [go_sem, this] <;> omega), by simp, by simp⟩)
        · have hgo := hh.out
          (refine round_end (by simp [go_sem]) (by repeat (first | exact Sub.refl _ | refine Sub.upd ?_ (hb.none _ (by omega)) _)) ⟨k + 1, _, by omega, by omega, (fun j hj => by rcases Nat.lt_or_ge j k with h | h; exact hgo j h; obtain rfl : j = k := (by omega); rw [hx2, hy2, hc]), rfl⟩ (by simp [intAt, go_sem]; try omega))
      · have e : a = b := List.ext_getElem? fun j => by
          rcases Nat.lt_or_ge j a.length with h | h
          · exact hgo j (by omega)
          · rw [List.getElem?_eq_none h, List.getElem?_eq_none (by omega)]
        clear hgo
        subst e
        repeat' (first
          | (refine ac_seq_h fun K hK => ?_)
          | (refine ac_region_h fun K hK => ?_; simp (disch := omega) [go_sem, *, ilt_false])
          | (refine ac_draw_h mixed (by kernel_rfl) fun K hK => ?_; simp (disch := omega) [go_sem, *, wrap64_id, upd_ne, mk3_true, flatten_replicate_one, stepK_if, ilt_true, ilt_false, ile_true, ile_false])
          | (apply Hide.out hK; clear hK K; try with_reducible dsimp only [thenA])
          | (apply Hide.out ht; clear ht hf Kt Kf)
          | (apply Hide.out hf; clear ht hf Kt Kf)
          | (clear hK K; apply Hide.out hK; clear hK K; try with_reducible dsimp only [thenA])
          | (clear hK K; clear hK K; apply Hide.out hK; clear hK K; try with_reducible dsimp only [thenA])
          | (refine ac_block ?_)
          | (refine ac_skip ?_; simp only [thenA, blockA])
          | (refine ac_exit ?_; simp only [thenA, blockA, if_true])
          | (with_reducible show nextK _ _ _ _ _ _ _; simp (disch := omega) [go_sem, *, wrap64_id, upd_ne, mk3_true, flatten_replicate_one, stepK_if, ilt_true, ilt_false, ile_true, ile_false])
          | (refine wantK_split (fun hc => ?_) (fun hc => ?_) <;> (try simp only [Bool.not_eq_true', Bool.not_eq_false', Bool.not_eq_eq_eq_not, Bool.not_true, Bool.not_false, decide_eq_true_eq, decide_eq_false_iff_not, Int.not_lt, Int.not_le] at hc) <;> (try (exfalso; omega)) <;> (try simp (disch := omega) [go_sem, *, wrap64_id, upd_ne, mk3_true, flatten_replicate_one, stepK_if, ilt_true, ilt_false, ile_true, ile_false]))
          | (refine ac_cond_h fun Kt Kf ht hf => ?_; simp (disch := omega) [go_sem, *]; try (refine ⟨fun hc => ?_, fun hc => ?_⟩ <;> try (exfalso; omega))))
        (refine ac_ret ?_; try dsimp only [thenA, blockA]; refine ⟨by simp, _, (by first | rfl | (simp (disch := omega) [go_sem, upd_ne] <;> rfl)), ?_⟩; refine ret_id ⟨fun k hk => (by first | rfl | (repeat rw [upd_ne _ _ _ _ (by omega)])), (by simp [go_sem, below]), (by simp [go_sem] <;> omega), by simp, by simp⟩)
  · have hne : a ≠ b := fun e => hl (by rw [e])
    have hlI : ¬ (a.length : Int) = b.length := by omega
    repeat' (first
      | (refine ac_seq_h fun K hK => ?_)
      | (refine ac_region_h fun K hK => ?_; simp (disch := omega) [go_sem, *, Try.ntmps22])
      | (refine ac_draw_h mixed (by kernel_rfl) fun K hK => ?_; simp (disch := omega) [go_sem, *, wrap64_id, upd_ne, mk3_true, flatten_replicate_one, stepK_if, ilt_true, ilt_false, ile_true, ile_false, Try.ntmps22])
      | (apply Hide.out hK; clear hK K; try with_reducible dsimp only [thenA])
      | (apply Hide.out ht; clear ht hf Kt Kf)
      | (apply Hide.out hf; clear ht hf Kt Kf)
      | (clear hK K; apply Hide.out hK; clear hK K; try with_reducible dsimp only [thenA])
      | (clear hK K; clear hK K; apply Hide.out hK; clear hK K; try with_reducible dsimp only [thenA])
      | (refine ac_block ?_)
      | (refine ac_skip ?_; simp only [thenA, blockA])
      | (refine ac_exit ?_; simp only [thenA, blockA, if_true, if_false, Nat.reduceEqDiff])
      | (with_reducible show nextK _ _ _ _ _ _ _; simp (disch := omega) [go_sem, *, wrap64_id, upd_ne, mk3_true, flatten_replicate_one, stepK_if, ilt_true, ilt_false, ile_true, ile_false, Try.ntmps22])
      | (refine wantK_split (fun hc => ?_) (fun hc => ?_) <;> (try simp only [Bool.not_eq_true', Bool.not_eq_false', Bool.not_eq_eq_eq_not, Bool.not_true, Bool.not_false, decide_eq_true_eq, decide_eq_false_iff_not, Int.not_lt, Int.not_le] at hc) <;> (try (exfalso; omega)) <;> (try simp (disch := omega) [go_sem, *, wrap64_id, upd_ne, mk3_true, flatten_replicate_one, stepK_if, ilt_true, ilt_false, ile_true, ile_false, Try.ntmps22]))
      | (refine ac_cond_h fun Kt Kf ht hf => ?_; simp (disch := omega) [go_sem, *]; try (refine ⟨fun hc => ?_, fun hc => ?_⟩ <;> try (exfalso; omega))))
    (refine ac_ret ?_; try dsimp only [thenA, blockA]; refine ⟨by simp, _, (by first | rfl | (simp (disch := omega) [go_sem, upd_ne] <;> rfl)), ?_⟩; refine ret_id ⟨fun k hk => (by first | rfl | (repeat rw [upd_ne _ _ _ _ (by omega)])), (by simp [go_sem, below]), (by simp [go_sem, hne] <;> omega), by simp, by simp⟩)
end Go.AM

namespace Go.AM
open Go.Proofs Nets
set_option maxRecDepth 10000
set_option maxHeartbeats 4000000
def fewGo (all : Nat) : List Link → Bool
  | [] => decide (all ≤ 12)
  | l :: r => if 20 < l.opn.length then false else fewGo all r
def fewN (N : Net) : Bool := if 40 < N.links.length then true else fewGo N.links.length N.links
theorem few_spec (N : Net) : APure Try.prog 10 [encNet N] (bv (fewN N)) := by
  intro h n
  refine ACalls.pure (ACalls.entry (by kernel_rfl) fun hb _ => calls_of Try.func10 rfl (by kernel_rfl) (by simp [Try.ntmps10]) ?_)
  by_cases h40 : 40 < N.links.length
  · skip
    repeat' (first
      | (refine ac_seq_h fun K hK => ?_)
      | (refine ac_region_h fun K hK => ?_; simp (disch := omega) [go_sem, *, ilt_true, Try.ntmps10])
      | (refine ac_draw_h mixed (by kernel_rfl) fun K hK => ?_; simp (disch := omega) [go_sem, *, wrap64_id, upd_ne, mk3_true, flatten_replicate_one, stepK_if, ilt_true, ilt_false, ile_true, ile_false, Try.ntmps10])
      | (apply Hide.out hK; clear hK K; try with_reducible dsimp only [thenA])
      | (apply Hide.out ht; clear ht hf Kt Kf)
      | (apply Hide.out hf; clear ht hf Kt Kf)
      | (clear hK K; apply Hide.out hK; clear hK K; try with_reducible dsimp only [thenA])
      | (clear hK K; clear hK K; apply Hide.out hK; clear hK K; try with_reducible dsimp only [thenA])
      | (refine ac_block ?_)
      | (refine ac_skip ?_; simp only [thenA, blockA])
      | (refine ac_exit ?_; simp only [thenA, blockA, if_true, if_false, Nat.reduceEqDiff])
      | (with_reducible show nextK _ _ _ _ _ _ _; simp (disch := omega) [go_sem, *, wrap64_id, upd_ne, mk3_true, flatten_replicate_one, stepK_if, ilt_true, ilt_false, ile_true, ile_false, Try.ntmps10])
      | (refine wantK_split (fun hc => ?_) (fun hc => ?_) <;> (try simp only [Bool.not_eq_true', Bool.not_eq_false', Bool.not_eq_eq_eq_not, Bool.not_true, Bool.not_false, decide_eq_true_eq, decide_eq_false_iff_not, Int.not_lt, Int.not_le] at hc) <;> (try (exfalso; omega)) <;> (try simp (disch := omega) [go_sem, *, wrap64_id, upd_ne, mk3_true, flatten_replicate_one, stepK_if, ilt_true, ilt_false, ile_true, ile_false, Try.ntmps10]))
      | (refine ac_cond_h fun Kt Kf ht hf => ?_; simp (disch := omega) [go_sem, *]; try (refine ⟨fun hc => ?_, fun hc => ?_⟩ <;> try (exfalso; omega))))
    (refine ac_ret ?_; try dsimp only [thenA, blockA]; refine ⟨by simp, _, (by first | rfl | (simp (disch := omega) [go_sem, upd_ne] <;> rfl)), ?_⟩; refine ret_id ⟨fun k hk => (by first | rfl | (repeat rw [upd_ne _ _ _ _ (by omega)])), (by simp [go_sem, below]), (by simp [go_sem, fewN, h40] <;> omega), by simp, by simp⟩)
  · have h40' : N.links.length ≤ 40 := by omega
    have hF : fewN N = fewGo N.links.length N.links := by simp [fewN, h40]
    repeat' (first
      | (refine ac_seq_h fun K hK => ?_)
      | (refine ac_region_h fun K hK => ?_; simp (disch := omega) [go_sem, *, ilt_false, Try.ntmps10])
      | (refine ac_draw_h mixed (by kernel_rfl) fun K hK => ?_; simp (disch := omega) [go_sem, *, wrap64_id, upd_ne, mk3_true, flatten_replicate_one, stepK_if, ilt_true, ilt_false, ile_true, ile_false, Try.ntmps10])
      | (apply Hide.out hK; clear hK K; try with_reducible dsimp only [thenA])
      | (apply Hide.out ht; clear ht hf Kt Kf)
      | (apply Hide.out hf; clear ht hf Kt Kf)
      | (clear hK K; apply Hide.out hK; clear hK K; try with_reducible dsimp only [thenA])
      | (clear hK K; clear hK K; apply Hide.out hK; clear hK K; try with_reducible dsimp only [thenA])
      | (refine ac_block ?_)
      | (refine ac_skip ?_; simp only [thenA])
      | (refine ac_exit ?_; simp only [thenA, blockA, if_true, if_false, Nat.reduceEqDiff])
      | (with_reducible show nextK _ _ _ _ _ _ _; simp (disch := omega) [go_sem, *, wrap64_id, upd_ne, mk3_true, flatten_replicate_one, stepK_if, ilt_true, ilt_false, ile_true, ile_false, Try.ntmps10])
      | (refine wantK_split (fun hc => ?_) (fun hc => ?_) <;> (try simp only [Bool.not_eq_true', Bool.not_eq_false', Bool.not_eq_eq_eq_not, Bool.not_true, Bool.not_false, decide_eq_true_eq, decide_eq_false_iff_not, Int.not_lt, Int.not_le] at hc) <;> (try (exfalso; omega)) <;> (try simp (disch := omega) [go_sem, *, wrap64_id, upd_ne, mk3_true, flatten_replicate_one, stepK_if, ilt_true, ilt_false, ile_true, ile_false, Try.ntmps10]))
      | (refine ac_cond_h fun Kt Kf ht hf => ?_; simp (disch := omega) [go_sem, *]; try (refine ⟨fun hc => ?_, fun hc => ?_⟩ <;> try (exfalso; omega))))
    refine ac_loop_wk (fun s => ∃ k n' : Nat, n < n' ∧ k ≤ N.links.length ∧ fewGo N.links.length (N.links.drop k) = fewGo N.links.length N.links ∧ s = ⟨27, [(1, .ptr n 0), (3, iv .i64 k)], h.upd n (some (cellsNet N)), n'⟩)
      (fun s => N.links.length - (intAt s 3).toNat) ?_ ?_
    · exact loop_start (by simp [go_sem]) (Sub.refl _) ⟨0, _, by omega, by omega, by simp, rfl⟩
    · rintro s ⟨k, n', hn', hk, hgo, rfl⟩
      have hb' : NB (h.upd n (some (cellsNet N))) n' := hb.nb.upd hn' (by omega)
      by_cases hlt : k < N.links.length
      · obtain ⟨x, hx1, hx2, hx3⟩ := at_k hlt
        rw [hx3, fewGo] at hgo
        clear hF hx3
        have hgo : Hide _ := hgo
        repeat' (first
          | (refine ac_seq_h fun K hK => ?_)
          | (refine ac_region_h fun K hK => ?_; simp (disch := omega) [go_sem, *, wrap64_id, ilt_true, ilt_false, ile_true, encLink])
          | (refine ac_draw_h mixed (by kernel_rfl) fun K hK => ?_; simp (disch := omega) [go_sem, *, wrap64_id, upd_ne, mk3_true, flatten_replicate_one, stepK_if, ilt_true, ilt_false, ile_true, ile_false, encLink])
          | (apply Hide.out hK; clear hK K; try with_reducible dsimp only [thenA])
          | (apply Hide.out ht; clear ht hf Kt Kf)
          | (apply Hide.out hf; clear ht hf Kt Kf)
          | (clear hK K; apply Hide.out hK; clear hK K; try with_reducible dsimp only [thenA])
          | (clear hK K; clear hK K; apply Hide.out hK; clear hK K; try with_reducible dsimp only [thenA])
          | (refine ac_block ?_)
          | (refine ac_skip ?_; simp only [thenA, blockA])
          | (refine ac_exit ?_; simp only [thenA, blockA, if_true, if_false, Nat.reduceEqDiff])
          | (with_reducible show nextK _ _ _ _ _ _ _; simp (disch := omega) [go_sem, *, wrap64_id, upd_ne, mk3_true, flatten_replicate_one, stepK_if, ilt_true, ilt_false, ile_true, ile_false, encLink])
          | (refine wantK_split (fun hc => ?_) (fun hc => ?_) <;> (try simp only [Bool.not_eq_true', Bool.not_eq_false', Bool.not_eq_eq_eq_not, Bool.not_true, Bool.not_false, decide_eq_true_eq, decide_eq_false_iff_not, Int.not_lt, Int.not_le] at hc) <;> (try (exfalso; omega)) <;> (try simp (disch := omega) [go_sem, *, wrap64_id, upd_ne, mk3_true, flatten_replicate_one, stepK_if, ilt_true, ilt_false, ile_true, ile_false, encLink]))
          | (refine ac_cond_h fun Kt Kf ht hf => ?_; simp (disch := omega) [go_sem, *]; try (refine ⟨fun hc => ?_, fun hc => ?_⟩ <;> try (exfalso; omega))))
        · have hgo := hgo.out
          rw [if_pos (by omega)] at hgo
          have hF : fewN N = fewGo N.links.length N.links := by simp [fewN, h40]
          (refine ac_ret ?_; try dsimp only [thenA, blockA]; refine ⟨by simp, _, (by first | rfl | (simp (disch := omega) [go_sem, upd_ne] <;> rfl)), ?_⟩; refine ret_id ⟨fun k hk => (by first | rfl | (repeat rw [upd_ne _ _ _ _ (by omega)])), (by simp [go_sem, below]), (by simp [go_sem, hF, ← hgo] <;> omega), by simp, by simp⟩)
        · have hgo := hgo.out
          rw [if_neg (by omega)] at hgo
          (refine round_end (by simp [go_sem]) (by repeat (first | exact Sub.refl _ | refine Sub.upd ?_ (hb' _ (by omega)) _)) ⟨k + 1, _, by omega, by omega, hgo, rfl⟩ (by simp [intAt, go_sem]; try omega))
      · have e : k = N.links.length := by omega
        rw [e] at hgo
        simp [fewGo] at hgo
        repeat' (first
          | (refine ac_seq_h fun K hK => ?_)
          | (refine ac_region_h fun K hK => ?_; simp (disch := omega) [go_sem, *])
          | (refine ac_draw_h mixed (by kernel_rfl) fun K hK => ?_; simp (disch := omega) [go_sem, *, wrap64_id, upd_ne, mk3_true, flatten_replicate_one, stepK_if, ilt_true, ilt_false, ile_true, ile_false])
          | (apply Hide.out hK; clear hK K; try with_reducible dsimp only [thenA])
          | (apply Hide.out ht; clear ht hf Kt Kf)
          | (apply Hide.out hf; clear ht hf Kt Kf)
          | (clear hK K; apply Hide.out hK; clear hK K; try with_reducible dsimp only [thenA])
          | (clear hK K; clear hK K; apply Hide.out hK; clear hK K; try with_reducible dsimp only [thenA])
          | (refine ac_block ?_)
          | (refine ac_skip ?_; simp only [thenA, blockA])
          | (refine ac_exit ?_; simp only [thenA, blockA, if_true])
          | (with_reducible show nextK _ _ _ _ _ _ _; simp (disch := omega) [go_sem, *, wrap64_id, upd_ne, mk3_true, flatten_replicate_one, stepK_if, ilt_true, ilt_false, ile_true, ile_false])
          | (refine wantK_split (fun hc => ?_) (fun hc => ?_) <;> (try simp only [Bool.not_eq_true', Bool.not_eq_false', Bool.not_eq_eq_eq_not, Bool.not_true, Bool.not_false, decide_eq_true_eq, decide_eq_false_iff_not, Int.not_lt, Int.not_le] at hc) <;> (try (exfalso; omega)) <;> (try simp (disch := omega) [go_sem, *, wrap64_id, upd_ne, mk3_true, flatten_replicate_one, stepK_if, ilt_true, ilt_false, ile_true, ile_false]))
          | (refine ac_cond_h fun Kt Kf ht hf => ?_; simp (disch := omega) [go_sem, *]; try (refine ⟨fun hc => ?_, fun hc => ?_⟩ <;> try (exfalso; omega))))
        (refine ac_ret ?_; try dsimp only [thenA, blockA]; refine ⟨by simp, _, (by first | rfl | (simp (disch := omega) [go_sem, upd_ne] <;> rfl)), ?_⟩; refine ret_id ⟨fun k hk => (by first | rfl | (repeat rw [upd_ne _ _ _ _ (by omega)])), (by simp [go_sem, below]), (by simp [go_sem, hF, ← hgo] <;> omega), by simp, by simp⟩)
theorem asked_ref (N : Net) (s tick : Int) : APure Try.prog 44 [encNet N, iv .i64 s, iv .i64 tick] (iv .i64 (askedE N tick [s])) := by
  intro h n
  refine ACalls.pure (ACalls.entry (by kernel_rfl) fun hb _ => calls_of Try.func44 rfl (by kernel_rfl) (by simp [Try.ntmps44]) ?_)
  by_cases hE : checkE N = 0
  · obtain ⟨s1, s2⟩ := checkE_st hE
    cases w1 : within s 0 (N.st - 1)
    · skip
      repeat' (first
        | (refine ac_seq_h fun K hK => ?_)
        | (refine ac_region_h fun K hK => ?_; simp (disch := omega) [go_sem, *, wrap64_id, Try.ntmps44 ])
        | (refine ac_draw_h mixed (by kernel_rfl) fun K hK => ?_; simp (disch := omega) [go_sem, *, wrap64_id, upd_ne, mk3_true, flatten_replicate_one, stepK_if, ilt_true, ilt_false, ile_true, ile_false, Try.ntmps44 ])
        | (apply Hide.out hK; clear hK K; try with_reducible dsimp only [thenA])
        | (apply Hide.out ht; clear ht hf Kt Kf)
        | (apply Hide.out hf; clear ht hf Kt Kf)
        | (clear hK K; apply Hide.out hK; clear hK K; try with_reducible dsimp only [thenA])
        | (clear hK K; clear hK K; apply Hide.out hK; clear hK K; try with_reducible dsimp only [thenA])
        | (with_reducible refine APure.call (check_ref _) ?_; try simp (disch := omega) [go_sem, * ])
        | (with_reducible refine APure.call (within_ref _ _ _) ?_; try simp (disch := omega) [go_sem, * ])
        | (refine ac_block ?_)
        | (refine ac_skip ?_; simp only [thenA])
        | (refine ac_exit ?_; simp only [thenA, blockA, if_true, if_false, Nat.reduceEqDiff])
        | (with_reducible show nextK _ _ _ _ _ _ _; simp (disch := omega) [go_sem, *, wrap64_id, upd_ne, mk3_true, flatten_replicate_one, stepK_if, ilt_true, ilt_false, ile_true, ile_false, Try.ntmps44 ])
        | (refine wantK_split (fun hc => ?_) (fun hc => ?_) <;> (try simp only [Bool.not_eq_true', Bool.not_eq_false', Bool.not_eq_eq_eq_not, Bool.not_true, Bool.not_false, decide_eq_true_eq, decide_eq_false_iff_not, Int.not_lt, Int.not_le] at hc) <;> (try (exfalso; omega)) <;> (try simp (disch := omega) [go_sem, *, wrap64_id, upd_ne, mk3_true, flatten_replicate_one, stepK_if, ilt_true, ilt_false, ile_true, ile_false, Try.ntmps44 ]))
        | (refine ac_cond_h fun Kt Kf ht hf => ?_; simp (disch := omega) [go_sem, * ]; try (refine ⟨fun hc => ?_, fun hc => ?_⟩ <;> try (exfalso; omega))))
      (refine ac_ret ?_; try dsimp only [thenA, blockA]; refine ⟨by simp, _, (by first | rfl | (simp (disch := omega) [go_sem, upd_ne] <;> rfl)), ?_⟩; refine ret_id ⟨fun k hk => (by first | rfl | (repeat rw [upd_ne _ _ _ _ (by omega)])), (by simp [go_sem, below]), (by simp [go_sem, askedE, hE, w1] <;> omega), by simp, by simp⟩)
    · cases w2 : within tick 0 1048576
      · skip
        repeat' (first
          | (refine ac_seq_h fun K hK => ?_)
          | (refine ac_region_h fun K hK => ?_; simp (disch := omega) [go_sem, *, wrap64_id, Try.ntmps44 ])
          | (refine ac_draw_h mixed (by kernel_rfl) fun K hK => ?_; simp (disch := omega) [go_sem, *, wrap64_id, upd_ne, mk3_true, flatten_replicate_one, stepK_if, ilt_true, ilt_false, ile_true, ile_false, Try.ntmps44 ])
          | (apply Hide.out hK; clear hK K; try with_reducible dsimp only [thenA])
          | (apply Hide.out ht; clear ht hf Kt Kf)
          | (apply Hide.out hf; clear ht hf Kt Kf)
          | (clear hK K; apply Hide.out hK; clear hK K; try with_reducible dsimp only [thenA])
          | (clear hK K; clear hK K; apply Hide.out hK; clear hK K; try with_reducible dsimp only [thenA])
          | (with_reducible refine APure.call (check_ref _) ?_; try simp (disch := omega) [go_sem, * ])
          | (with_reducible refine APure.call (within_ref _ _ _) ?_; try simp (disch := omega) [go_sem, * ])
          | (refine ac_block ?_)
          | (refine ac_skip ?_; simp only [thenA])
          | (refine ac_exit ?_; simp only [thenA, blockA, if_true, if_false, Nat.reduceEqDiff])
          | (with_reducible show nextK _ _ _ _ _ _ _; simp (disch := omega) [go_sem, *, wrap64_id, upd_ne, mk3_true, flatten_replicate_one, stepK_if, ilt_true, ilt_false, ile_true, ile_false, Try.ntmps44 ])
          | (refine wantK_split (fun hc => ?_) (fun hc => ?_) <;> (try simp only [Bool.not_eq_true', Bool.not_eq_false', Bool.not_eq_eq_eq_not, Bool.not_true, Bool.not_false, decide_eq_true_eq, decide_eq_false_iff_not, Int.not_lt, Int.not_le] at hc) <;> (try (exfalso; omega)) <;> (try simp (disch := omega) [go_sem, *, wrap64_id, upd_ne, mk3_true, flatten_replicate_one, stepK_if, ilt_true, ilt_false, ile_true, ile_false, Try.ntmps44 ]))
          | (refine ac_cond_h fun Kt Kf ht hf => ?_; simp (disch := omega) [go_sem, * ]; try (refine ⟨fun hc => ?_, fun hc => ?_⟩ <;> try (exfalso; omega))))
        (refine ac_ret ?_; try dsimp only [thenA, blockA]; refine ⟨by simp, _, (by first | rfl | (simp (disch := omega) [go_sem, upd_ne] <;> rfl)), ?_⟩; refine ret_id ⟨fun k hk => (by first | rfl | (repeat rw [upd_ne _ _ _ _ (by omega)])), (by simp [go_sem, below]), (by simp [go_sem, askedE, hE, w1, w2] <;> omega), by simp, by simp⟩)
      · skip
        repeat' (first
          | (refine ac_seq_h fun K hK => ?_)
          | (refine ac_region_h fun K hK => ?_; simp (disch := omega) [go_sem, *, wrap64_id, Try.ntmps44 ])
          | (refine ac_draw_h mixed (by kernel_rfl) fun K hK => ?_; simp (disch := omega) [go_sem, *, wrap64_id, upd_ne, mk3_true, flatten_replicate_one, stepK_if, ilt_true, ilt_false, ile_true, ile_false, Try.ntmps44 ])
          | (apply Hide.out hK; clear hK K; try with_reducible dsimp only [thenA])
          | (apply Hide.out ht; clear ht hf Kt Kf)
          | (apply Hide.out hf; clear ht hf Kt Kf)
          | (clear hK K; apply Hide.out hK; clear hK K; try with_reducible dsimp only [thenA])
          | (clear hK K; clear hK K; apply Hide.out hK; clear hK K; try with_reducible dsimp only [thenA])
          | (with_reducible refine APure.call (check_ref _) ?_; try simp (disch := omega) [go_sem, * ])
          | (with_reducible refine APure.call (within_ref _ _ _) ?_; try simp (disch := omega) [go_sem, * ])
          | (refine ac_block ?_)
          | (refine ac_skip ?_; simp only [thenA])
          | (refine ac_exit ?_; simp only [thenA, blockA, if_true, if_false, Nat.reduceEqDiff])
          | (with_reducible show nextK _ _ _ _ _ _ _; simp (disch := omega) [go_sem, *, wrap64_id, upd_ne, mk3_true, flatten_replicate_one, stepK_if, ilt_true, ilt_false, ile_true, ile_false, Try.ntmps44 ])
          | (refine wantK_split (fun hc => ?_) (fun hc => ?_) <;> (try simp only [Bool.not_eq_true', Bool.not_eq_false', Bool.not_eq_eq_eq_not, Bool.not_true, Bool.not_false, decide_eq_true_eq, decide_eq_false_iff_not, Int.not_lt, Int.not_le] at hc) <;> (try (exfalso; omega)) <;> (try simp (disch := omega) [go_sem, *, wrap64_id, upd_ne, mk3_true, flatten_replicate_one, stepK_if, ilt_true, ilt_false, ile_true, ile_false, Try.ntmps44 ]))
          | (refine ac_cond_h fun Kt Kf ht hf => ?_; simp (disch := omega) [go_sem, * ]; try (refine ⟨fun hc => ?_, fun hc => ?_⟩ <;> try (exfalso; omega))))
        (refine ac_ret ?_; try dsimp only [thenA, blockA]; refine ⟨by simp, _, (by first | rfl | (simp (disch := omega) [go_sem, upd_ne] <;> rfl)), ?_⟩; refine ret_id ⟨fun k hk => (by first | rfl | (repeat rw [upd_ne _ _ _ _ (by omega)])), (by simp [go_sem, below]), (by simp [go_sem, askedE, hE, w1, w2] <;> omega), by simp, by simp⟩)
  · skip
    repeat' (first
      | (refine ac_seq_h fun K hK => ?_)
      | (refine ac_region_h fun K hK => ?_; simp (disch := omega) [go_sem, *, Try.ntmps44 ])
      | (refine ac_draw_h mixed (by kernel_rfl) fun K hK => ?_; simp (disch := omega) [go_sem, *, wrap64_id, upd_ne, mk3_true, flatten_replicate_one, stepK_if, ilt_true, ilt_false, ile_true, ile_false, Try.ntmps44 ])
      | (apply Hide.out hK; clear hK K; try with_reducible dsimp only [thenA])
      | (apply Hide.out ht; clear ht hf Kt Kf)
      | (apply Hide.out hf; clear ht hf Kt Kf)
      | (clear hK K; apply Hide.out hK; clear hK K; try with_reducible dsimp only [thenA])
      | (clear hK K; clear hK K; apply Hide.out hK; clear hK K; try with_reducible dsimp only [thenA])
      | (with_reducible refine APure.call (check_ref _) ?_; try simp (disch := omega) [go_sem, * ])
      | (with_reducible refine APure.call (within_ref _ _ _) ?_; try simp (disch := omega) [go_sem, *, wrap64_id, upd_ne, mk3_true, flatten_replicate_one, stepK_if, ilt_true, ilt_false, ile_true, ile_false, Try.ntmps44 ])
      | (refine ac_block ?_)
      | (refine ac_skip ?_; simp only [thenA, blockA])
      | (refine ac_exit ?_; simp only [thenA, blockA, if_true, if_false, Nat.reduceEqDiff])
      | (with_reducible show nextK _ _ _ _ _ _ _; simp (disch := omega) [go_sem, *, wrap64_id, upd_ne, mk3_true, flatten_replicate_one, stepK_if, ilt_true, ilt_false, ile_true, ile_false, Try.ntmps44 ])
      | (refine wantK_split (fun hc => ?_) (fun hc => ?_) <;> (try simp only [Bool.not_eq_true', Bool.not_eq_false', Bool.not_eq_eq_eq_not, Bool.not_true, Bool.not_false, decide_eq_true_eq, decide_eq_false_iff_not, Int.not_lt, Int.not_le] at hc) <;> (try (exfalso; omega)) <;> (try simp (disch := omega) [go_sem, *, wrap64_id, upd_ne, mk3_true, flatten_replicate_one, stepK_if, ilt_true, ilt_false, ile_true, ile_false, Try.ntmps44 ]))
      | (refine ac_cond_h fun Kt Kf ht hf => ?_; simp (disch := omega) [go_sem, * ]; try (refine ⟨fun hc => ?_, fun hc => ?_⟩ <;> try (exfalso; omega))))
    (refine ac_ret ?_; try dsimp only [thenA, blockA]; refine ⟨by simp, _, (by first | rfl | (simp (disch := omega) [go_sem, upd_ne] <;> rfl)), ?_⟩; refine ret_id ⟨fun k hk => (by first | rfl | (repeat rw [upd_ne _ _ _ _ (by omega)])), (by simp [go_sem, below]), (by simp [go_sem, askedE, hE] <;> omega), by simp, by simp⟩)
abbrev cellsInts (l : List Int) : AObj := .cells (l.map (iv .i64))
theorem none_ref (N : Net) (h1 : 1 ≤ N.st) (h2 : N.st ≤ 10) (h : AHeap) (n : Nat) (KK : AV → AHeap → Nat → Prop)
    (hk : ∀ m n', n ≤ m → m < n' → KK (.slc m 0 N.st.toNat 1) (h.upd m (some (cellsInts (List.replicate N.st.toNat (-1))))) n') : ACalls Try.prog 45 [encNet N] h n KK := by
  refine ACalls.entry (by kernel_rfl) fun hb _ => calls_of Try.func45 rfl (by kernel_rfl) (by simp [Try.ntmps45]) ?_
  obtain ⟨st, hst⟩ : ∃ st : Nat, N.st = st := ⟨N.st.toNat, by omega⟩
  have hst2 : N.st.toNat = st := by omega
  repeat' (first
    | (refine ac_seq_h fun K hK => ?_)
    | (refine ac_region_h fun K hK => ?_; simp (disch := omega) [go_sem, *, mk3_true, Try.ntmps45])
    | (refine ac_draw_h mixed (by kernel_rfl) fun K hK => ?_; simp (disch := omega) [go_sem, *, wrap64_id, upd_ne, mk3_true, flatten_replicate_one, stepK_if, ilt_true, ilt_false, ile_true, ile_false, Try.ntmps45])
    | (apply Hide.out hK; clear hK K; try with_reducible dsimp only [thenA])
    | (apply Hide.out ht; clear ht hf Kt Kf)
    | (apply Hide.out hf; clear ht hf Kt Kf)
    | (clear hK K; apply Hide.out hK; clear hK K; try with_reducible dsimp only [thenA])
    | (clear hK K; clear hK K; apply Hide.out hK; clear hK K; try with_reducible dsimp only [thenA])
    | (refine ac_block ?_)
    | (refine ac_skip ?_; simp only [thenA, blockA])
    | (refine ac_exit ?_; simp only [thenA, blockA, if_true, if_false, Nat.reduceEqDiff])
    | (with_reducible show nextK _ _ _ _ _ _ _; simp (disch := omega) [go_sem, *, wrap64_id, upd_ne, mk3_true, flatten_replicate_one, stepK_if, ilt_true, ilt_false, ile_true, ile_false, Try.ntmps45])
    | (refine wantK_split (fun hc => ?_) (fun hc => ?_) <;> (try simp only [Bool.not_eq_true', Bool.not_eq_false', Bool.not_eq_eq_eq_not, Bool.not_true, Bool.not_false, decide_eq_true_eq, decide_eq_false_iff_not, Int.not_lt, Int.not_le] at hc) <;> (try (exfalso; omega)) <;> (try simp (disch := omega) [go_sem, *, wrap64_id, upd_ne, mk3_true, flatten_replicate_one, stepK_if, ilt_true, ilt_false, ile_true, ile_false, Try.ntmps45]))
    | (refine ac_cond_h fun Kt Kf ht hf => ?_; simp (disch := omega) [go_sem, *, wrap64_id, upd_ne, mk3_true, flatten_replicate_one, stepK_if, ilt_true, ilt_false, ile_true, ile_false, Try.ntmps45]; try (refine ⟨fun hc => ?_, fun hc => ?_⟩ <;> try (exfalso; omega))))
  refine ac_loop_wk (fun s => ∃ (k n' : Nat) (l : List Int), n + 5 < n' ∧ k ≤ st ∧ l.length = st ∧ Hide (∀ j, j < k → l[j]? = some (-1)) ∧ s = ⟨18, [(1, .ptr n 0), (3, .slc (n + 2 + 2) 0 st 1), (4, iv .i64 k)], (h.upd n (some (cellsNet N))).upd (n + 2 + 2) (some (cellsInts l)), n'⟩)
      (fun s => st - (intAt s 4).toNat) ?_ ?_
  · refine loop_start (by simp [go_sem]) ?_ ⟨0, _, List.replicate st 0, by omega, by omega, by simp, fun j hj => by omega, rfl⟩
    have e : (List.replicate st (0 : Int)).map (iv .i64) = List.replicate st (iv .i64 0) := by simp
    simp only [cellsInts, e, cellsNet, hst]
    exact Sub.refl _
  · rintro s ⟨k, n', l, hn', hk', hl, hall, rfl⟩
    by_cases hlt : k < st
    · obtain ⟨x, hx1, hx2, _⟩ := at_k (show k < l.length by omega)
      repeat' (first
        | (refine ac_seq_h fun K hK => ?_)
        | (refine ac_region_h fun K hK => ?_; simp (disch := omega) [go_sem, *, wrap64_id, upd_ne, stepK_if, ilt_true, ile_true])
        | (refine ac_draw_h mixed (by kernel_rfl) fun K hK => ?_; simp (disch := omega) [go_sem, *, wrap64_id, upd_ne, mk3_true, flatten_replicate_one, stepK_if, ilt_true, ilt_false, ile_true, ile_false])
        | (apply Hide.out hK; clear hK K; try with_reducible dsimp only [thenA])
        | (apply Hide.out ht; clear ht hf Kt Kf)
        | (apply Hide.out hf; clear ht hf Kt Kf)
        | (clear hK K; apply Hide.out hK; clear hK K; try with_reducible dsimp only [thenA])
        | (clear hK K; clear hK K; apply Hide.out hK; clear hK K; try with_reducible dsimp only [thenA])
        | (refine ac_block ?_)
        | (refine ac_skip ?_; simp only [thenA])
        | (refine ac_exit ?_; simp only [thenA, blockA, if_true, if_false, Nat.reduceEqDiff])
        | (with_reducible show nextK _ _ _ _ _ _ _; simp (disch := omega) [go_sem, *, wrap64_id, upd_ne, mk3_true, flatten_replicate_one, stepK_if, ilt_true, ilt_false, ile_true, ile_false])
        | (refine wantK_split (fun hc => ?_) (fun hc => ?_) <;> (try simp only [Bool.not_eq_true', Bool.not_eq_false', Bool.not_eq_eq_eq_not, Bool.not_true, Bool.not_false, decide_eq_true_eq, decide_eq_false_iff_not, Int.not_lt, Int.not_le] at hc) <;> (try (exfalso; omega)) <;> (try simp (disch := omega) [go_sem, *, wrap64_id, upd_ne, mk3_true, flatten_replicate_one, stepK_if, ilt_true, ilt_false, ile_true, ile_false]))
        | (refine ac_cond_h fun Kt Kf ht hf => ?_; simp (disch := omega) [go_sem, *]; try (refine ⟨fun hc => ?_, fun hc => ?_⟩ <;> try (exfalso; omega))))
      have hall' : Hide (∀ j, j < k + 1 → (l.set k (-1))[j]? = some (-1)) := fun j hj => by
        rcases Nat.lt_or_ge j k with hjk | hjk
        · rw [List.getElem?_set_ne (by omega)]; exact hall.out j hjk
        · obtain rfl : j = k := by omega
          rw [List.getElem?_set_self (by omega)]
      refine round_end (by simp [go_sem]) ?_ ⟨k + 1, _, l.set k (-1), by omega, by omega, by simpa using hl, hall', rfl⟩ (by simp [intAt, go_sem]; omega)
      rw [upd_upd, cellsInts, ← set_cells l k (-1) (by omega)]; exact Sub.refl _
    · have hkk : k = st := by omega
      have hrep : l = List.replicate st (-1) := List.ext_getElem? fun j => by
        rcases Nat.lt_or_ge j st with hj | hj
        · rw [hall.out j (by omega)]; simp [hj]
        · rw [List.getElem?_eq_none (by omega), List.getElem?_eq_none (by simpa using hj)]
      have hk2 : ∀ n', n + 2 + 2 < n' → KK (.slc (n + 2 + 2) 0 st 1) (h.upd (n + 2 + 2) (some (cellsInts (List.replicate st (-1))))) n' := fun n' h' => by
        have := hk (n + 2 + 2) n' (by omega) h'
        rwa [hst2] at this
      subst hrep
      clear hk
      have hk2 : Hide _ := hk2
      repeat' (first
        | (refine ac_seq_h fun K hK => ?_)
        | (refine ac_region_h fun K hK => ?_; simp (disch := omega) [go_sem, *, upd_ne])
        | (refine ac_draw_h mixed (by kernel_rfl) fun K hK => ?_; simp (disch := omega) [go_sem, *, wrap64_id, upd_ne, mk3_true, flatten_replicate_one, stepK_if, ilt_true, ilt_false, ile_true, ile_false])
        | (apply Hide.out hK; clear hK K; try with_reducible dsimp only [thenA])
        | (apply Hide.out ht; clear ht hf Kt Kf)
        | (apply Hide.out hf; clear ht hf Kt Kf)
        | (clear hK K; apply Hide.out hK; clear hK K; try with_reducible dsimp only [thenA])
        | (clear hK K; clear hK K; apply Hide.out hK; clear hK K; try with_reducible dsimp only [thenA])
        | (refine ac_block ?_)
        | (refine ac_skip ?_; simp only [thenA, blockA])
        | (refine ac_exit ?_; simp only [thenA, blockA, if_true])
        | (with_reducible show nextK _ _ _ _ _ _ _; simp (disch := omega) [go_sem, *, wrap64_id, upd_ne, mk3_true, flatten_replicate_one, stepK_if, ilt_true, ilt_false, ile_true, ile_false])
        | (refine wantK_split (fun hc => ?_) (fun hc => ?_) <;> (try simp only [Bool.not_eq_true', Bool.not_eq_false', Bool.not_eq_eq_eq_not, Bool.not_true, Bool.not_false, decide_eq_true_eq, decide_eq_false_iff_not, Int.not_lt, Int.not_le] at hc) <;> (try (exfalso; omega)) <;> (try simp (disch := omega) [go_sem, *, wrap64_id, upd_ne, mk3_true, flatten_replicate_one, stepK_if, ilt_true, ilt_false, ile_true, ile_false]))
        | (refine ac_cond_h fun Kt Kf ht hf => ?_; simp (disch := omega) [go_sem, *]; try (refine ⟨fun hc => ?_, fun hc => ?_⟩ <;> try (exfalso; omega))))
      refine ac_ret ?_
      refine ⟨by simp, _, rfl, ?_⟩
      refine ret_sub (h' := h.upd (n + 2 + 2) (some (cellsInts (List.replicate st (-1))))) ?_ (ret_id ?_)
      rotate_left
      · exact hk2.out _ (by simp only; omega)
      intro i o e
      show ((h.upd n _).upd (n + 2 + 2) _) i = _
      by_cases hi : i = n + 2 + 2
      · subst hi; rw [upd_same] at e ⊢; exact e
      · rw [upd_ne _ _ _ _ hi] at e ⊢
        rw [upd_ne _ _ _ _ (by have := hb i o e; omega)]; exact e
end Go.AM

namespace Go.AM
open Go.Proofs Nets
set_option maxRecDepth 10000
set_option maxHeartbeats 4000000
/-- numbers, or none with an error -/
abbrev eInts (e : Int) (l : List Int) : AV := if e = 0 then .fslc false false 1 (l.map (iv .i64)) else .fslc true true 0 []
@[go_sem] theorem eInts_zero (l : List Int) : eInts 0 l = .fslc false false 1 (l.map (iv .i64)) := rfl
theorem earliest_ref (N : Net) (s t : Int) : APure Try.prog 19 [encNet N, iv .i64 s, iv .i64 t] (.agg [eInts (askedE N t [s]) (earlR N s t), iv .i64 (askedE N t [s])]) := by
  intro h n
  refine ACalls.pure (ACalls.entry (by kernel_rfl) fun hb _ => calls_of Try.func19 rfl (by kernel_rfl) (by simp [Try.ntmps19]) ?_)
  by_cases hE : askedE N t [s] = 0
  · have hC : checkE N = 0 := by
      unfold askedE at hE; split at hE
      · rename_i h; exact absurd hE h
      · rename_i h; simpa using h
    obtain ⟨s1, s2, hll, hok⟩ := checkE_ok hC
    have hst : (0 ≤ s ∧ s < N.st) ∧ 0 ≤ t ∧ t ≤ 1048576 := by
      simp only [askedE, hC] at hE
      simp [within] at hE
      omega
    obtain ⟨⟨b1, b2⟩, b3, b4⟩ := hst
    repeat' (first
      | (refine ac_seq_h fun K hK => ?_)
      | (refine ac_region_h fun K hK => ?_; simp (disch := omega) [go_sem, *, upd_ne, Try.ntmps19 ])
      | (refine ac_draw_h mixed (by kernel_rfl) fun K hK => ?_; simp (disch := omega) [go_sem, *, wrap64_id, upd_ne, mk3_true, flatten_replicate_one, stepK_if, ilt_true, ilt_false, ile_true, ile_false, Try.ntmps19 ])
      | (apply Hide.out hK; clear hK K; try with_reducible dsimp only [thenA])
      | (apply Hide.out ht; clear ht hf Kt Kf)
      | (apply Hide.out hf; clear ht hf Kt Kf)
      | (clear hK K; apply Hide.out hK; clear hK K; try with_reducible dsimp only [thenA])
      | (clear hK K; clear hK K; apply Hide.out hK; clear hK K; try with_reducible dsimp only [thenA])
      | (with_reducible refine APure.call (asked_ref _ _ _) ?_; try simp (disch := omega) [go_sem, * ])
      | (refine ac_block ?_)
      | (refine ac_skip ?_; simp only [thenA])
      | (refine ac_exit ?_; simp only [thenA, blockA, if_true, if_false, Nat.reduceEqDiff])
      | (with_reducible show nextK _ _ _ _ _ _ _; simp (disch := omega) [go_sem, *, wrap64_id, upd_ne, mk3_true, flatten_replicate_one, stepK_if, ilt_true, ilt_false, ile_true, ile_false, Try.ntmps19 ])
      | (refine wantK_split (fun hc => ?_) (fun hc => ?_) <;> (try simp only [Bool.not_eq_true', Bool.not_eq_false', Bool.not_eq_eq_eq_not, Bool.not_true, Bool.not_false, decide_eq_true_eq, decide_eq_false_iff_not, Int.not_lt, Int.not_le] at hc) <;> (try (exfalso; omega)) <;> (try simp (disch := omega) [go_sem, *, wrap64_id, upd_ne, mk3_true, flatten_replicate_one, stepK_if, ilt_true, ilt_false, ile_true, ile_false, Try.ntmps19 ]))
      | (refine ac_cond_h fun Kt Kf ht hf => ?_; simp (disch := omega) [go_sem, * ]; try (refine ⟨fun hc => ?_, fun hc => ?_⟩ <;> try (exfalso; omega))))
    refine none_ref _ s1 s2 _ _ _ fun m n' hm hmn => ?_
    repeat' (first
      | (refine ac_seq_h fun K hK => ?_)
      | (refine ac_region_h fun K hK => ?_; simp (disch := omega) [go_sem, *, ilt_true, ile_true])
      | (refine ac_draw_h mixed (by kernel_rfl) fun K hK => ?_; simp (disch := omega) [go_sem, *, wrap64_id, upd_ne, mk3_true, flatten_replicate_one, stepK_if, ilt_true, ilt_false, ile_true, ile_false])
      | (apply Hide.out hK; clear hK K; try with_reducible dsimp only [thenA])
      | (apply Hide.out ht; clear ht hf Kt Kf)
      | (apply Hide.out hf; clear ht hf Kt Kf)
      | (clear hK K; apply Hide.out hK; clear hK K; try with_reducible dsimp only [thenA])
      | (clear hK K; clear hK K; apply Hide.out hK; clear hK K; try with_reducible dsimp only [thenA])
      | (refine ac_block ?_)
      | (refine ac_skip ?_; simp only [thenA, blockA])
      | (refine ac_exit ?_; simp only [thenA, blockA, if_true, if_false, Nat.reduceEqDiff])
      | (with_reducible show nextK _ _ _ _ _ _ _; simp (disch := omega) [go_sem, *])
      | (refine wantK_split (fun hc => ?_) (fun hc => ?_) <;> (try simp only [Bool.not_eq_true', Bool.not_eq_false', Bool.not_eq_eq_eq_not, Bool.not_true, Bool.not_false, decide_eq_true_eq, decide_eq_false_iff_not, Int.not_lt, Int.not_le] at hc) <;> (try (exfalso; omega)) <;> (try simp (disch := omega) [go_sem, *, wrap64_id, upd_ne, mk3_true, flatten_replicate_one, stepK_if, ilt_true, ilt_false, ile_true, ile_false]))
      | (refine ac_cond_h fun Kt Kf ht hf => ?_; simp (disch := omega) [go_sem, *, wrap64_id, upd_ne, mk3_true, flatten_replicate_one, stepK_if, ilt_true, ilt_false, ile_true, ile_false]; try (refine ⟨fun hc => ?_, fun hc => ?_⟩ <;> try (exfalso; omega))))
    obtain ⟨st, hst⟩ : ∃ st : Nat, N.st = st := ⟨N.st.toNat, by omega⟩
    have hst2 : N.st.toNat = st := by omega
    have hF : earlR N s t = roundsR N.links (st + 1) (startR st s t) := by rw [earlR, hst2]
    have hAsk : Hide (askedE N t [s] = 0) := hE
    clear hE hC
    obtain ⟨H, hH⟩ : ∃ H : List Int → AHeap, Hide (∀ o, H o = ((h.upd n (some (cellsNet N))).upd (n + 1) (some (.cells [.fslc true true 0 [], iv .i64 0]))).upd m (some (cellsInts o))) := ⟨_, fun _ => rfl⟩
    have hnb : ∀ o k, n' ≤ k → H o k = none := fun o k hk => by rw [hH.out]; simp (disch := omega) only [upd_ne]; exact hb.none (by omega)
    have hHn : ∀ o, H o n = some (cellsNet N) := fun o => by rw [hH.out]; simp (disch := omega) only [upd_ne, upd_same]
    have hHm : ∀ o, H o m = some (cellsInts o) := fun o => by rw [hH.out, upd_same]
    have hnb : Hide (∀ o k, n' ≤ k → H o k = none) := hnb
    have hset : ∀ o o', (H o).upd m (some (cellsInts o')) = H o' := fun o o' => by rw [hH.out, hH.out, upd_upd]
    refine ac_loop_wk (fun s' => ∃ (k n2 : Nat) (o : List Int), n' ≤ n2 ∧ k ≤ st + 1 ∧ o.length = st ∧ Vals o ∧ roundsR N.links (st + 1 - k) o = earlR N s t ∧ s' = ⟨93, [(3, .ptr n 0), (6, .ptr (n + 1) 0), (8, .slc m 0 st 1), (9, iv .i64 k)], H o, n2⟩)
      (fun s => st + 1 - (intAt s 9).toNat) ?_ ?_
    · refine loop_start (by simp [go_sem, hst2]) ?_ ⟨0, _, startR st s t, ?_, by omega, startR_len _ _ _, startR_vals b3 b4, hF.symm, rfl⟩
      · rw [upd_upd, hH.out, cellsInts, startR_cells _ (by omega), hst2]; exact Sub.refl _
      · omega
    · rintro s' ⟨k, n2, o, hn2, hk, hol, hov, hgo, rfl⟩
      by_cases hlt : k < st + 1
      · skip
        repeat' (first
          | (refine ac_seq_h fun K hK => ?_)
          | (refine ac_region_h fun K hK => ?_; simp (disch := omega) [go_sem, *, ile_true])
          | (refine ac_draw_h mixed (by kernel_rfl) fun K hK => ?_; simp (disch := omega) [go_sem, *, wrap64_id, upd_ne, mk3_true, flatten_replicate_one, stepK_if, ilt_true, ilt_false, ile_true, ile_false])
          | (apply Hide.out hK; clear hK K; try with_reducible dsimp only [thenA])
          | (apply Hide.out ht; clear ht hf Kt Kf)
          | (apply Hide.out hf; clear ht hf Kt Kf)
          | (clear hK K; apply Hide.out hK; clear hK K; try with_reducible dsimp only [thenA])
          | (clear hK K; clear hK K; apply Hide.out hK; clear hK K; try with_reducible dsimp only [thenA])
          | (refine ac_block ?_)
          | (refine ac_skip ?_; simp only [thenA])
          | (refine ac_exit ?_; simp only [thenA, blockA, if_true, if_false, Nat.reduceEqDiff])
          | (with_reducible show nextK _ _ _ _ _ _ _; simp (disch := omega) [go_sem, *, wrap64_id, upd_ne, mk3_true, flatten_replicate_one, stepK_if, ilt_true, ilt_false, ile_true, ile_false])
          | (refine wantK_split (fun hc => ?_) (fun hc => ?_) <;> (try simp only [Bool.not_eq_true', Bool.not_eq_false', Bool.not_eq_eq_eq_not, Bool.not_true, Bool.not_false, decide_eq_true_eq, decide_eq_false_iff_not, Int.not_lt, Int.not_le] at hc) <;> (try (exfalso; omega)) <;> (try simp (disch := omega) [go_sem, *, wrap64_id, upd_ne, mk3_true, flatten_replicate_one, stepK_if, ilt_true, ilt_false, ile_true, ile_false]))
          | (refine ac_cond_h fun Kt Kf ht hf => ?_; simp (disch := omega) [go_sem, *]; try (refine ⟨fun hc => ?_, fun hc => ?_⟩ <;> try (exfalso; omega))))
        refine ac_loop_wk (fun s' => ∃ (j n3 : Nat) (q : List Int), n' ≤ n3 ∧ j ≤ N.links.length ∧ q.length = st ∧ Vals q ∧ passR (N.links.drop j) q = passR N.links o ∧ s' = ⟨93, [(3, .ptr n 0), (6, .ptr (n + 1) 0), (8, .slc m 0 st 1), (9, iv .i64 k), (10, iv .i64 j)], H q, n3⟩)
          (fun s => N.links.length - (intAt s 10).toNat) ?_ ?_
        · exact loop_start (by simp [go_sem]) (Sub.refl _) ⟨0, _, o, by omega, by omega, hol, hov, by simp, rfl⟩
        · rintro s' ⟨j, n3, q, hn3, hj, hql, hqv, hgo2, rfl⟩
          by_cases hltj : j < N.links.length
          · obtain ⟨x, hx1, hx2, hx3⟩ := at_k hltj
            obtain ⟨x1, x2, x3, x4, x5, x6⟩ := hok x (List.mem_of_getElem? hx2)
            have hv1 := at_get x1 (show x.fr < (q.length : Int) by omega)
            have hv2 := at_get x3 (show x.to < (q.length : Int) by omega)
            have hb1 := hqv.at x1 (show x.fr < (q.length : Int) by omega)
            have hb2 := hqv.at x3 (show x.to < (q.length : Int) by omega)
            rw [hx3, passR] at hgo2
            have hg1 := at_get' (o := q) x.fr
            have hg2 := at_get' (o := q) x.to
            have hlr := leave_range x6 (at' q x.fr)
            have hdl := (right_spans x6).1
            have hLO : LOk N.st x := ⟨x1, x2, x3, x4, x5, x6⟩
            replace hgo2 : Hide _ := hgo2
            replace hLO : Hide _ := hLO
            replace hok : Hide _ := hok
            replace hqv : Hide _ := hqv
            replace hgo : Hide _ := hgo
            clear hx3 hov
            repeat' (first
              | (refine ac_seq_h fun K hK => ?_)
              | (refine ac_region_h fun K hK => ?_; simp (disch := omega) [go_sem, *, wrap64_id, upd_ne, stepK_if, ilt_true, ilt_false, ile_true, encLink ])
              | (refine ac_draw_h mixed (by kernel_rfl) fun K hK => ?_; simp (disch := omega) [go_sem, *, upd_ne, ilt_true, ilt_false ])
              | (apply Hide.out hK; clear hK K; try with_reducible dsimp only [thenA])
              | (apply Hide.out ht; clear ht hf Kt Kf)
              | (apply Hide.out hf; clear ht hf Kt Kf)
              | (clear hK K; apply Hide.out hK; clear hK K; try with_reducible dsimp only [thenA])
              | (clear hK K; clear hK K; apply Hide.out hK; clear hK K; try with_reducible dsimp only [thenA])
              | (with_reducible refine APure.call (leave_ref _ _) ?_; try simp (disch := omega) [go_sem, * ])
              | (refine ac_block ?_)
              | (refine ac_skip ?_; simp only [thenA, blockA])
              | (refine ac_exit ?_; simp only [thenA, blockA, if_true, if_false, Nat.reduceEqDiff])
              | (with_reducible show nextK _ _ _ _ _ _ _; simp (disch := omega) [go_sem, *, wrap64_id, upd_ne, mk3_true, flatten_replicate_one, stepK_if, ilt_true, ilt_false, ile_true, ile_false, encLink ])
              | (refine wantK_split (fun hc => ?_) (fun hc => ?_) <;> (try simp only [Bool.not_eq_eq_eq_not, Bool.not_true, Bool.not_false, decide_eq_true_eq, decide_eq_false_iff_not, Int.not_lt] at hc) <;> (try (exfalso; omega)) <;> (try simp (disch := omega) [go_sem, *, wrap64_id, upd_ne, ilt_true, ilt_false ]))
              | (refine ac_cond_h fun Kt Kf ht hf => ?_; simp (disch := omega) [go_sem, * ]; try (refine ⟨fun hc => ?_, fun hc => ?_⟩ <;> try (exfalso; omega))))
            all_goals first
              | (have hr : relaxR x q = q.set x.to.toNat ((leave x (at' q x.fr)).1 + x.delay) := by
                   rw [relaxR, if_neg (by omega), if_pos ⟨by assumption, by omega⟩]
                 refine round_end (by simp [go_sem]) ?_ ⟨j + 1, _, relaxR x q, by omega, by omega, (relaxR_len x q).trans hql, relaxR_vals hLO.out hqv.out, hgo2.out, rfl⟩ (by simp [intAt, go_sem]; omega)
                 rw [hr, ← hset q, cellsInts, ← set_cells q _ _ (by omega)]
                 refine Sub.both ?_ m _
                 repeat (first | exact Sub.refl _ | refine Sub.upd ?_ (hnb.out _ _ (by omega)) _))
              | (have hr : relaxR x q = q := by
                   simp only [relaxR]
                   split
                   · rfl
                   · first
                       | rfl
                       | (split
                          · rename_i h1 h2
                            exfalso
                            obtain ⟨h2, h3⟩ := h2
                            first
                              | omega
                              | (rw [h2] at hc; cases hc)
                          · rfl)
                 refine round_end (by simp [go_sem]) ?_ ⟨j + 1, _, relaxR x q, by omega, by omega, (relaxR_len x q).trans hql, relaxR_vals hLO.out hqv.out, hgo2.out, rfl⟩ (by simp [intAt, go_sem]; omega)
                 rw [hr]
                 repeat (first | exact Sub.refl _ | refine Sub.upd ?_ (hnb.out _ _ (by omega)) _))
          · have hjl : j = N.links.length := by omega
            rw [hjl, List.drop_length, passR] at hgo2
            have hk1 : st + 1 - k = (st + 1 - (k + 1)) + 1 := by omega
            rw [hk1, roundsR, ← hgo2] at hgo
            replace hgo : Hide _ := hgo
            replace hqv : Hide _ := hqv
            replace hok : Hide _ := hok
            clear hov hgo2
            repeat' (first
              | (refine ac_seq_h fun K hK => ?_)
              | (refine ac_region_h fun K hK => ?_; simp (disch := omega) [go_sem, *, wrap64_id])
              | (refine ac_draw_h mixed (by kernel_rfl) fun K hK => ?_; simp (disch := omega) [go_sem, *, wrap64_id, upd_ne, mk3_true, flatten_replicate_one, stepK_if, ilt_true, ilt_false, ile_true, ile_false])
              | (apply Hide.out hK; clear hK K; try with_reducible dsimp only [thenA])
              | (apply Hide.out ht; clear ht hf Kt Kf)
              | (apply Hide.out hf; clear ht hf Kt Kf)
              | (clear hK K; apply Hide.out hK; clear hK K; try with_reducible dsimp only [thenA])
              | (clear hK K; clear hK K; apply Hide.out hK; clear hK K; try with_reducible dsimp only [thenA])
              | (refine ac_block ?_)
              | (refine ac_skip ?_; simp only [thenA, blockA])
              | (refine ac_exit ?_; simp only [thenA, blockA, if_true, if_false, Nat.reduceEqDiff])
              | (with_reducible show nextK _ _ _ _ _ _ _; simp (disch := omega) [go_sem, *, wrap64_id, upd_ne, mk3_true, flatten_replicate_one, stepK_if, ilt_true, ilt_false, ile_true, ile_false])
              | (refine wantK_split (fun hc => ?_) (fun hc => ?_) <;> (try simp only [Bool.not_eq_true', Bool.not_eq_false', Bool.not_eq_eq_eq_not, Bool.not_true, Bool.not_false, decide_eq_true_eq, decide_eq_false_iff_not, Int.not_lt, Int.not_le] at hc) <;> (try (exfalso; omega)) <;> (try simp (disch := omega) [go_sem, *, wrap64_id, upd_ne, mk3_true, flatten_replicate_one, stepK_if, ilt_true, ilt_false, ile_true, ile_false]))
              | (refine ac_cond_h fun Kt Kf ht hf => ?_; simp (disch := omega) [go_sem, *]; try (refine ⟨fun hc => ?_, fun hc => ?_⟩ <;> try (exfalso; omega))))
            exact round_end (by simp [go_sem]) (Sub.refl _) ⟨k + 1, _, q, by omega, by omega, hql, hqv.out, hgo.out, rfl⟩ (by simp [intAt, go_sem]; omega)
      · have hkl : k = st + 1 := by omega
        rw [hkl, Nat.sub_self, roundsR] at hgo
        have hHr : ∀ o, H o (n + 1) = some (.cells [.fslc true true 0 [], iv .i64 0]) := fun o => by rw [hH.out]; simp (disch := omega) only [upd_ne, upd_same]
        clear hov
        replace hok : Hide _ := hok
        replace hgo : Hide _ := hgo
        replace hF : Hide _ := hF
        repeat' (first
          | (refine ac_seq_h fun K hK => ?_)
          | (refine ac_region_h fun K hK => ?_; simp (disch := omega) [go_sem, *, ile_false])
          | (refine ac_draw_h mixed (by kernel_rfl) fun K hK => ?_; simp (disch := omega) [go_sem, *, wrap64_id, upd_ne, mk3_true, flatten_replicate_one, stepK_if, ilt_true, ilt_false, ile_true, ile_false])
          | (apply Hide.out hK; clear hK K; try with_reducible dsimp only [thenA])
          | (apply Hide.out ht; clear ht hf Kt Kf)
          | (apply Hide.out hf; clear ht hf Kt Kf)
          | (clear hK K; apply Hide.out hK; clear hK K; try with_reducible dsimp only [thenA])
          | (clear hK K; clear hK K; apply Hide.out hK; clear hK K; try with_reducible dsimp only [thenA])
          | (refine ac_block ?_)
          | (refine ac_skip ?_; simp only [thenA, blockA])
          | (refine ac_exit ?_; simp only [thenA, blockA, if_true])
          | (with_reducible show nextK _ _ _ _ _ _ _; simp (disch := omega) [go_sem, *, wrap64_id, upd_ne, mk3_true, flatten_replicate_one, stepK_if, ilt_true, ilt_false, ile_true, ile_false])
          | (refine wantK_split (fun hc => ?_) (fun hc => ?_) <;> (try simp only [Bool.not_eq_true', Bool.not_eq_false', Bool.not_eq_eq_eq_not, Bool.not_true, Bool.not_false, decide_eq_true_eq, decide_eq_false_iff_not, Int.not_lt, Int.not_le] at hc) <;> (try (exfalso; omega)) <;> (try simp (disch := omega) [go_sem, *, wrap64_id, upd_ne, mk3_true, flatten_replicate_one, stepK_if, ilt_true, ilt_false, ile_true, ile_false]))
          | (refine ac_cond_h fun Kt Kf ht hf => ?_; simp (disch := omega) [go_sem, *]; try (refine ⟨fun hc => ?_, fun hc => ?_⟩ <;> try (exfalso; omega))))
        have hag := hAsk.out
        refine ac_ret ?_
        refine ⟨by simp, _, (by simp (disch := omega) [go_sem] <;> rfl), ?_⟩
        have hmm : ((H o).upd (n + 1) (some (.cells [.slc m 0 st 1, iv .i64 0]))) m = some (cellsInts o) := by simp (disch := omega) only [upd_ne, hHm]
        refine ret_freeze false hmm ?_
        refine ret_id ⟨fun k hk => ?_, ?_, ?_, by simp, by simp⟩
        · simp (disch := omega) only [upd_ne]; rw [hH.out]; simp (disch := omega) only [upd_ne]
        · have hel := elems_ints o
          rw [hol] at hel
          simp [resVal, fzT, fz, hol, hel, below, belowL, belowL_iff]
        · have hel := elems_ints o
          rw [hol] at hel
          simp [resVal, fzT, fz, hag, ← hgo.out, hol, hel]
  · skip
    repeat' (first
      | (refine ac_seq_h fun K hK => ?_)
      | (refine ac_region_h fun K hK => ?_; simp (disch := omega) [go_sem, *, upd_ne, Try.ntmps19 ])
      | (refine ac_draw_h mixed (by kernel_rfl) fun K hK => ?_; simp (disch := omega) [go_sem, *, wrap64_id, upd_ne, mk3_true, flatten_replicate_one, stepK_if, ilt_true, ilt_false, ile_true, ile_false, Try.ntmps19 ])
      | (apply Hide.out hK; clear hK K; try with_reducible dsimp only [thenA])
      | (apply Hide.out ht; clear ht hf Kt Kf)
      | (apply Hide.out hf; clear ht hf Kt Kf)
      | (clear hK K; apply Hide.out hK; clear hK K; try with_reducible dsimp only [thenA])
      | (clear hK K; clear hK K; apply Hide.out hK; clear hK K; try with_reducible dsimp only [thenA])
      | (with_reducible refine APure.call (asked_ref _ _ _) ?_; try simp (disch := omega) [go_sem, * ])
      | (refine ac_block ?_)
      | (refine ac_skip ?_; simp only [thenA, blockA])
      | (refine ac_exit ?_; simp only [thenA, blockA, if_true, if_false, Nat.reduceEqDiff])
      | (with_reducible show nextK _ _ _ _ _ _ _; simp (disch := omega) [go_sem, *, wrap64_id, upd_ne, mk3_true, flatten_replicate_one, stepK_if, ilt_true, ilt_false, ile_true, ile_false, Try.ntmps19 ])
      | (refine wantK_split (fun hc => ?_) (fun hc => ?_) <;> (try simp only [Bool.not_eq_true', Bool.not_eq_false', Bool.not_eq_eq_eq_not, Bool.not_true, Bool.not_false, decide_eq_true_eq, decide_eq_false_iff_not, Int.not_lt, Int.not_le] at hc) <;> (try (exfalso; omega)) <;> (try simp (disch := omega) [go_sem, *, wrap64_id, upd_ne, mk3_true, flatten_replicate_one, stepK_if, ilt_true, ilt_false, ile_true, ile_false, Try.ntmps19 ]))
      | (refine ac_cond_h fun Kt Kf ht hf => ?_; simp (disch := omega) [go_sem, * ]; try (refine ⟨fun hc => ?_, fun hc => ?_⟩ <;> try (exfalso; omega))))
    (refine ac_ret ?_; try dsimp only [thenA, blockA]; refine ⟨by simp, _, (by first | rfl | (simp (disch := omega) [go_sem] <;> rfl)), ?_⟩; refine ret_id ⟨fun k hk => (by first | rfl | (repeat rw [upd_ne _ _ _ _ (by omega)])), (by simp [go_sem, below, belowL]), (by simp [go_sem, hE] <;> omega), by simp, by simp⟩)
end Go.AM

namespace Go.AM
open Go.Proofs Nets
set_option maxRecDepth 10000
set_option maxHeartbeats 4000000
theorem latest_ref (N : Net) (s t : Int) : APure Try.prog 21 [encNet N, iv .i64 s, iv .i64 t] (.agg [eInts (askedE N t [s]) (lateR N s t), iv .i64 (askedE N t [s])]) := by
  intro h n
  refine ACalls.pure (ACalls.entry (by kernel_rfl) fun hb _ => calls_of Try.func21 rfl (by kernel_rfl) (by simp [Try.ntmps21]) ?_)
  by_cases hE : askedE N t [s] = 0
  · have hC : checkE N = 0 := by
      unfold askedE at hE; split at hE
      · rename_i h; exact absurd hE h
      · rename_i h; simpa using h
    obtain ⟨s1, s2, hll, hok⟩ := checkE_ok hC
    have hst : (0 ≤ s ∧ s < N.st) ∧ 0 ≤ t ∧ t ≤ 1048576 := by
      simp only [askedE, hC] at hE
      simp [within] at hE
      omega
    obtain ⟨⟨b1, b2⟩, b3, b4⟩ := hst
    repeat' (first
      | (refine ac_seq_h fun K hK => ?_)
      | (refine ac_region_h fun K hK => ?_; simp (disch := omega) [go_sem, *, upd_ne, Try.ntmps21 ])
      | (refine ac_draw_h mixed (by kernel_rfl) fun K hK => ?_; simp (disch := omega) [go_sem, *, wrap64_id, upd_ne, mk3_true, flatten_replicate_one, stepK_if, ilt_true, ilt_false, ile_true, ile_false, Try.ntmps21 ])
      | (apply Hide.out hK; clear hK K; try with_reducible dsimp only [thenA])
      | (apply Hide.out ht; clear ht hf Kt Kf)
      | (apply Hide.out hf; clear ht hf Kt Kf)
      | (clear hK K; apply Hide.out hK; clear hK K; try with_reducible dsimp only [thenA])
      | (clear hK K; clear hK K; apply Hide.out hK; clear hK K; try with_reducible dsimp only [thenA])
      | (with_reducible refine APure.call (asked_ref _ _ _) ?_; try simp (disch := omega) [go_sem, * ])
      | (refine ac_block ?_)
      | (refine ac_skip ?_; simp only [thenA])
      | (refine ac_exit ?_; simp only [thenA, blockA, if_true, if_false, Nat.reduceEqDiff])
      | (with_reducible show nextK _ _ _ _ _ _ _; simp (disch := omega) [go_sem, *, wrap64_id, upd_ne, mk3_true, flatten_replicate_one, stepK_if, ilt_true, ilt_false, ile_true, ile_false, Try.ntmps21 ])
      | (refine wantK_split (fun hc => ?_) (fun hc => ?_) <;> (try simp only [Bool.not_eq_true', Bool.not_eq_false', Bool.not_eq_eq_eq_not, Bool.not_true, Bool.not_false, decide_eq_true_eq, decide_eq_false_iff_not, Int.not_lt, Int.not_le] at hc) <;> (try (exfalso; omega)) <;> (try simp (disch := omega) [go_sem, *, wrap64_id, upd_ne, mk3_true, flatten_replicate_one, stepK_if, ilt_true, ilt_false, ile_true, ile_false, Try.ntmps21 ]))
      | (refine ac_cond_h fun Kt Kf ht hf => ?_; simp (disch := omega) [go_sem, * ]; try (refine ⟨fun hc => ?_, fun hc => ?_⟩ <;> try (exfalso; omega))))
    refine none_ref _ s1 s2 _ _ _ fun m n' hm hmn => ?_
    repeat' (first
      | (refine ac_seq_h fun K hK => ?_)
      | (refine ac_region_h fun K hK => ?_; simp (disch := omega) [go_sem, *, ilt_true, ile_true])
      | (refine ac_draw_h mixed (by kernel_rfl) fun K hK => ?_; simp (disch := omega) [go_sem, *, wrap64_id, upd_ne, mk3_true, flatten_replicate_one, stepK_if, ilt_true, ilt_false, ile_true, ile_false])
      | (apply Hide.out hK; clear hK K; try with_reducible dsimp only [thenA])
      | (apply Hide.out ht; clear ht hf Kt Kf)
      | (apply Hide.out hf; clear ht hf Kt Kf)
      | (clear hK K; apply Hide.out hK; clear hK K; try with_reducible dsimp only [thenA])
      | (clear hK K; clear hK K; apply Hide.out hK; clear hK K; try with_reducible dsimp only [thenA])
      | (refine ac_block ?_)
      | (refine ac_skip ?_; simp only [thenA, blockA])
      | (refine ac_exit ?_; simp only [thenA, blockA, if_true, if_false, Nat.reduceEqDiff])
      | (with_reducible show nextK _ _ _ _ _ _ _; simp (disch := omega) [go_sem, *])
      | (refine wantK_split (fun hc => ?_) (fun hc => ?_) <;> (try simp only [Bool.not_eq_true', Bool.not_eq_false', Bool.not_eq_eq_eq_not, Bool.not_true, Bool.not_false, decide_eq_true_eq, decide_eq_false_iff_not, Int.not_lt, Int.not_le] at hc) <;> (try (exfalso; omega)) <;> (try simp (disch := omega) [go_sem, *, wrap64_id, upd_ne, mk3_true, flatten_replicate_one, stepK_if, ilt_true, ilt_false, ile_true, ile_false]))
      | (refine ac_cond_h fun Kt Kf ht hf => ?_; simp (disch := omega) [go_sem, *, wrap64_id, upd_ne, mk3_true, flatten_replicate_one, stepK_if, ilt_true, ilt_false, ile_true, ile_false]; try (refine ⟨fun hc => ?_, fun hc => ?_⟩ <;> try (exfalso; omega))))
    obtain ⟨st, hst⟩ : ∃ st : Nat, N.st = st := ⟨N.st.toNat, by omega⟩
    have hst2 : N.st.toNat = st := by omega
    have hF : lateR N s t = roundsL N.links (st + 1) (startR st s t) := by rw [lateR, hst2]
    have hAsk : Hide (askedE N t [s] = 0) := hE
    clear hE hC
    obtain ⟨H, hH⟩ : ∃ H : List Int → AHeap, Hide (∀ o, H o = ((h.upd n (some (cellsNet N))).upd (n + 1) (some (.cells [.fslc true true 0 [], iv .i64 0]))).upd m (some (cellsInts o))) := ⟨_, fun _ => rfl⟩
    have hnb : ∀ o k, n' ≤ k → H o k = none := fun o k hk => by rw [hH.out]; simp (disch := omega) only [upd_ne]; exact hb.none (by omega)
    have hHn : ∀ o, H o n = some (cellsNet N) := fun o => by rw [hH.out]; simp (disch := omega) only [upd_ne, upd_same]
    have hHm : ∀ o, H o m = some (cellsInts o) := fun o => by rw [hH.out, upd_same]
    have hnb : Hide (∀ o k, n' ≤ k → H o k = none) := hnb
    have hset : ∀ o o', (H o).upd m (some (cellsInts o')) = H o' := fun o o' => by rw [hH.out, hH.out, upd_upd]
    refine ac_loop_wk (fun s' => ∃ (k n2 : Nat) (o : List Int), n' ≤ n2 ∧ k ≤ st + 1 ∧ o.length = st ∧ Vals o ∧ roundsL N.links (st + 1 - k) o = lateR N s t ∧ s' = ⟨79, [(3, .ptr n 0), (6, .ptr (n + 1) 0), (8, .slc m 0 st 1), (9, iv .i64 k)], H o, n2⟩)
      (fun s => st + 1 - (intAt s 9).toNat) ?_ ?_
    · refine loop_start (by simp [go_sem, hst2]) ?_ ⟨0, _, startR st s t, ?_, by omega, startR_len _ _ _, startR_vals b3 b4, hF.symm, rfl⟩
      · rw [upd_upd, hH.out, cellsInts, startR_cells _ (by omega), hst2]; exact Sub.refl _
      · omega
    · rintro s' ⟨k, n2, o, hn2, hk, hol, hov, hgo, rfl⟩
      by_cases hlt : k < st + 1
      · skip
        repeat' (first
          | (refine ac_seq_h fun K hK => ?_)
          | (refine ac_region_h fun K hK => ?_; simp (disch := omega) [go_sem, *, ile_true])
          | (refine ac_draw_h mixed (by kernel_rfl) fun K hK => ?_; simp (disch := omega) [go_sem, *, wrap64_id, upd_ne, mk3_true, flatten_replicate_one, stepK_if, ilt_true, ilt_false, ile_true, ile_false])
          | (apply Hide.out hK; clear hK K; try with_reducible dsimp only [thenA])
          | (apply Hide.out ht; clear ht hf Kt Kf)
          | (apply Hide.out hf; clear ht hf Kt Kf)
          | (clear hK K; apply Hide.out hK; clear hK K; try with_reducible dsimp only [thenA])
          | (clear hK K; clear hK K; apply Hide.out hK; clear hK K; try with_reducible dsimp only [thenA])
          | (refine ac_block ?_)
          | (refine ac_skip ?_; simp only [thenA])
          | (refine ac_exit ?_; simp only [thenA, blockA, if_true, if_false, Nat.reduceEqDiff])
          | (with_reducible show nextK _ _ _ _ _ _ _; simp (disch := omega) [go_sem, *, wrap64_id, upd_ne, mk3_true, flatten_replicate_one, stepK_if, ilt_true, ilt_false, ile_true, ile_false])
          | (refine wantK_split (fun hc => ?_) (fun hc => ?_) <;> (try simp only [Bool.not_eq_true', Bool.not_eq_false', Bool.not_eq_eq_eq_not, Bool.not_true, Bool.not_false, decide_eq_true_eq, decide_eq_false_iff_not, Int.not_lt, Int.not_le] at hc) <;> (try (exfalso; omega)) <;> (try simp (disch := omega) [go_sem, *, wrap64_id, upd_ne, mk3_true, flatten_replicate_one, stepK_if, ilt_true, ilt_false, ile_true, ile_false]))
          | (refine ac_cond_h fun Kt Kf ht hf => ?_; simp (disch := omega) [go_sem, *]; try (refine ⟨fun hc => ?_, fun hc => ?_⟩ <;> try (exfalso; omega))))
        refine ac_loop_wk (fun s' => ∃ (j n3 : Nat) (q : List Int), n' ≤ n3 ∧ j ≤ N.links.length ∧ q.length = st ∧ Vals q ∧ passL (N.links.drop j) q = passL N.links o ∧ s' = ⟨79, [(3, .ptr n 0), (6, .ptr (n + 1) 0), (8, .slc m 0 st 1), (9, iv .i64 k), (10, iv .i64 j)], H q, n3⟩)
          (fun s => N.links.length - (intAt s 10).toNat) ?_ ?_
        · exact loop_start (by simp [go_sem]) (Sub.refl _) ⟨0, _, o, by omega, by omega, hol, hov, by simp, rfl⟩
        · rintro s' ⟨j, n3, q, hn3, hj, hql, hqv, hgo2, rfl⟩
          by_cases hltj : j < N.links.length
          · obtain ⟨x, hx1, hx2, hx3⟩ := at_k hltj
            obtain ⟨x1, x2, x3, x4, x5, x6⟩ := hok x (List.mem_of_getElem? hx2)
            have hv1 := at_get x1 (show x.fr < (q.length : Int) by omega)
            have hv2 := at_get x3 (show x.to < (q.length : Int) by omega)
            have hb1 := hqv.at x1 (show x.fr < (q.length : Int) by omega)
            have hb2 := hqv.at x3 (show x.to < (q.length : Int) by omega)
            rw [hx3, passL] at hgo2
            have hg1 := at_get' (o := q) x.fr
            have hg2 := at_get' (o := q) x.to
            have hlr := last_range x6 (at' q x.to)
            have hdl := (right_spans x6).1
            have hLO : LOk N.st x := ⟨x1, x2, x3, x4, x5, x6⟩
            replace hgo2 : Hide _ := hgo2
            replace hLO : Hide _ := hLO
            replace hok : Hide _ := hok
            replace hqv : Hide _ := hqv
            replace hgo : Hide _ := hgo
            clear hx3 hov
            repeat' (first
              | (refine ac_seq_h fun K hK => ?_)
              | (refine ac_region_h fun K hK => ?_; simp (disch := omega) [go_sem, *, wrap64_id, upd_ne, stepK_if, ilt_true, ilt_false, ile_true, encLink ])
              | (refine ac_draw_h mixed (by kernel_rfl) fun K hK => ?_; simp (disch := omega) [go_sem, *, upd_ne, ilt_true, ilt_false ])
              | (apply Hide.out hK; clear hK K; try with_reducible dsimp only [thenA])
              | (apply Hide.out ht; clear ht hf Kt Kf)
              | (apply Hide.out hf; clear ht hf Kt Kf)
              | (clear hK K; apply Hide.out hK; clear hK K; try with_reducible dsimp only [thenA])
              | (clear hK K; clear hK K; apply Hide.out hK; clear hK K; try with_reducible dsimp only [thenA])
              | (with_reducible refine APure.call (last_ref _ _) ?_; try simp (disch := omega) [go_sem, * ])
              | (refine ac_block ?_)
              | (refine ac_skip ?_; simp only [thenA, blockA])
              | (refine ac_exit ?_; simp only [thenA, blockA, if_true, if_false, Nat.reduceEqDiff])
              | (with_reducible show nextK _ _ _ _ _ _ _; simp (disch := omega) [go_sem, *, wrap64_id, upd_ne, mk3_true, flatten_replicate_one, stepK_if, ilt_true, ilt_false, ile_true, ile_false, encLink ])
              | (refine wantK_split (fun hc => ?_) (fun hc => ?_) <;> (try simp only [Bool.not_eq_true', Bool.not_eq_false', Bool.not_eq_eq_eq_not, Bool.not_true, Bool.not_false, decide_eq_true_eq, decide_eq_false_iff_not, Int.not_lt, Int.not_le] at hc) <;> (try (exfalso; omega)) <;> (try simp (disch := omega) [go_sem, *, upd_ne, ilt_true ]))
              | (refine ac_cond_h fun Kt Kf ht hf => ?_; simp (disch := omega) [go_sem, * ]; try (refine ⟨fun hc => ?_, fun hc => ?_⟩ <;> try (exfalso; omega))))
            all_goals first
              | (have hr : relaxL x q = q.set x.fr.toNat (last x (at' q x.to)).1 := by
                   rw [relaxL, if_neg (by omega), if_pos ⟨by assumption, by omega⟩]
                 refine round_end (by simp [go_sem]) ?_ ⟨j + 1, _, relaxL x q, by omega, by omega, (relaxL_len x q).trans hql, relaxL_vals hLO.out hqv.out, hgo2.out, rfl⟩ (by simp [intAt, go_sem]; omega)
                 rw [hr, ← hset q, cellsInts, ← set_cells q _ _ (by omega)]
                 refine Sub.both ?_ m _
                 repeat (first | exact Sub.refl _ | refine Sub.upd ?_ (hnb.out _ _ (by omega)) _))
              | (have hr : relaxL x q = q := by
                   simp only [relaxL]
                   split
                   · rfl
                   · first
                       | rfl
                       | (split
                          · rename_i h1 h2
                            exfalso
                            obtain ⟨h2, h3⟩ := h2
                            first
                              | omega
                              | (rw [h2] at hc; cases hc)
                          · rfl)
                 refine round_end (by simp [go_sem]) ?_ ⟨j + 1, _, relaxL x q, by omega, by omega, (relaxL_len x q).trans hql, relaxL_vals hLO.out hqv.out, hgo2.out, rfl⟩ (by simp [intAt, go_sem]; omega)
                 rw [hr]
                 repeat (first | exact Sub.refl _ | refine Sub.upd ?_ (hnb.out _ _ (by omega)) _))
          · have hjl : j = N.links.length := by omega
            rw [hjl, List.drop_length, passL] at hgo2
            have hk1 : st + 1 - k = (st + 1 - (k + 1)) + 1 := by omega
            rw [hk1, roundsL, ← hgo2] at hgo
            replace hgo : Hide _ := hgo
            replace hqv : Hide _ := hqv
            replace hok : Hide _ := hok
            clear hov hgo2
            repeat' (first
              | (refine ac_seq_h fun K hK => ?_)
              | (refine ac_region_h fun K hK => ?_; simp (disch := omega) [go_sem, *, wrap64_id])
              | (refine ac_draw_h mixed (by kernel_rfl) fun K hK => ?_; simp (disch := omega) [go_sem, *, wrap64_id, upd_ne, mk3_true, flatten_replicate_one, stepK_if, ilt_true, ilt_false, ile_true, ile_false])
              | (apply Hide.out hK; clear hK K; try with_reducible dsimp only [thenA])
              | (apply Hide.out ht; clear ht hf Kt Kf)
              | (apply Hide.out hf; clear ht hf Kt Kf)
              | (clear hK K; apply Hide.out hK; clear hK K; try with_reducible dsimp only [thenA])
              | (clear hK K; clear hK K; apply Hide.out hK; clear hK K; try with_reducible dsimp only [thenA])
              | (refine ac_block ?_)
              | (refine ac_skip ?_; simp only [thenA, blockA])
              | (refine ac_exit ?_; simp only [thenA, blockA, if_true, if_false, Nat.reduceEqDiff])
              | (with_reducible show nextK _ _ _ _ _ _ _; simp (disch := omega) [go_sem, *, wrap64_id, upd_ne, mk3_true, flatten_replicate_one, stepK_if, ilt_true, ilt_false, ile_true, ile_false])
              | (refine wantK_split (fun hc => ?_) (fun hc => ?_) <;> (try simp only [Bool.not_eq_true', Bool.not_eq_false', Bool.not_eq_eq_eq_not, Bool.not_true, Bool.not_false, decide_eq_true_eq, decide_eq_false_iff_not, Int.not_lt, Int.not_le] at hc) <;> (try (exfalso; omega)) <;> (try simp (disch := omega) [go_sem, *, wrap64_id, upd_ne, mk3_true, flatten_replicate_one, stepK_if, ilt_true, ilt_false, ile_true, ile_false]))
              | (refine ac_cond_h fun Kt Kf ht hf => ?_; simp (disch := omega) [go_sem, *]; try (refine ⟨fun hc => ?_, fun hc => ?_⟩ <;> try (exfalso; omega))))
            exact round_end (by simp [go_sem]) (Sub.refl _) ⟨k + 1, _, q, by omega, by omega, hql, hqv.out, hgo.out, rfl⟩ (by simp [intAt, go_sem]; omega)
      · have hkl : k = st + 1 := by omega
        rw [hkl, Nat.sub_self, roundsL] at hgo
        have hHr : ∀ o, H o (n + 1) = some (.cells [.fslc true true 0 [], iv .i64 0]) := fun o => by rw [hH.out]; simp (disch := omega) only [upd_ne, upd_same]
        clear hov
        replace hok : Hide _ := hok
        replace hgo : Hide _ := hgo
        replace hF : Hide _ := hF
        repeat' (first
          | (refine ac_seq_h fun K hK => ?_)
          | (refine ac_region_h fun K hK => ?_; simp (disch := omega) [go_sem, *, ile_false])
          | (refine ac_draw_h mixed (by kernel_rfl) fun K hK => ?_; simp (disch := omega) [go_sem, *, wrap64_id, upd_ne, mk3_true, flatten_replicate_one, stepK_if, ilt_true, ilt_false, ile_true, ile_false])
          | (apply Hide.out hK; clear hK K; try with_reducible dsimp only [thenA])
          | (apply Hide.out ht; clear ht hf Kt Kf)
          | (apply Hide.out hf; clear ht hf Kt Kf)
          | (clear hK K; apply Hide.out hK; clear hK K; try with_reducible dsimp only [thenA])
          | (clear hK K; clear hK K; apply Hide.out hK; clear hK K; try with_reducible dsimp only [thenA])
          | (refine ac_block ?_)
          | (refine ac_skip ?_; simp only [thenA, blockA])
          | (refine ac_exit ?_; simp only [thenA, blockA, if_true])
          | (with_reducible show nextK _ _ _ _ _ _ _; simp (disch := omega) [go_sem, *, wrap64_id, upd_ne, mk3_true, flatten_replicate_one, stepK_if, ilt_true, ilt_false, ile_true, ile_false])
          | (refine wantK_split (fun hc => ?_) (fun hc => ?_) <;> (try simp only [Bool.not_eq_true', Bool.not_eq_false', Bool.not_eq_eq_eq_not, Bool.not_true, Bool.not_false, decide_eq_true_eq, decide_eq_false_iff_not, Int.not_lt, Int.not_le] at hc) <;> (try (exfalso; omega)) <;> (try simp (disch := omega) [go_sem, *, wrap64_id, upd_ne, mk3_true, flatten_replicate_one, stepK_if, ilt_true, ilt_false, ile_true, ile_false]))
          | (refine ac_cond_h fun Kt Kf ht hf => ?_; simp (disch := omega) [go_sem, *]; try (refine ⟨fun hc => ?_, fun hc => ?_⟩ <;> try (exfalso; omega))))
        have hag := hAsk.out
        refine ac_ret ?_
        refine ⟨by simp, _, (by simp (disch := omega) [go_sem] <;> rfl), ?_⟩
        have hmm : ((H o).upd (n + 1) (some (.cells [.slc m 0 st 1, iv .i64 0]))) m = some (cellsInts o) := by simp (disch := omega) only [upd_ne, hHm]
        refine ret_freeze false hmm ?_
        refine ret_id ⟨fun k hk => ?_, ?_, ?_, by simp, by simp⟩
        · simp (disch := omega) only [upd_ne]; rw [hH.out]; simp (disch := omega) only [upd_ne]
        · have hel := elems_ints o
          rw [hol] at hel
          simp [resVal, fzT, fz, hol, hel, below, belowL, belowL_iff]
        · have hel := elems_ints o
          rw [hol] at hel
          simp [resVal, fzT, fz, hag, ← hgo.out, hol, hel]
  · skip
    repeat' (first
      | (refine ac_seq_h fun K hK => ?_)
      | (refine ac_region_h fun K hK => ?_; simp (disch := omega) [go_sem, *, upd_ne, Try.ntmps21 ])
      | (refine ac_draw_h mixed (by kernel_rfl) fun K hK => ?_; simp (disch := omega) [go_sem, *, wrap64_id, upd_ne, mk3_true, flatten_replicate_one, stepK_if, ilt_true, ilt_false, ile_true, ile_false, Try.ntmps21 ])
      | (apply Hide.out hK; clear hK K; try with_reducible dsimp only [thenA])
      | (apply Hide.out ht; clear ht hf Kt Kf)
      | (apply Hide.out hf; clear ht hf Kt Kf)
      | (clear hK K; apply Hide.out hK; clear hK K; try with_reducible dsimp only [thenA])
      | (clear hK K; clear hK K; apply Hide.out hK; clear hK K; try with_reducible dsimp only [thenA])
      | (with_reducible refine APure.call (asked_ref _ _ _) ?_; try simp (disch := omega) [go_sem, * ])
      | (refine ac_block ?_)
      | (refine ac_skip ?_; simp only [thenA, blockA])
      | (refine ac_exit ?_; simp only [thenA, blockA, if_true, if_false, Nat.reduceEqDiff])
      | (with_reducible show nextK _ _ _ _ _ _ _; simp (disch := omega) [go_sem, *, wrap64_id, upd_ne, mk3_true, flatten_replicate_one, stepK_if, ilt_true, ilt_false, ile_true, ile_false, Try.ntmps21 ])
      | (refine wantK_split (fun hc => ?_) (fun hc => ?_) <;> (try simp only [Bool.not_eq_true', Bool.not_eq_false', Bool.not_eq_eq_eq_not, Bool.not_true, Bool.not_false, decide_eq_true_eq, decide_eq_false_iff_not, Int.not_lt, Int.not_le] at hc) <;> (try (exfalso; omega)) <;> (try simp (disch := omega) [go_sem, *, wrap64_id, upd_ne, mk3_true, flatten_replicate_one, stepK_if, ilt_true, ilt_false, ile_true, ile_false, Try.ntmps21 ]))
      | (refine ac_cond_h fun Kt Kf ht hf => ?_; simp (disch := omega) [go_sem, * ]; try (refine ⟨fun hc => ?_, fun hc => ?_⟩ <;> try (exfalso; omega))))
    (refine ac_ret ?_; try dsimp only [thenA, blockA]; refine ⟨by simp, _, (by first | rfl | (simp (disch := omega) [go_sem] <;> rfl)), ?_⟩; refine ret_id ⟨fun k hk => (by first | rfl | (repeat rw [upd_ne _ _ _ _ (by omega)])), (by simp [go_sem, below, belowL]), (by simp [go_sem, hE] <;> omega), by simp, by simp⟩)
end Go.AM

namespace Go.AM
open Go.Proofs Nets
set_option maxRecDepth 10000
set_option maxHeartbeats 4000000
def hopCells (l : List Hop) : List AV := l.flatMap fun x => [iv .i64 x.link, iv .i64 x.tick]
theorem hopCells_cons (x : Hop) (r : List Hop) : hopCells (x :: r) = iv .i64 x.link :: iv .i64 x.tick :: hopCells r := by simp [hopCells]
@[go_sem] theorem hopCells_len : ∀ l : List Hop, (hopCells l).length = l.length * 2
  | [] => rfl
  | x :: r => by rw [hopCells_cons]; simp [hopCells_len r]; omega
theorem hop_set : ∀ (l : List Hop) (k : Nat) (x : Hop), k < l.length → (hopCells l).take (k * 2) ++ iv .i64 x.link :: iv .i64 x.tick :: (hopCells l).drop (k * 2 + 2) = hopCells (l.set k x)
  | [], _, _, h => by simp at h
  | a :: r, 0, x, _ => by simp [hopCells_cons]
  | a :: r, k + 1, x, h => by
    have := hop_set r k x (by simpa using h)
    rw [List.set_cons_succ, hopCells_cons, hopCells_cons, ← this]
    simp [show (k + 1) * 2 = k * 2 + 1 + 1 by omega]
theorem hop_rep : ∀ n : Nat, (List.replicate n [iv .i64 0, iv .i64 0]).flatten = hopCells (List.replicate n ⟨0, 0⟩)
  | 0 => rfl
  | n + 1 => by rw [List.replicate_succ, List.replicate_succ, hopCells_cons, List.flatten_cons, hop_rep n]; rfl
theorem elems_hops : ∀ l : List Hop, elems true 2 l.length (hopCells l) = l.map encHop
  | [] => rfl
  | x :: r => by
    have := elems_hops r
    rw [hopCells_cons]
    simp only [elems, List.length_cons, chunk, List.map_cons] at this ⊢
    simp [mkElem, this]
abbrev cellsHops (l : List Hop) : AObj := .cells (hopCells l)
def measC : List AV → Nat
  | [] => 0
  | .c (.int _ v) :: r => (if v < 0 then 2097152 else v.toNat) + measC r
  | _ :: r => measC r
theorem measC_ints : ∀ l : List Int, measC (l.map (iv .i64)) = meas l
  | [] => rfl
  | x :: r => by simp only [List.map_cons, measC, meas, measC_ints r]
theorem arrivals_spec (N : Net) (s t : Int) (hC : checkE N = 0) (b1 : 0 ≤ s) (b2 : s < N.st) (b3 : 0 ≤ t) (b4 : t ≤ 1048576) :
    APure Try.prog 43 [encNet N, iv .i64 s, iv .i64 t] (.tup [.fslc false false 1 ((arrP N s t).out.map (iv .i64)), .fslc false false 2 ((arrP N s t).way.map encHop)]) := by
  intro h n
  refine ACalls.pure (ACalls.entry (by kernel_rfl) fun hb _ => calls_of Try.func43 rfl (by kernel_rfl) (by simp [Try.ntmps43]) ?_)
  obtain ⟨s1, s2, hll, hok⟩ := checkE_ok hC
  obtain ⟨st, hst⟩ : ∃ st : Nat, N.st = st := ⟨N.st.toNat, by omega⟩
  have hst2 : N.st.toNat = st := by omega
  replace hok : Hide _ := hok
  repeat' (first
    | (refine ac_seq_h fun K hK => ?_)
    | (refine ac_region_h fun K hK => ?_; simp (disch := omega) [go_sem, *, Try.ntmps43])
    | (refine ac_draw_h mixed (by kernel_rfl) fun K hK => ?_; simp (disch := omega) [go_sem, *, upd_ne, mk3_true, hop_rep])
    | (apply Hide.out hK; clear hK K; try with_reducible dsimp only [thenA])
    | (apply Hide.out ht; clear ht hf Kt Kf)
    | (apply Hide.out hf; clear ht hf Kt Kf)
    | (clear hK K; apply Hide.out hK; clear hK K; try with_reducible dsimp only [thenA])
    | (clear hK K; clear hK K; apply Hide.out hK; clear hK K; try with_reducible dsimp only [thenA])
    | (refine ac_block ?_)
    | (refine ac_skip ?_; simp only [thenA, blockA])
    | (refine ac_exit ?_; simp only [thenA, blockA, if_true, if_false, Nat.reduceEqDiff])
    | (with_reducible show nextK _ _ _ _ _ _ _; simp (disch := omega) [go_sem, *, wrap64_id, upd_ne, mk3_true, flatten_replicate_one, stepK_if, ilt_true, ilt_false, ile_true, ile_false, Try.ntmps43, hop_rep])
    | (refine wantK_split (fun hc => ?_) (fun hc => ?_) <;> (try simp only [Bool.not_eq_true', Bool.not_eq_false', Bool.not_eq_eq_eq_not, Bool.not_true, Bool.not_false, decide_eq_true_eq, decide_eq_false_iff_not, Int.not_lt, Int.not_le] at hc) <;> (try (exfalso; omega)) <;> (try simp (disch := omega) [go_sem, *, wrap64_id, upd_ne, mk3_true, flatten_replicate_one, stepK_if, ilt_true, ilt_false, ile_true, ile_false, Try.ntmps43, hop_rep]))
    | (refine ac_cond_h fun Kt Kf ht hf => ?_; simp (disch := omega) [go_sem, *, wrap64_id, upd_ne, mk3_true, flatten_replicate_one, stepK_if, ilt_true, ilt_false, ile_true, ile_false, Try.ntmps43, hop_rep]; try (refine ⟨fun hc => ?_, fun hc => ?_⟩ <;> try (exfalso; omega))))
  obtain ⟨H, hH⟩ : ∃ H : List Int → List Hop → AHeap, Hide (∀ o w, H o w = ((h.upd n (some (cellsNet N))).upd (n + 3 + 2) (some (cellsInts o))).upd (n + 3 + 5) (some (cellsHops w))) := ⟨_, fun _ _ => rfl⟩
  have hnb : Hide (∀ o w k, n + 11 ≤ k → H o w k = none) := fun o w k hk => by rw [hH.out]; simp (disch := omega) only [upd_ne]; exact hb.none (by omega)
  have hHn : ∀ o w, H o w n = some (cellsNet N) := fun o w => by rw [hH.out]; simp (disch := omega) only [upd_ne, upd_same]
  have hHa : ∀ o w, H o w (n + 3 + 2) = some (cellsInts o) := fun o w => by rw [hH.out]; simp (disch := omega) only [upd_ne, upd_same]
  have hHb : ∀ o w, H o w (n + 3 + 5) = some (cellsHops w) := fun o w => by rw [hH.out, upd_same]
  have hsa : Hide (∀ o w o', (H o w).upd (n + 3 + 2) (some (cellsInts o')) = H o' w) := fun o w o' => by
    rw [hH.out, hH.out]; funext i
    by_cases h1 : i = n + 3 + 2
    · subst h1; simp (disch := omega) [upd_ne, upd_same]
    · by_cases h2 : i = n + 3 + 5
      · subst h2; simp (disch := omega) [upd_ne, upd_same]
      · simp [upd_ne, h1, h2]
  have hsb : Hide (∀ o w w', (H o w).upd (n + 3 + 5) (some (cellsHops w')) = H o w') := fun o w w' => by rw [hH.out, hH.out, upd_upd]
  refine ac_loop_wk (fun s' => ∃ (k n' : Nat) (l : List Int), n + 11 ≤ n' ∧ k ≤ st ∧ l.length = st ∧ Hide (∀ j, j < k → l[j]? = some (-1)) ∧ s' = ⟨91, [(1, iv .i64 s), (2, iv .i64 t), (3, .ptr n 0), (8, .slc (n + 3 + 2) 0 st 1), (9, .slc (n + 3 + 5) 0 st 2), (24, iv .i64 st), (25, iv .i64 k)], H l (List.replicate st ⟨0, 0⟩), n'⟩)
      (fun s => st - (intAt s 25).toNat) ?_ ?_
  · refine loop_start (by simp [go_sem]) ?_ ⟨0, _, List.replicate st 0, by omega, by omega, by simp, fun j hj => by omega, rfl⟩
    have e : (List.replicate st (0 : Int)).map (iv .i64) = List.replicate st (iv .i64 0) := by simp
    rw [hH.out]
    simp only [cellsInts, e, cellsNet, hst]
    exact Sub.refl _
  · rintro s' ⟨k, n', l, hn', hk', hl, hall, rfl⟩
    by_cases hlt : k < st
    · obtain ⟨x, hx1, hx2, _⟩ := at_k (show k < l.length by omega)
      repeat' (first
        | (refine ac_seq_h fun K hK => ?_)
        | (refine ac_region_h fun K hK => ?_; simp (disch := omega) [go_sem, *, wrap64_id, stepK_if, ilt_true, ile_true])
        | (refine ac_draw_h mixed (by kernel_rfl) fun K hK => ?_; simp (disch := omega) [go_sem, *, wrap64_id, upd_ne, mk3_true, flatten_replicate_one, stepK_if, ilt_true, ilt_false, ile_true, ile_false])
        | (apply Hide.out hK; clear hK K; try with_reducible dsimp only [thenA])
        | (apply Hide.out ht; clear ht hf Kt Kf)
        | (apply Hide.out hf; clear ht hf Kt Kf)
        | (clear hK K; apply Hide.out hK; clear hK K; try with_reducible dsimp only [thenA])
        | (clear hK K; clear hK K; apply Hide.out hK; clear hK K; try with_reducible dsimp only [thenA])
        | (refine ac_block ?_)
        | (refine ac_skip ?_; simp only [thenA])
        | (refine ac_exit ?_; simp only [thenA, blockA, if_true, if_false, Nat.reduceEqDiff])
        | (with_reducible show nextK _ _ _ _ _ _ _; simp (disch := omega) [go_sem, *, wrap64_id, upd_ne, mk3_true, flatten_replicate_one, stepK_if, ilt_true, ilt_false, ile_true, ile_false])
        | (refine wantK_split (fun hc => ?_) (fun hc => ?_) <;> (try simp only [Bool.not_eq_true', Bool.not_eq_false', Bool.not_eq_eq_eq_not, Bool.not_true, Bool.not_false, decide_eq_true_eq, decide_eq_false_iff_not, Int.not_lt, Int.not_le] at hc) <;> (try (exfalso; omega)) <;> (try simp (disch := omega) [go_sem, *, wrap64_id, upd_ne, mk3_true, flatten_replicate_one, stepK_if, ilt_true, ilt_false, ile_true, ile_false]))
        | (refine ac_cond_h fun Kt Kf ht hf => ?_; simp (disch := omega) [go_sem, *]; try (refine ⟨fun hc => ?_, fun hc => ?_⟩ <;> try (exfalso; omega))))
      have hall' : Hide (∀ j, j < k + 1 → (l.set k (-1))[j]? = some (-1)) := fun j hj => by
        rcases Nat.lt_or_ge j k with hjk | hjk
        · rw [List.getElem?_set_ne (by omega)]; exact hall.out j hjk
        · obtain rfl : j = k := by omega
          rw [List.getElem?_set_self (by omega)]
      refine round_end (by simp [go_sem]) ?_ ⟨k + 1, _, l.set k (-1), by omega, by omega, by simpa using hl, hall', rfl⟩ (by simp [intAt, go_sem]; omega)
      rw [← hsa.out l, cellsInts, ← set_cells l k (-1) (by omega)]; exact Sub.refl _
    · have hkk : k = st := by omega
      have hrep : l = List.replicate st (-1) := List.ext_getElem? fun j => by
        rcases Nat.lt_or_ge j st with hj | hj
        · rw [hall.out j (by omega)]; simp [hj]
        · rw [List.getElem?_eq_none (by omega), List.getElem?_eq_none (by simpa using hj)]
      subst hrep
      obtain rfl := hkk.symm
      clear hall hlt
      repeat' (first
        | (refine ac_seq_h fun K hK => ?_)
        | (refine ac_region_h fun K hK => ?_; simp (disch := omega) [go_sem, *, stepK_if, ilt_true])
        | (refine ac_draw_h mixed (by kernel_rfl) fun K hK => ?_; simp (disch := omega) [go_sem, *, wrap64_id, upd_ne, mk3_true, flatten_replicate_one, stepK_if, ilt_true, ilt_false, ile_true, ile_false])
        | (apply Hide.out hK; clear hK K; try with_reducible dsimp only [thenA])
        | (apply Hide.out ht; clear ht hf Kt Kf)
        | (apply Hide.out hf; clear ht hf Kt Kf)
        | (clear hK K; apply Hide.out hK; clear hK K; try with_reducible dsimp only [thenA])
        | (clear hK K; clear hK K; apply Hide.out hK; clear hK K; try with_reducible dsimp only [thenA])
        | (refine ac_block ?_)
        | (refine ac_skip ?_; simp only [thenA, blockA])
        | (refine ac_exit ?_; simp only [thenA, blockA, if_true])
        | (with_reducible show nextK _ _ _ _ _ _ _; simp (disch := omega) [go_sem, *, wrap64_id, upd_ne, mk3_true, flatten_replicate_one, stepK_if, ilt_true, ilt_false, ile_true, ile_false])
        | (refine wantK_split (fun hc => ?_) (fun hc => ?_) <;> (try simp only [Bool.not_eq_true', Bool.not_eq_false', Bool.not_eq_eq_eq_not, Bool.not_true, Bool.not_false, decide_eq_true_eq, decide_eq_false_iff_not, Int.not_lt, Int.not_le] at hc) <;> (try (exfalso; omega)) <;> (try simp (disch := omega) [go_sem, *, wrap64_id, upd_ne, mk3_true, flatten_replicate_one, stepK_if, ilt_true, ilt_false, ile_true, ile_false]))
        | (refine ac_cond_h fun Kt Kf ht hf => ?_; simp (disch := omega) [go_sem, *]; try (refine ⟨fun hc => ?_, fun hc => ?_⟩ <;> try (exfalso; omega))))
      have e0 := (startR_cells (iv .i64) (s := s) (t := t) (show s.toNat < st by omega)).symm
      rw [e0, hsa.out]
      refine best_spec _ _ _ _ ?_
      obtain ⟨B, hB, hB2⟩ : ∃ B, B = n' + 1 + 5 + 2 ∧ n + 11 ≤ B := ⟨_, rfl, by omega⟩
      rw [← hB]
      obtain ⟨H2, hH2⟩ : ∃ H2 : List Int → List Hop → AHeap, Hide (∀ o w, H2 o w = (H o w).upd B (some (.cells [bv true]))) := ⟨_, fun _ _ => rfl⟩
      have hnb2 : Hide (∀ o w k, B + 1 ≤ k → H2 o w k = none) := fun o w k hk => by rw [hH2.out, upd_ne _ _ _ _ (by omega)]; exact hnb.out _ _ _ (by omega)
      have hPn : ∀ o w, H2 o w n = some (cellsNet N) := fun o w => by rw [hH2.out, upd_ne _ _ _ _ (by omega)]; exact hHn _ _
      have hPa : ∀ o w, H2 o w (n + 3 + 2) = some (cellsInts o) := fun o w => by rw [hH2.out, upd_ne _ _ _ _ (by omega)]; exact hHa _ _
      have hPb : ∀ o w, H2 o w (n + 3 + 5) = some (cellsHops w) := fun o w => by rw [hH2.out, upd_ne _ _ _ _ (by omega)]; exact hHb _ _
      have hPB : ∀ o w, H2 o w B = some (.cells [bv true]) := fun o w => by rw [hH2.out, upd_same]
      have hsa2 : Hide (∀ o w o', (H2 o w).upd (n + 3 + 2) (some (cellsInts o')) = H2 o' w) := fun o w o' => by
        rw [hH2.out, hH2.out, ← hsa.out o w o']; funext i
        by_cases h1 : i = n + 3 + 2
        · subst h1; simp (disch := omega) [upd_ne, upd_same]
        · by_cases h2 : i = B
          · subst h2; simp (disch := omega) [upd_ne, upd_same]
          · simp [upd_ne, h1, h2]
      have hsb2 : Hide (∀ o w w', (H2 o w).upd (n + 3 + 5) (some (cellsHops w')) = H2 o w') := fun o w w' => by
        rw [hH2.out, hH2.out, ← hsb.out o w w']; funext i
        by_cases h1 : i = n + 3 + 5
        · subst h1; simp (disch := omega) [upd_ne, upd_same]
        · by_cases h2 : i = B
          · subst h2; simp (disch := omega) [upd_ne, upd_same]
          · simp [upd_ne, h1, h2]
      rw [← hH2.out]
      clear hHn hHa hHb hsa hsb
      have hF : Hide (arrP N s t = runP s N.links (meas (startR st s t) + 1) (startP st s t)) := by rw [Hide, arrP, hst2]
      have hn0 : n + 11 ≤ n' := by omega
      replace hB : Hide _ := hB
      repeat' (first
        | (refine ac_seq_h fun K hK => ?_)
        | (refine ac_region_h fun K hK => ?_; simp (disch := omega) [go_sem, *])
        | (refine ac_draw_h mixed (by kernel_rfl) fun K hK => ?_; simp (disch := omega) [go_sem, *, wrap64_id, upd_ne, mk3_true, flatten_replicate_one, stepK_if, ilt_true, ilt_false, ile_true, ile_false])
        | (apply Hide.out hK; clear hK K; try with_reducible dsimp only [thenA])
        | (apply Hide.out ht; clear ht hf Kt Kf)
        | (apply Hide.out hf; clear ht hf Kt Kf)
        | (clear hK K; apply Hide.out hK; clear hK K; try with_reducible dsimp only [thenA])
        | (clear hK K; clear hK K; apply Hide.out hK; clear hK K; try with_reducible dsimp only [thenA])
        | (refine ac_block ?_)
        | (refine ac_skip ?_; simp only [thenA, blockA])
        | (refine ac_exit ?_; simp only [thenA, blockA, if_true, if_false, Nat.reduceEqDiff])
        | (with_reducible show nextK _ _ _ _ _ _ _; simp (disch := omega) [go_sem, *])
        | (refine wantK_split (fun hc => ?_) (fun hc => ?_) <;> (try simp only [Bool.not_eq_true', Bool.not_eq_false', Bool.not_eq_eq_eq_not, Bool.not_true, Bool.not_false, decide_eq_true_eq, decide_eq_false_iff_not, Int.not_lt, Int.not_le] at hc) <;> (try (exfalso; omega)) <;> (try simp (disch := omega) [go_sem, *, wrap64_id, upd_ne, mk3_true, flatten_replicate_one, stepK_if, ilt_true, ilt_false, ile_true, ile_false]))
        | (refine ac_cond_h fun Kt Kf ht hf => ?_; simp (disch := omega) [go_sem, *, wrap64_id, upd_ne, mk3_true, flatten_replicate_one, stepK_if, ilt_true, ilt_false, ile_true, ile_false]; try (refine ⟨fun hc => ?_, fun hc => ?_⟩ <;> try (exfalso; omega))))
      refine ac_loop_wk (fun s' => ∃ (f n2 : Nat) (p : PS), B < n2 ∧ PSOk st p ∧ Hide ((p.ch = true → meas p.out < f ∧ runP s N.links f p = arrP N s t) ∧ (p.ch = false → arrP N s t = p)) ∧ s' = ⟨91, [(1, iv .i64 s), (3, .ptr n 0), (8, .slc (n + 3 + 2) 0 st 1), (9, .slc (n + 3 + 5) 0 st 2), (11, .func (.func 58) [] [.ptr B 0]), (12, bv p.ch)], H2 p.out p.way, n2⟩)
        (fun s' => 2 * (match s'.h (n + 3 + 2) with | some (.cells c) => measC c | _ => 0) + (match get s'.s 12 with | .c (.bool true) => 1 | _ => 0)) ?_ ?_
      · refine loop_start (by simp [go_sem, hB.out, startP]) ?_ ⟨meas (startR st s t) + 1, _, startP st s t, ?_, ⟨startR_len _ _ _, by simp [startP], startR_vals b3 b4⟩, ⟨fun _ => ⟨by simp [startP], hF.out.symm⟩, fun e => by simp [startP] at e⟩, rfl⟩
        · exact Sub.refl _
        · omega
      · rintro s' ⟨f, n2, p, hn2, hp, hfin, rfl⟩
        cases hch : p.ch
        · have hfin := hfin.out.2 hch
          clear hnb hnb2 hsa2 hsb2 hF
          replace hfin : Hide _ := hfin
          repeat' (first
            | (refine ac_seq_h fun K hK => ?_)
            | (refine ac_region_h fun K hK => ?_; simp (disch := omega) [go_sem, *])
            | (refine ac_draw_h mixed (by kernel_rfl) fun K hK => ?_; simp (disch := omega) [go_sem, *, wrap64_id, upd_ne, mk3_true, flatten_replicate_one, stepK_if, ilt_true, ilt_false, ile_true, ile_false])
            | (apply Hide.out hK; clear hK K; try with_reducible dsimp only [thenA])
            | (apply Hide.out ht; clear ht hf Kt Kf)
            | (apply Hide.out hf; clear ht hf Kt Kf)
            | (clear hK K; apply Hide.out hK; clear hK K; try with_reducible dsimp only [thenA])
            | (clear hK K; clear hK K; apply Hide.out hK; clear hK K; try with_reducible dsimp only [thenA])
            | (refine ac_block ?_)
            | (refine ac_skip ?_; simp only [thenA, blockA])
            | (refine ac_exit ?_; simp only [thenA, blockA, if_true])
            | (with_reducible show nextK _ _ _ _ _ _ _; simp (disch := omega) [go_sem, *, wrap64_id, upd_ne, mk3_true, flatten_replicate_one, stepK_if, ilt_true, ilt_false, ile_true, ile_false])
            | (refine wantK_split (fun hc => ?_) (fun hc => ?_) <;> (try simp only [Bool.not_eq_true', Bool.not_eq_false', Bool.not_eq_eq_eq_not, Bool.not_true, Bool.not_false, decide_eq_true_eq, decide_eq_false_iff_not, Int.not_lt, Int.not_le] at hc) <;> (try (exfalso; omega)) <;> (try simp (disch := omega) [go_sem, *, wrap64_id, upd_ne, mk3_true, flatten_replicate_one, stepK_if, ilt_true, ilt_false, ile_true, ile_false]))
            | (refine ac_cond_h fun Kt Kf ht hf => ?_; simp (disch := omega) [go_sem, *]; try (refine ⟨fun hc => ?_, fun hc => ?_⟩ <;> try (exfalso; omega))))
          refine ac_ret ?_
          refine ⟨by simp, _, (by simp (disch := omega) [go_sem] <;> rfl), ?_⟩
          refine ret_freeze false (hPa p.out p.way) ?_
          have hm2 : ((H2 p.out p.way).upd (n + 3 + 2) none) (n + 3 + 5) = some (cellsHops p.way) := by simp (disch := omega) only [upd_ne, hPb]
          refine ret_freeze true hm2 ?_
          have el1 := elems_ints p.out
          have el2 := elems_hops p.way
          rw [hp.lo] at el1
          rw [hp.lw] at el2
          have g1 := hp.lo
          have g2 := hp.lw
          refine ret_id ⟨fun k hk => ?_, ?_, ?_, by simp, by simp⟩
          · simp (disch := omega) only [upd_ne]; rw [hH2.out]; simp (disch := omega) only [upd_ne]; rw [hH.out]; simp (disch := omega) only [upd_ne]
          · simp [resVal, fzT, fz, g1, g2, el1, el2, hopCells_len, below, belowL, belowL_iff]
          · rw [hfin.out]
            simp [resVal, fzT, fz, g1, g2, el1, el2, hopCells_len]
        · obtain ⟨hm1, hrun⟩ := hfin.out.1 hch
          obtain ⟨f, rfl⟩ : ∃ g, f = g + 1 := ⟨f - 1, by omega⟩
          have hp0 : PSOk st { p with ch := false } := ⟨hp.lo, hp.lw, hp.vals⟩
          clear hnb hF hfin
          replace hrun : Hide _ := hrun
          repeat' (first
            | (refine ac_seq_h fun K hK => ?_)
            | (refine ac_region_h fun K hK => ?_; simp (disch := omega) [go_sem, *])
            | (refine ac_draw_h mixed (by kernel_rfl) fun K hK => ?_; simp (disch := omega) [go_sem, *, wrap64_id, upd_ne, mk3_true, flatten_replicate_one, stepK_if, ilt_true, ilt_false, ile_true, ile_false])
            | (apply Hide.out hK; clear hK K; try with_reducible dsimp only [thenA])
            | (apply Hide.out ht; clear ht hf Kt Kf)
            | (apply Hide.out hf; clear ht hf Kt Kf)
            | (clear hK K; apply Hide.out hK; clear hK K; try with_reducible dsimp only [thenA])
            | (clear hK K; clear hK K; apply Hide.out hK; clear hK K; try with_reducible dsimp only [thenA])
            | (refine ac_block ?_)
            | (refine ac_skip ?_; simp only [thenA])
            | (refine ac_exit ?_; simp only [thenA, blockA, if_true, if_false, Nat.reduceEqDiff])
            | (with_reducible show nextK _ _ _ _ _ _ _; simp (disch := omega) [go_sem, *, wrap64_id, upd_ne, mk3_true, flatten_replicate_one, stepK_if, ilt_true, ilt_false, ile_true, ile_false])
            | (refine wantK_split (fun hc => ?_) (fun hc => ?_) <;> (try simp only [Bool.not_eq_true', Bool.not_eq_false', Bool.not_eq_eq_eq_not, Bool.not_true, Bool.not_false, decide_eq_true_eq, decide_eq_false_iff_not, Int.not_lt, Int.not_le] at hc) <;> (try (exfalso; omega)) <;> (try simp (disch := omega) [go_sem, *, wrap64_id, upd_ne, mk3_true, flatten_replicate_one, stepK_if, ilt_true, ilt_false, ile_true, ile_false]))
            | (refine ac_cond_h fun Kt Kf ht hf => ?_; simp (disch := omega) [go_sem, *]; try (refine ⟨fun hc => ?_, fun hc => ?_⟩ <;> try (exfalso; omega))))
          refine ac_loop_wk (fun s' => ∃ (j n3 : Nat) (q : PS), B < n3 ∧ j ≤ N.links.length ∧ PSOk st q ∧ Hide (passP s j (N.links.drop j) q = passP s 0 N.links { p with ch := false }) ∧ s' = ⟨91, [(1, iv .i64 s), (3, .ptr n 0), (8, .slc (n + 3 + 2) 0 st 1), (9, .slc (n + 3 + 5) 0 st 2), (11, .func (.func 58) [] [.ptr B 0]), (12, bv q.ch), (39, encLinks N.nl N.links), (40, iv .i64 N.links.length), (41, iv .i64 j)], H2 q.out q.way, n3⟩)
            (fun s => N.links.length - (intAt s 41).toNat) ?_ ?_
          · exact loop_start (by simp [go_sem]) (Sub.refl _) ⟨0, _, { p with ch := false }, by omega, by omega, hp0, rfl, rfl⟩
          · rintro s' ⟨j, n3, q, hn3, hj, hq, hgo, rfl⟩
            by_cases hltj : j < N.links.length
            · obtain ⟨x, hx1, hx2, hx3⟩ := at_k hltj
              obtain ⟨x1, x2, x3, x4, x5, x6⟩ := hok.out x (List.mem_of_getElem? hx2)
              have ql := hq.lo
              have qw := hq.lw
              have hv1 := at_get x1 (show x.fr < (q.out.length : Int) by omega)
              have hv2 := at_get x3 (show x.to < (q.out.length : Int) by omega)
              have hb1 := hq.vals.at x1 (show x.fr < (q.out.length : Int) by omega)
              have hb2 := hq.vals.at x3 (show x.to < (q.out.length : Int) by omega)
              have hg1 := at_get' (o := q.out) x.fr
              have hg2 := at_get' (o := q.out) x.to
              have hlr := leave_range x6 (at' q.out x.fr)
              have hdl := (right_spans x6).1
              have hLO : LOk N.st x := ⟨x1, x2, x3, x4, x5, x6⟩
              replace hgo := hgo.out
              rw [hx3, passP] at hgo
              replace hgo : Hide _ := hgo
              replace hLO : Hide _ := hLO
              replace hq : Hide _ := hq
              replace hp : Hide _ := hp
              replace hp0 : Hide _ := hp0
              clear hx3
              repeat' (first
                | (refine ac_seq_h fun K hK => ?_)
                | (refine ac_region_h fun K hK => ?_; simp (disch := omega) [go_sem, *, wrap64_id, upd_ne, ilt_true, ile_true, encLink ])
                | (refine ac_draw_h mixed (by kernel_rfl) fun K hK => ?_; simp (disch := omega) [go_sem, *, upd_ne, ilt_true ])
                | (apply Hide.out hK; clear hK K; try with_reducible dsimp only [thenA])
                | (apply Hide.out ht; clear ht hf Kt Kf)
                | (apply Hide.out hf; clear ht hf Kt Kf)
                | (clear hK K; apply Hide.out hK; clear hK K; try with_reducible dsimp only [thenA])
                | (clear hK K; clear hK K; apply Hide.out hK; clear hK K; try with_reducible dsimp only [thenA])
                | (with_reducible refine APure.call (leave_spec _ _) ?_; try simp (disch := omega) [go_sem, * ])
                | (refine ac_block ?_)
                | (refine ac_skip ?_; simp only [thenA, blockA])
                | (refine ac_exit ?_; simp only [thenA, blockA, if_true, if_false, Nat.reduceEqDiff])
                | (with_reducible show nextK _ _ _ _ _ _ _; simp (disch := omega) [go_sem, *, wrap64_id, upd_ne, mk3_true, flatten_replicate_one, stepK_if, ilt_true, ilt_false, ile_true, ile_false, encLink ])
                | (refine wantK_split (fun hc => ?_) (fun hc => ?_) <;> (try simp only [Bool.not_eq_eq_eq_not, Bool.not_true, Bool.not_false, decide_eq_true_eq, decide_eq_false_iff_not, Int.not_lt] at hc) <;> (try (exfalso; omega)) <;> (try simp (disch := omega) [go_sem, *, wrap64_id, ilt_true, ilt_false ]))
                | (refine ac_cond_h fun Kt Kf ht hf => ?_; simp (disch := omega) [go_sem, * ]; try (refine ⟨fun hc => ?_, fun hc => ?_⟩ <;> try (exfalso; omega))))
              · have hr : stepP s j x q = q := by rw [stepP, if_pos (.inr hc)]
                rw [hr] at hgo
                refine round_end (by simp [go_sem]) ?_ ⟨j + 1, _, q, by omega, by omega, hq.out, hgo, rfl⟩ (by simp [intAt, go_sem]; omega)
                repeat (first | exact Sub.refl _ | refine Sub.upd ?_ (hnb2.out _ _ _ (by omega)) _)
              · have hvv : ∃ v, v = at' q.out x.to := ⟨_, rfl⟩
                have hdd : ∃ d, d = (leave x (at' q.out x.fr)).1 := ⟨_, rfl⟩
                cases hbt : better true (at' q.out x.to) ((leave x (at' q.out x.fr)).1 + x.delay)
                · refine (better_no true _ _ B (q.out.map (iv .i64)) (at' q.out x.to) _ _ _ ?_ ?_ ?_ hbt).call ?_
                  · simp (disch := omega) only [upd_ne, hPa]
                  · rw [List.drop_eq_getElem_cons (by simp; omega)]; simp [hg2]
                  · simp (disch := omega) only [upd_ne, hPB]
                  have hr : stepP s j x q = q := by
                    rw [stepP]
                    split
                    · rfl
                    · split
                      · rename_i _ h2; rw [h2.2] at hbt; cases hbt
                      · rfl
                  rw [hr] at hgo
                  repeat' (first
                    | (refine ac_seq_h fun K hK => ?_)
                    | (refine ac_region_h fun K hK => ?_; simp (disch := omega) [go_sem, *, wrap64_id])
                    | (refine ac_draw_h mixed (by kernel_rfl) fun K hK => ?_; simp (disch := omega) [go_sem, *, wrap64_id, upd_ne, mk3_true, flatten_replicate_one, stepK_if, ilt_true, ilt_false, ile_true, ile_false, encLink])
                    | (apply Hide.out hK; clear hK K; try with_reducible dsimp only [thenA])
                    | (apply Hide.out ht; clear ht hf Kt Kf)
                    | (apply Hide.out hf; clear ht hf Kt Kf)
                    | (clear hK K; apply Hide.out hK; clear hK K; try with_reducible dsimp only [thenA])
                    | (clear hK K; clear hK K; apply Hide.out hK; clear hK K; try with_reducible dsimp only [thenA])
                    | (refine ac_block ?_)
                    | (refine ac_skip ?_; simp only [thenA, blockA])
                    | (refine ac_exit ?_; simp only [thenA, blockA, if_true, if_false, Nat.reduceEqDiff])
                    | (with_reducible show nextK _ _ _ _ _ _ _; simp (disch := omega) [go_sem, *])
                    | (refine wantK_split (fun hc => ?_) (fun hc => ?_) <;> (try simp only [Bool.not_eq_true', Bool.not_eq_false', Bool.not_eq_eq_eq_not, Bool.not_true, Bool.not_false, decide_eq_true_eq, decide_eq_false_iff_not, Int.not_lt, Int.not_le] at hc) <;> (try (exfalso; omega)) <;> (try simp (disch := omega) [go_sem, *, wrap64_id, upd_ne, mk3_true, flatten_replicate_one, stepK_if, ilt_true, ilt_false, ile_true, ile_false, encLink]))
                    | (refine ac_cond_h fun Kt Kf ht hf => ?_; simp (disch := omega) [go_sem, *]; try (refine ⟨fun hc => ?_, fun hc => ?_⟩ <;> try (exfalso; omega))))
                  refine round_end (by simp [go_sem]) ?_ ⟨j + 1, _, q, by omega, by omega, hq.out, hgo, rfl⟩ (by simp [intAt, go_sem]; omega)
                  repeat (first | exact Sub.refl _ | refine Sub.upd ?_ (hnb2.out _ _ _ (by omega)) _)
                · refine (better_yes true _ _ B q.out (at' q.out x.to) _ _ _ ?_ hv2 ?_ hbt).call ?_
                  · simp (disch := omega) only [upd_ne, hPa]
                  · simp (disch := omega) only [upd_ne, hPB]
                  have hr : stepP s j x q = ⟨q.out.set x.to.toNat ((leave x (at' q.out x.fr)).1 + x.delay), q.way.set x.to.toNat ⟨j, (leave x (at' q.out x.fr)).1⟩, true⟩ := by
                    rw [stepP, if_neg (by intro h; rcases h with h | h; omega; contradiction), if_pos ⟨by assumption, hbt⟩]
                  have hso := stepP_ok (f := s) (i := j) (show LOk (st : Int) x by rw [← hst]; exact hLO.out) hq.out
                  rw [hr] at hgo hso
                  replace hso : Hide _ := hso
                  replace hr : Hide _ := hr
                  repeat' (first
                    | (refine ac_seq_h fun K hK => ?_)
                    | (refine ac_region_h fun K hK => ?_; simp (disch := omega) [go_sem, *, wrap64_id, upd_ne, stepK_if, ilt_true])
                    | (refine ac_draw_h mixed (by kernel_rfl) fun K hK => ?_; simp (disch := omega) [go_sem, *, wrap64_id, upd_ne, mk3_true, flatten_replicate_one, stepK_if, ilt_true, ilt_false, ile_true, ile_false, encLink])
                    | (apply Hide.out hK; clear hK K; try with_reducible dsimp only [thenA])
                    | (apply Hide.out ht; clear ht hf Kt Kf)
                    | (apply Hide.out hf; clear ht hf Kt Kf)
                    | (clear hK K; apply Hide.out hK; clear hK K; try with_reducible dsimp only [thenA])
                    | (clear hK K; clear hK K; apply Hide.out hK; clear hK K; try with_reducible dsimp only [thenA])
                    | (refine ac_block ?_)
                    | (refine ac_skip ?_; simp only [thenA, blockA])
                    | (refine ac_exit ?_; simp only [thenA, blockA, if_true, if_false, Nat.reduceEqDiff])
                    | (with_reducible show nextK _ _ _ _ _ _ _; simp (disch := omega) [go_sem, *])
                    | (refine wantK_split (fun hc => ?_) (fun hc => ?_) <;> (try simp only [Bool.not_eq_true', Bool.not_eq_false', Bool.not_eq_eq_eq_not, Bool.not_true, Bool.not_false, decide_eq_true_eq, decide_eq_false_iff_not, Int.not_lt, Int.not_le] at hc) <;> (try (exfalso; omega)) <;> (try simp (disch := omega) [go_sem, *, wrap64_id, upd_ne, mk3_true, flatten_replicate_one, stepK_if, ilt_true, ilt_false, ile_true, ile_false, encLink]))
                    | (refine ac_cond_h fun Kt Kf ht hf => ?_; simp (disch := omega) [go_sem, *]; try (refine ⟨fun hc => ?_, fun hc => ?_⟩ <;> try (exfalso; omega))))
                  refine round_end (by simp [go_sem]) ?_ ⟨j + 1, _, _, by omega, by omega, hso.out, hgo, rfl⟩ (by simp [intAt, go_sem]; omega)
                  rw [← hsb2.out _ q.way, ← hsa2.out q.out, cellsHops, ← hop_set q.way _ _ (by omega)]
                  refine Sub.both ?_ _ _
                  simp only [cellsInts, List.map_set]
                  refine Sub.both ?_ _ _
                  repeat (first | exact Sub.refl _ | refine Sub.upd ?_ (hnb2.out _ _ _ (by omega)) _)
              · have hr : stepP s j x q = q := by
                  rw [stepP]
                  split
                  · rfl
                  · split
                    · rename_i _ h2; rw [h2.1] at hc; cases hc
                    · rfl
                rw [hr] at hgo
                refine round_end (by simp [go_sem]) ?_ ⟨j + 1, _, q, by omega, by omega, hq.out, hgo, rfl⟩ (by simp [intAt, go_sem]; omega)
                repeat (first | exact Sub.refl _ | refine Sub.upd ?_ (hnb2.out _ _ _ (by omega)) _)
              · have hr : stepP s j x q = q := by rw [stepP, if_pos (.inl hc)]
                rw [hr] at hgo
                refine round_end (by simp [go_sem]) ?_ ⟨j + 1, _, q, by omega, by omega, hq.out, hgo, rfl⟩ (by simp [intAt, go_sem]; omega)
                repeat (first | exact Sub.refl _ | refine Sub.upd ?_ (hnb2.out _ _ _ (by omega)) _)
            · have hjl : j = N.links.length := by omega
              have hgo2 := hgo.out
              rw [hjl, List.drop_length, passP] at hgo2
              have hmm : q.ch = true → meas q.out < meas p.out := fun hc => by
                have := passP_ch (f := s) (i := 0) (fun l hl => show LOk (st : Int) l by rw [← hst]; exact hok.out l hl) hp (by rw [← hgo2]; exact hc)
                rwa [← hgo2] at this
              have hrun' := hrun.out
              rw [runP, ← hgo2] at hrun'
              have hfin : Hide ((q.ch = true → meas q.out < f ∧ runP s N.links f q = arrP N s t) ∧ (q.ch = false → arrP N s t = q)) :=
                ⟨fun hc => ⟨by have := hmm hc; omega, by rw [if_pos hc] at hrun'; exact hrun'⟩, fun hc => by rw [if_neg (by rw [hc]; simp)] at hrun'; exact hrun'.symm⟩
              replace hmm : Hide _ := hmm
              clear hrun' hgo hrun
              replace hgo2 : Hide _ := hgo2
              repeat' (first
                | (refine ac_seq_h fun K hK => ?_)
                | (refine ac_region_h fun K hK => ?_; simp (disch := omega) [go_sem, *])
                | (refine ac_draw_h mixed (by kernel_rfl) fun K hK => ?_; simp (disch := omega) [go_sem, *, wrap64_id, upd_ne, mk3_true, flatten_replicate_one, stepK_if, ilt_true, ilt_false, ile_true, ile_false])
                | (apply Hide.out hK; clear hK K; try with_reducible dsimp only [thenA])
                | (apply Hide.out ht; clear ht hf Kt Kf)
                | (apply Hide.out hf; clear ht hf Kt Kf)
                | (clear hK K; apply Hide.out hK; clear hK K; try with_reducible dsimp only [thenA])
                | (clear hK K; clear hK K; apply Hide.out hK; clear hK K; try with_reducible dsimp only [thenA])
                | (refine ac_block ?_)
                | (refine ac_skip ?_; simp only [thenA, blockA])
                | (refine ac_exit ?_; simp only [thenA, blockA, if_true, if_false, Nat.reduceEqDiff])
                | (with_reducible show nextK _ _ _ _ _ _ _; simp (disch := omega) [go_sem, *, wrap64_id, upd_ne, mk3_true, flatten_replicate_one, stepK_if, ilt_true, ilt_false, ile_true, ile_false])
                | (refine wantK_split (fun hc => ?_) (fun hc => ?_) <;> (try simp only [Bool.not_eq_true', Bool.not_eq_false', Bool.not_eq_eq_eq_not, Bool.not_true, Bool.not_false, decide_eq_true_eq, decide_eq_false_iff_not, Int.not_lt, Int.not_le] at hc) <;> (try (exfalso; omega)) <;> (try simp (disch := omega) [go_sem, *, wrap64_id, upd_ne, mk3_true, flatten_replicate_one, stepK_if, ilt_true, ilt_false, ile_true, ile_false]))
                | (refine ac_cond_h fun Kt Kf ht hf => ?_; simp (disch := omega) [go_sem, *]; try (refine ⟨fun hc => ?_, fun hc => ?_⟩ <;> try (exfalso; omega))))
              refine round_end (by simp [go_sem]) (Sub.refl _) ⟨f, _, q, by omega, hq, hfin, rfl⟩ ?_
              have hmm := hmm.out
              simp only [hPa, measC_ints, get]
              cases hqc : q.ch
              · have : meas q.out ≤ meas p.out := by
                  rcases passP_meas (f := s) (ls := N.links) (i := 0) (s := { p with ch := false }) (fun l hl => show LOk (st : Int) l by rw [← hst]; exact hok.out l hl) hp0 with e | ⟨_, e⟩
                  · rw [hgo2.out, e]; exact Nat.le_refl _
                  · rw [hgo2.out]; exact Nat.le_of_lt e
                simp; omega
              · have := hmm hqc
                simp; omega
end Go.AM

namespace Go.AM
open Go.Proofs Nets
set_option maxRecDepth 10000
set_option maxHeartbeats 4000000
theorem asked_zero {N : Net} {t : Int} {l : List Int} (h : askedE N t l = 0) : checkE N = 0 ∧ (∀ s ∈ l, 0 ≤ s ∧ s < N.st) ∧ 0 ≤ t ∧ t ≤ 1048576 := by
  unfold askedE at h
  split at h
  · rename_i h1; exact absurd h h1
  · rename_i h1
    split at h
    · cases h
    · rename_i h2
      simp only [Bool.or_eq_true, not_or, Bool.not_eq_true, List.any_eq_false, Bool.not_eq_true'] at h2
      obtain ⟨h2, h3⟩ := h2
      refine ⟨by simpa using h1, fun s hs => ?_, ?_⟩
      · have := h2 s hs; simp [within] at this; omega
      · simpa [within] using h3
theorem earliest_spec (N : Net) (s t : Int) : APure Try.prog 18 [encNet N, iv .i64 s, iv .i64 t] (.tup [eInts (askedE N t [s]) (arrP N s t).out, iv .i64 (askedE N t [s])]) := by
  intro h n
  refine ACalls.pure (ACalls.entry (by kernel_rfl) fun hb _ => calls_of Try.func18 rfl (by kernel_rfl) (by simp [Try.ntmps18]) ?_)
  have hasked : APure Try.prog 42 [encNet N, iv .i64 t, .fslc false false 1 [iv .i64 s]] (iv .i64 (askedE N t [s])) := asked_spec N t false [s] (by simp)
  by_cases hE : askedE N t [s] = 0
  · obtain ⟨hC, hs, ht1, ht2⟩ := asked_zero hE
    obtain ⟨hs1, hs2⟩ := hs s (by simp)
    have harr := arrivals_spec N s t hC hs1 hs2 ht1 ht2
    clear hs
    repeat' (first
      | (refine ac_seq_h fun K hK => ?_)
      | (refine ac_region_h fun K hK => ?_; simp (disch := omega) [go_sem, *, Try.ntmps18 ])
      | (refine ac_draw_h mixed (by kernel_rfl) fun K hK => ?_; simp (disch := omega) [go_sem, *, wrap64_id, upd_ne, mk3_true, flatten_replicate_one, stepK_if, ilt_true, ilt_false, ile_true, ile_false, Try.ntmps18 ])
      | (apply Hide.out hK; clear hK K; try with_reducible dsimp only [thenA])
      | (apply Hide.out ht; clear ht hf Kt Kf)
      | (apply Hide.out hf; clear ht hf Kt Kf)
      | (clear hK K; apply Hide.out hK; clear hK K; try with_reducible dsimp only [thenA])
      | (clear hK K; clear hK K; apply Hide.out hK; clear hK K; try with_reducible dsimp only [thenA])
      | (with_reducible refine APure.call (hasked) ?_; try simp (disch := omega) [go_sem, * ])
      | (with_reducible refine APure.call (harr) ?_; try simp (disch := omega) [go_sem, * ])
      | (refine ac_block ?_)
      | (refine ac_skip ?_; simp only [thenA])
      | (refine ac_exit ?_; simp only [thenA, blockA, if_true, if_false, Nat.reduceEqDiff])
      | (with_reducible show nextK _ _ _ _ _ _ _; simp (disch := omega) [go_sem, *, wrap64_id, upd_ne, mk3_true, flatten_replicate_one, stepK_if, ilt_true, ilt_false, ile_true, ile_false, Try.ntmps18 ])
      | (refine wantK_split (fun hc => ?_) (fun hc => ?_) <;> (try simp only [Bool.not_eq_true', Bool.not_eq_false', Bool.not_eq_eq_eq_not, Bool.not_true, Bool.not_false, decide_eq_true_eq, decide_eq_false_iff_not, Int.not_lt, Int.not_le] at hc) <;> (try (exfalso; omega)) <;> (try simp (disch := omega) [go_sem, *, wrap64_id, upd_ne, mk3_true, flatten_replicate_one, stepK_if, ilt_true, ilt_false, ile_true, ile_false, Try.ntmps18 ]))
      | (refine ac_cond_h fun Kt Kf ht hf => ?_; simp (disch := omega) [go_sem, * ]; try (refine ⟨fun hc => ?_, fun hc => ?_⟩ <;> try (exfalso; omega))))
    (refine ac_ret ?_; try dsimp only [thenA, blockA]; refine ⟨by simp, _, (by first | rfl | (simp (disch := omega) [go_sem, upd_ne] <;> rfl)), ?_⟩; refine ret_id ⟨fun k hk => (by first | rfl | (repeat rw [upd_ne _ _ _ _ (by omega)])), (by simp [go_sem, below, belowL, belowL_iff]), (by simp [go_sem, hE] <;> omega), by simp, by simp⟩)
  · skip
    repeat' (first
      | (refine ac_seq_h fun K hK => ?_)
      | (refine ac_region_h fun K hK => ?_; simp (disch := omega) [go_sem, *, Try.ntmps18 ])
      | (refine ac_draw_h mixed (by kernel_rfl) fun K hK => ?_; simp (disch := omega) [go_sem, *, wrap64_id, upd_ne, mk3_true, flatten_replicate_one, stepK_if, ilt_true, ilt_false, ile_true, ile_false, Try.ntmps18 ])
      | (apply Hide.out hK; clear hK K; try with_reducible dsimp only [thenA])
      | (apply Hide.out ht; clear ht hf Kt Kf)
      | (apply Hide.out hf; clear ht hf Kt Kf)
      | (clear hK K; apply Hide.out hK; clear hK K; try with_reducible dsimp only [thenA])
      | (clear hK K; clear hK K; apply Hide.out hK; clear hK K; try with_reducible dsimp only [thenA])
      | (with_reducible refine APure.call (hasked) ?_; try simp (disch := omega) [go_sem, * ])
      | (refine ac_block ?_)
      | (refine ac_skip ?_; simp only [thenA, blockA])
      | (refine ac_exit ?_; simp only [thenA, blockA, if_true, if_false, Nat.reduceEqDiff])
      | (with_reducible show nextK _ _ _ _ _ _ _; simp (disch := omega) [go_sem, *, wrap64_id, upd_ne, mk3_true, flatten_replicate_one, stepK_if, ilt_true, ilt_false, ile_true, ile_false, Try.ntmps18 ])
      | (refine wantK_split (fun hc => ?_) (fun hc => ?_) <;> (try simp only [Bool.not_eq_true', Bool.not_eq_false', Bool.not_eq_eq_eq_not, Bool.not_true, Bool.not_false, decide_eq_true_eq, decide_eq_false_iff_not, Int.not_lt, Int.not_le] at hc) <;> (try (exfalso; omega)) <;> (try simp (disch := omega) [go_sem, *, wrap64_id, upd_ne, mk3_true, flatten_replicate_one, stepK_if, ilt_true, ilt_false, ile_true, ile_false, Try.ntmps18 ]))
      | (refine ac_cond_h fun Kt Kf ht hf => ?_; simp (disch := omega) [go_sem, * ]; try (refine ⟨fun hc => ?_, fun hc => ?_⟩ <;> try (exfalso; omega))))
    (refine ac_ret ?_; try dsimp only [thenA, blockA]; refine ⟨by simp, _, (by first | rfl | (simp (disch := omega) [go_sem, upd_ne] <;> rfl)), ?_⟩; refine ret_id ⟨fun k hk => (by first | rfl | (repeat rw [upd_ne _ _ _ _ (by omega)])), (by simp [go_sem, below, belowL]), (by simp [go_sem, hE] <;> omega), by simp, by simp⟩)
theorem leaves_ref (l : Link) (t : Int) : APure Try.prog 48 [encLink l, iv .i64 t] (bv ((leave l t).2 && decide ((leave l t).1 = t))) := by
  intro h n
  refine ACalls.pure (ACalls.entry (by kernel_rfl) fun hb _ => calls_of Try.func48 rfl (by kernel_rfl) (by simp [Try.ntmps48]) ?_)
  repeat' (first
    | (refine ac_seq_h fun K hK => ?_)
    | (refine ac_region_h fun K hK => ?_; simp (disch := omega) [go_sem, *, Try.ntmps48 ])
    | (refine ac_draw_h mixed (by kernel_rfl) fun K hK => ?_; simp (disch := omega) [go_sem, *, wrap64_id, upd_ne, mk3_true, flatten_replicate_one, stepK_if, ilt_true, ilt_false, ile_true, ile_false, Try.ntmps48 ])
    | (apply Hide.out hK; clear hK K; try with_reducible dsimp only [thenA])
    | (apply Hide.out ht; clear ht hf Kt Kf)
    | (apply Hide.out hf; clear ht hf Kt Kf)
    | (clear hK K; apply Hide.out hK; clear hK K; try with_reducible dsimp only [thenA])
    | (clear hK K; clear hK K; apply Hide.out hK; clear hK K; try with_reducible dsimp only [thenA])
    | (with_reducible refine APure.call (leave_ref _ _) ?_; try simp (disch := omega) [go_sem, * ])
    | (refine ac_block ?_)
    | (refine ac_skip ?_; simp only [thenA, blockA])
    | (refine ac_exit ?_; simp only [thenA, blockA, if_true, if_false, Nat.reduceEqDiff])
    | (with_reducible show nextK _ _ _ _ _ _ _; simp (disch := omega) [go_sem, *, wrap64_id, upd_ne, mk3_true, flatten_replicate_one, stepK_if, ilt_true, ilt_false, ile_true, ile_false, Try.ntmps48 ])
    | (refine wantK_split (fun hc => ?_) (fun hc => ?_) <;> (try simp only [Bool.not_eq_true', Bool.not_eq_false', Bool.not_eq_eq_eq_not, Bool.not_true, Bool.not_false, decide_eq_true_eq, decide_eq_false_iff_not, Int.not_lt, Int.not_le] at hc) <;> (try (exfalso; omega)) <;> (try simp (disch := omega) [go_sem, * ]))
    | (refine ac_cond_h fun Kt Kf ht hf => ?_; simp (disch := omega) [go_sem, *, wrap64_id, upd_ne, mk3_true, flatten_replicate_one, stepK_if, ilt_true, ilt_false, ile_true, ile_false, Try.ntmps48 ]; try (refine ⟨fun hc => ?_, fun hc => ?_⟩ <;> try (exfalso; omega))))
  all_goals (refine ac_ret ?_; try dsimp only [thenA, blockA]; refine ⟨by simp, _, (by first | rfl | (simp (disch := omega) [go_sem, upd_ne] <;> rfl)), ?_⟩; refine ret_id ⟨fun k hk => (by first | rfl | (repeat rw [upd_ne _ _ _ _ (by omega)])), (by simp [go_sem, below, Bool.beq_eq_decide_eq]), (by simp [go_sem, hc, Bool.beq_eq_decide_eq] <;> omega), by simp, by simp⟩)
theorem earlR_len (N : Net) (s t : Int) : (earlR N s t).length = N.st.toNat := by
  have : ∀ k (o : List Int), (roundsR N.links k o).length = o.length := by
    intro k
    induction k with
    | zero => intro o; rfl
    | succ k ih => intro o; rw [roundsR, ih, passR_len]
  rw [earlR, this, startR_len]
theorem arrives_ref (N : Net) (s to t : Int) : APure Try.prog 24 [encNet N, iv .i64 s, iv .i64 to, iv .i64 t] (.tup [iv .i64 (arrivesR N s to t (askedE N t [s])).1, iv .i64 (arrivesR N s to t (askedE N t [s])).2]) := by
  intro h n
  refine ACalls.pure (ACalls.entry (by kernel_rfl) fun hb _ => calls_of Try.func24 rfl (by kernel_rfl) (by simp [Try.ntmps24]) ?_)
  by_cases hE : askedE N t [s] = 0
  · obtain ⟨hC, hs, ht1, ht2⟩ := asked_zero hE
    obtain ⟨hs1, hs2⟩ := hs s (by simp)
    obtain ⟨s1, s2, hll, hok⟩ := checkE_ok hC
    replace hok : Hide _ := hok
    have hlen := earlR_len N s t
    clear hs
    cases hw : within to 0 (N.st - 1)
    · skip
      repeat' (first
        | (refine ac_seq_h fun K hK => ?_)
        | (refine ac_region_h fun K hK => ?_; simp (disch := omega) [go_sem, *, wrap64_id, Try.ntmps24 ])
        | (refine ac_draw_h mixed (by kernel_rfl) fun K hK => ?_; simp (disch := omega) [go_sem, *, wrap64_id, upd_ne, mk3_true, flatten_replicate_one, stepK_if, ilt_true, ilt_false, ile_true, ile_false, Try.ntmps24 ])
        | (apply Hide.out hK; clear hK K; try with_reducible dsimp only [thenA])
        | (apply Hide.out ht; clear ht hf Kt Kf)
        | (apply Hide.out hf; clear ht hf Kt Kf)
        | (clear hK K; apply Hide.out hK; clear hK K; try with_reducible dsimp only [thenA])
        | (clear hK K; clear hK K; apply Hide.out hK; clear hK K; try with_reducible dsimp only [thenA])
        | (with_reducible refine APure.call (asked_ref _ _ _) ?_; try simp (disch := omega) [go_sem, * ])
        | (with_reducible refine APure.call (within_ref _ _ _) ?_; try simp (disch := omega) [go_sem, * ])
        | (with_reducible refine APure.call (earliest_ref _ _ _) ?_; try simp (disch := omega) [go_sem, *, wrap64_id, upd_ne, mk3_true, flatten_replicate_one, stepK_if, ilt_true, ilt_false, ile_true, ile_false, Try.ntmps24 ])
        | (refine ac_block ?_)
        | (refine ac_skip ?_; simp only [thenA])
        | (refine ac_exit ?_; simp only [thenA, blockA, if_true, if_false, Nat.reduceEqDiff])
        | (with_reducible show nextK _ _ _ _ _ _ _; simp (disch := omega) [go_sem, *, wrap64_id, upd_ne, mk3_true, flatten_replicate_one, stepK_if, ilt_true, ilt_false, ile_true, ile_false, Try.ntmps24 ])
        | (refine wantK_split (fun hc => ?_) (fun hc => ?_) <;> (try simp only [Bool.not_eq_true', Bool.not_eq_false', Bool.not_eq_eq_eq_not, Bool.not_true, Bool.not_false, decide_eq_true_eq, decide_eq_false_iff_not, Int.not_lt, Int.not_le] at hc) <;> (try (exfalso; omega)) <;> (try simp (disch := omega) [go_sem, *, wrap64_id, upd_ne, mk3_true, flatten_replicate_one, stepK_if, ilt_true, ilt_false, ile_true, ile_false, Try.ntmps24 ]))
        | (refine ac_cond_h fun Kt Kf ht hf => ?_; simp (disch := omega) [go_sem, * ]; try (refine ⟨fun hc => ?_, fun hc => ?_⟩ <;> try (exfalso; omega))))
      (refine ac_ret ?_; try dsimp only [thenA, blockA]; refine ⟨by simp, _, (by first | rfl | (simp (disch := omega) [go_sem, upd_ne] <;> rfl)), ?_⟩; refine ret_id ⟨fun k hk => (by first | rfl | (repeat rw [upd_ne _ _ _ _ (by omega)])), (by simp [go_sem, below, belowL]), (by simp [go_sem, hE, hw, arrivesR, bad] <;> omega), by simp, by simp⟩)
    · have hw2 : 0 ≤ to ∧ to < N.st := by simp [within] at hw; omega
      have hg := at_get' (o := earlR N s t) to
      have hlt : to.toNat < (earlR N s t).length := by omega
      have hg2 : (earlR N s t)[to.toNat]? = some (at' (earlR N s t) to) := at_get hw2.1 (by omega)
      repeat' (first
        | (refine ac_seq_h fun K hK => ?_)
        | (refine ac_region_h fun K hK => ?_; simp (disch := omega) [go_sem, *, wrap64_id, ilt_false, Try.ntmps24 ])
        | (refine ac_draw_h mixed (by kernel_rfl) fun K hK => ?_; simp (disch := omega) [go_sem, *, wrap64_id, upd_ne, mk3_true, flatten_replicate_one, stepK_if, ilt_true, ilt_false, ile_true, ile_false, Try.ntmps24 ])
        | (apply Hide.out hK; clear hK K; try with_reducible dsimp only [thenA])
        | (apply Hide.out ht; clear ht hf Kt Kf)
        | (apply Hide.out hf; clear ht hf Kt Kf)
        | (clear hK K; apply Hide.out hK; clear hK K; try with_reducible dsimp only [thenA])
        | (clear hK K; clear hK K; apply Hide.out hK; clear hK K; try with_reducible dsimp only [thenA])
        | (with_reducible refine APure.call (asked_ref _ _ _) ?_; try simp (disch := omega) [go_sem, * ])
        | (with_reducible refine APure.call (within_ref _ _ _) ?_; try simp (disch := omega) [go_sem, * ])
        | (with_reducible refine APure.call (earliest_ref _ _ _) ?_; try simp (disch := omega) [go_sem, * ])
        | (refine ac_block ?_)
        | (refine ac_skip ?_; simp only [thenA])
        | (refine ac_exit ?_; simp only [thenA, blockA, if_true, if_false, Nat.reduceEqDiff])
        | (with_reducible show nextK _ _ _ _ _ _ _; simp (disch := omega) [go_sem, *, wrap64_id, upd_ne, mk3_true, flatten_replicate_one, stepK_if, ilt_true, ilt_false, ile_true, ile_false, Try.ntmps24 ])
        | (refine wantK_split (fun hc => ?_) (fun hc => ?_) <;> (try simp only [Bool.not_eq_true', Bool.not_eq_false', Bool.not_eq_eq_eq_not, Bool.not_true, Bool.not_false, decide_eq_true_eq, decide_eq_false_iff_not, Int.not_lt, Int.not_le] at hc) <;> (try (exfalso; omega)) <;> (try simp (disch := omega) [go_sem, *, wrap64_id, upd_ne, mk3_true, flatten_replicate_one, stepK_if, ilt_true, ilt_false, ile_true, ile_false, Try.ntmps24 ]))
        | (refine ac_cond_h fun Kt Kf ht hf => ?_; simp (disch := omega) [go_sem, * ]; try (refine ⟨fun hc => ?_, fun hc => ?_⟩ <;> try (exfalso; omega))))
      all_goals (refine ac_ret ?_; try dsimp only [thenA, blockA]; refine ⟨by simp, _, (by first | rfl | (simp (disch := omega) [go_sem, upd_ne] <;> rfl)), ?_⟩; refine ret_id ⟨fun k hk => (by first | rfl | (repeat rw [upd_ne _ _ _ _ (by omega)])), (by simp [go_sem, below, belowL]), (by simp [go_sem, hE, hw, arrivesR, bad, hc, Int.not_lt.2 hc] <;> omega), by simp, by simp⟩)
  · skip
    repeat' (first
      | (refine ac_seq_h fun K hK => ?_)
      | (refine ac_region_h fun K hK => ?_; simp (disch := omega) [go_sem, *, Try.ntmps24 ])
      | (refine ac_draw_h mixed (by kernel_rfl) fun K hK => ?_; simp (disch := omega) [go_sem, *, wrap64_id, upd_ne, mk3_true, flatten_replicate_one, stepK_if, ilt_true, ilt_false, ile_true, ile_false, Try.ntmps24 ])
      | (apply Hide.out hK; clear hK K; try with_reducible dsimp only [thenA])
      | (apply Hide.out ht; clear ht hf Kt Kf)
      | (apply Hide.out hf; clear ht hf Kt Kf)
      | (clear hK K; apply Hide.out hK; clear hK K; try with_reducible dsimp only [thenA])
      | (clear hK K; clear hK K; apply Hide.out hK; clear hK K; try with_reducible dsimp only [thenA])
      | (with_reducible refine APure.call (asked_ref _ _ _) ?_; try simp (disch := omega) [go_sem, * ])
      | (refine ac_block ?_)
      | (refine ac_skip ?_; simp only [thenA, blockA])
      | (refine ac_exit ?_; simp only [thenA, blockA, if_true, if_false, Nat.reduceEqDiff])
      | (with_reducible show nextK _ _ _ _ _ _ _; simp (disch := omega) [go_sem, *, wrap64_id, upd_ne, mk3_true, flatten_replicate_one, stepK_if, ilt_true, ilt_false, ile_true, ile_false, Try.ntmps24 ])
      | (refine wantK_split (fun hc => ?_) (fun hc => ?_) <;> (try simp only [Bool.not_eq_true', Bool.not_eq_false', Bool.not_eq_eq_eq_not, Bool.not_true, Bool.not_false, decide_eq_true_eq, decide_eq_false_iff_not, Int.not_lt, Int.not_le] at hc) <;> (try (exfalso; omega)) <;> (try simp (disch := omega) [go_sem, *, wrap64_id, upd_ne, mk3_true, flatten_replicate_one, stepK_if, ilt_true, ilt_false, ile_true, ile_false, Try.ntmps24 ]))
      | (refine ac_cond_h fun Kt Kf ht hf => ?_; simp (disch := omega) [go_sem, * ]; try (refine ⟨fun hc => ?_, fun hc => ?_⟩ <;> try (exfalso; omega))))
    (refine ac_ret ?_; try dsimp only [thenA, blockA]; refine ⟨by simp, _, (by first | rfl | (simp (disch := omega) [go_sem, upd_ne] <;> rfl)), ?_⟩; refine ret_id ⟨fun k hk => (by first | rfl | (repeat rw [upd_ne _ _ _ _ (by omega)])), (by simp [go_sem, below, belowL]), (by simp [go_sem, hE, arrivesR] <;> omega), by simp, by simp⟩)
end Go.AM
