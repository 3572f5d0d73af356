/- Walks: CheckWay, CheckBounds, Latest. Conditions: as each theorem says. -/
import Derived.Test.YtkhdnlojgoonkaaWb
namespace Go.AM
open Go.Proofs Nets
set_option maxRecDepth 10000
set_option maxHeartbeats 4000000
theorem cwE_none {N : Net} {s to t : Int} {l : List Hop} (h40 : ¬ 40 < l.length) (h : cwGo N.links s t l = none) : cwE N s to t l = (0, 8) := by simp [cwE, h40, h]
theorem cwE_some {N : Net} {s to t a m : Int} {l : List Hop} (h40 : ¬ 40 < l.length) (h : cwGo N.links s t l = some (a, m)) : cwE N s to t l = if a = to then (m, 0) else (0, 8) := by simp [cwE, h40, h]
theorem checkWay_spec (N : Net) (s to t : Int) (nl f : Bool) (l : List Hop) (hl : l.length < 1000000) :
    APure Try.prog 26 [encNet N, iv .i64 s, iv .i64 to, iv .i64 t, .fslc nl f 2 (l.map encHop)] (.tup [iv .i64 (checkWay N s to t (askedE N t [s, to]) l).1, iv .i64 (checkWay N s to t (askedE N t [s, to]) l).2]) := by
  intro h n
  refine ACalls.pure (ACalls.entry (by kernel_rfl) fun hb _ => calls_of Try.func26 rfl (by kernel_rfl) (by simp [Try.ntmps26]) ?_)
  have hasked : APure Try.prog 42 [encNet N, iv .i64 t, .fslc false false 1 [iv .i64 s, iv .i64 to]] (iv .i64 (askedE N t [s, to])) := asked_spec N t false [s, to] (by simp)
  by_cases hE : askedE N t [s, to] = 0
  · obtain ⟨hC, hs, ht1, ht2⟩ := asked_zero hE
    obtain ⟨hs1, hs2⟩ := hs s (by simp)
    obtain ⟨s1, s2, hll, hok⟩ := checkE_ok hC
    replace hok : Hide _ := hok
    clear hs hC
    by_cases h40 : 40 < l.length
    · skip
      repeat' (first
        | (refine ac_seq_h fun K hK => ?_)
        | (refine ac_region_h fun K hK => ?_; simp (disch := omega) [go_sem, *, ilt_true, Try.ntmps26 ])
        | (refine ac_draw_h mixed (by kernel_rfl) fun K hK => ?_; simp (disch := omega) [go_sem, *, wrap64_id, upd_ne, mk3_true, flatten_replicate_one, stepK_if, ilt_true, ilt_false, ile_true, ile_false, Try.ntmps26 ])
        | (apply Hide.out hK; clear hK K; try with_reducible dsimp only [thenA])
        | (apply Hide.out ht; clear ht hf Kt Kf)
        | (apply Hide.out hf; clear ht hf Kt Kf)
        | (clear hK K; apply Hide.out hK; clear hK K; try with_reducible dsimp only [thenA])
        | (clear hK K; clear hK K; apply Hide.out hK; clear hK K; try with_reducible dsimp only [thenA])
        | (with_reducible refine APure.call (hasked) ?_; try simp (disch := omega) [go_sem, * ])
        | (refine ac_block ?_)
        | (refine ac_skip ?_; simp only [thenA])
        | (refine ac_exit ?_; simp only [thenA, blockA, if_true, if_false, Nat.reduceEqDiff])
        | (with_reducible show nextK _ _ _ _ _ _ _; simp (disch := omega) [go_sem, *, wrap64_id, upd_ne, mk3_true, flatten_replicate_one, stepK_if, ilt_true, ilt_false, ile_true, ile_false, Try.ntmps26 ])
        | (refine wantK_split (fun hc => ?_) (fun hc => ?_) <;> (try simp only [Bool.not_eq_true', Bool.not_eq_false', Bool.not_eq_eq_eq_not, Bool.not_true, Bool.not_false, decide_eq_true_eq, decide_eq_false_iff_not, Int.not_lt, Int.not_le] at hc) <;> (try (exfalso; omega)) <;> (try simp (disch := omega) [go_sem, *, wrap64_id, upd_ne, mk3_true, flatten_replicate_one, stepK_if, ilt_true, ilt_false, ile_true, ile_false, Try.ntmps26 ]))
        | (refine ac_cond_h fun Kt Kf ht hf => ?_; simp (disch := omega) [go_sem, * ]; try (refine ⟨fun hc => ?_, fun hc => ?_⟩ <;> try (exfalso; omega))))
      (refine ac_ret ?_; try dsimp only [thenA, blockA]; refine ⟨by simp, _, (by first | rfl | (simp (disch := omega) [go_sem, upd_ne] <;> rfl)), ?_⟩; refine ret_id ⟨fun k hk => (by first | rfl | (repeat rw [upd_ne _ _ _ _ (by omega)])), (by simp [go_sem, below, belowL]), (by simp [go_sem, hE, checkWay, cwE, h40] <;> omega), by simp, by simp⟩)
    have hR : checkWay N s to t 0 l = cwE N s to t l := by simp [checkWay]
    have h40' : l.length ≤ 40 := by omega
    replace hR : Hide _ := hR
    repeat' (first
      | (refine ac_seq_h fun K hK => ?_)
      | (refine ac_region_h fun K hK => ?_; simp (disch := omega) [go_sem, *, ilt_false, Try.ntmps26 ])
      | (refine ac_draw_h mixed (by kernel_rfl) fun K hK => ?_; simp (disch := omega) [go_sem, *, wrap64_id, upd_ne, mk3_true, flatten_replicate_one, stepK_if, ilt_true, ilt_false, ile_true, ile_false, Try.ntmps26 ])
      | (apply Hide.out hK; clear hK K; try with_reducible dsimp only [thenA])
      | (apply Hide.out ht; clear ht hf Kt Kf)
      | (apply Hide.out hf; clear ht hf Kt Kf)
      | (clear hK K; apply Hide.out hK; clear hK K; try with_reducible dsimp only [thenA])
      | (clear hK K; clear hK K; apply Hide.out hK; clear hK K; try with_reducible dsimp only [thenA])
      | (with_reducible refine APure.call (hasked) ?_; try simp (disch := omega) [go_sem, * ])
      | (refine ac_block ?_)
      | (refine ac_skip ?_; simp only [thenA])
      | (refine ac_exit ?_; simp only [thenA, blockA, if_true, if_false, Nat.reduceEqDiff])
      | (with_reducible show nextK _ _ _ _ _ _ _; simp (disch := omega) [go_sem, *, wrap64_id, upd_ne, mk3_true, flatten_replicate_one, stepK_if, ilt_true, ilt_false, ile_true, ile_false, Try.ntmps26 ])
      | (refine wantK_split (fun hc => ?_) (fun hc => ?_) <;> (try simp only [Bool.not_eq_true', Bool.not_eq_false', Bool.not_eq_eq_eq_not, Bool.not_true, Bool.not_false, decide_eq_true_eq, decide_eq_false_iff_not, Int.not_lt, Int.not_le] at hc) <;> (try (exfalso; omega)) <;> (try simp (disch := omega) [go_sem, *, wrap64_id, upd_ne, mk3_true, flatten_replicate_one, stepK_if, ilt_true, ilt_false, ile_true, ile_false, Try.ntmps26 ]))
      | (refine ac_cond_h fun Kt Kf ht hf => ?_; simp (disch := omega) [go_sem, * ]; try (refine ⟨fun hc => ?_, fun hc => ?_⟩ <;> try (exfalso; omega))))
    refine ac_loop_wk (fun s' => ∃ (k n' : Nat) (a m : Int), n < n' ∧ k ≤ l.length ∧ 0 ≤ m ∧ m ≤ 1048576 ∧ Hide (cwGo N.links a m (l.drop k) = cwGo N.links s t l) ∧ s' = ⟨98, [(2, iv .i64 to), (5, .ptr n 0), (13, iv .i64 a), (14, iv .i64 m), (34, .fslc nl f 2 (l.map encHop)), (35, iv .i64 l.length), (36, iv .i64 k)], h.upd n (some (cellsNet N)), n'⟩)
      (fun s => l.length - (intAt s 36).toNat) ?_ ?_
    · exact loop_start (by simp [go_sem]) (Sub.refl _) ⟨0, _, s, t, by omega, by omega, ht1, ht2, rfl, rfl⟩
    · rintro s' ⟨k, n', a, m, hn', hk, hm1, hm2, hgo, rfl⟩
      have hb' : NB (h.upd n (some (cellsNet N))) n' := hb.nb.upd hn' (by omega)
      replace hb' : Hide _ := hb'
      by_cases hlt : k < l.length
      · obtain ⟨x, hx1, hx2, hx3⟩ := at_k hlt
        replace hgo := hgo.out
        rw [hx3, cwGo] at hgo
        clear hx3
        cases hw : within x.link 0 ((N.links.length : Int) - 1)
        · rw [if_pos hw] at hgo
          replace hgo : Hide _ := hgo
          repeat' (first
            | (refine ac_seq_h fun K hK => ?_)
            | (refine ac_region_h fun K hK => ?_; simp (disch := omega) [go_sem, *, wrap64_id, upd_ne, ilt_true, ile_true, encHop ])
            | (refine ac_draw_h mixed (by kernel_rfl) fun K hK => ?_; simp (disch := omega) [go_sem, *, wrap64_id, upd_ne, mk3_true, flatten_replicate_one, stepK_if, ilt_true, ilt_false, ile_true, ile_false, encHop ])
            | (apply Hide.out hK; clear hK K; try with_reducible dsimp only [thenA])
            | (apply Hide.out ht; clear ht hf Kt Kf)
            | (apply Hide.out hf; clear ht hf Kt Kf)
            | (clear hK K; apply Hide.out hK; clear hK K; try with_reducible dsimp only [thenA])
            | (clear hK K; clear hK K; apply Hide.out hK; clear hK K; try with_reducible dsimp only [thenA])
            | (with_reducible refine APure.call (within_spec _ _ _) ?_; try simp (disch := omega) [go_sem, * ])
            | (refine ac_block ?_)
            | (refine ac_skip ?_; simp only [thenA])
            | (refine ac_exit ?_; simp only [thenA, blockA, if_true, if_false, Nat.reduceEqDiff])
            | (with_reducible show nextK _ _ _ _ _ _ _; simp (disch := omega) [go_sem, *, wrap64_id, upd_ne, mk3_true, flatten_replicate_one, stepK_if, ilt_true, ilt_false, ile_true, ile_false, encHop ])
            | (refine wantK_split (fun hc => ?_) (fun hc => ?_) <;> (try simp only [Bool.not_eq_true', Bool.not_eq_false', Bool.not_eq_eq_eq_not, Bool.not_true, Bool.not_false, decide_eq_true_eq, decide_eq_false_iff_not, Int.not_lt, Int.not_le] at hc) <;> (try (exfalso; omega)) <;> (try simp (disch := omega) [go_sem, *, wrap64_id, upd_ne, mk3_true, flatten_replicate_one, stepK_if, ilt_true, ilt_false, ile_true, ile_false, encHop ]))
            | (refine ac_cond_h fun Kt Kf ht hf => ?_; simp (disch := omega) [go_sem, * ]; try (refine ⟨fun hc => ?_, fun hc => ?_⟩ <;> try (exfalso; omega))))
          (refine ac_ret ?_; try dsimp only [thenA, blockA]; refine ⟨by simp, _, (by first | rfl | (simp (disch := omega) [go_sem, upd_ne] <;> rfl)), ?_⟩; refine ret_id ⟨fun k hk => (by first | rfl | (repeat rw [upd_ne _ _ _ _ (by omega)])), (by simp [go_sem, below, belowL]), (by simp [go_sem, hR.out, cwE_none h40 hgo.out.symm, hE] <;> omega), by simp, by simp⟩)
        · rw [if_neg (by rw [hw]; simp)] at hgo
          have hw2 : 0 ≤ x.link ∧ x.link < N.links.length := by simp [within] at hw; omega
          obtain ⟨y, hy1, hy2, _⟩ := at_k (show x.link.toNat < N.links.length by omega)
          have hyk := hok.out y (List.mem_of_getElem? hy2)
          have hlr := leave_range hyk.ok x.tick
          have hdl := (right_spans hyk.ok).1
          rw [hy2] at hgo
          simp only at hgo
          replace hyk : Hide _ := hyk
          by_cases p1 : y.fr = a
          · obtain rfl := p1
            by_cases p2 : x.tick < m
            · simp only [p2, or_true, if_true] at hgo
              replace hgo : Hide _ := hgo
              repeat' (first
                | (refine ac_seq_h fun K hK => ?_)
                | (refine ac_region_h fun K hK => ?_; simp (disch := omega) [go_sem, *, wrap64_id, upd_ne, ilt_true, ile_true, encHop ])
                | (refine ac_draw_h mixed (by kernel_rfl) fun K hK => ?_; simp (disch := omega) [go_sem, *, wrap64_id, upd_ne, mk3_true, flatten_replicate_one, stepK_if, ilt_true, ilt_false, ile_true, ile_false, encHop, encLink ])
                | (apply Hide.out hK; clear hK K; try with_reducible dsimp only [thenA])
                | (apply Hide.out ht; clear ht hf Kt Kf)
                | (apply Hide.out hf; clear ht hf Kt Kf)
                | (clear hK K; apply Hide.out hK; clear hK K; try with_reducible dsimp only [thenA])
                | (clear hK K; clear hK K; apply Hide.out hK; clear hK K; try with_reducible dsimp only [thenA])
                | (with_reducible refine APure.call (within_spec _ _ _) ?_; try simp (disch := omega) [go_sem, *, upd_ne, encLink ])
                | (with_reducible refine APure.call (leave_spec _ _) ?_; try simp (disch := omega) [go_sem, *, wrap64_id, upd_ne, mk3_true, flatten_replicate_one, stepK_if, ilt_true, ilt_false, ile_true, ile_false, encHop, encLink ])
                | (refine ac_block ?_)
                | (refine ac_skip ?_; simp only [thenA])
                | (refine ac_exit ?_; simp only [thenA, blockA, if_true, if_false, Nat.reduceEqDiff])
                | (with_reducible show nextK _ _ _ _ _ _ _; simp (disch := omega) [go_sem, *, wrap64_id, upd_ne, mk3_true, flatten_replicate_one, stepK_if, ilt_true, ilt_false, ile_true, ile_false, encHop, encLink ])
                | (refine wantK_split (fun hc => ?_) (fun hc => ?_) <;> (try simp only [Bool.not_eq_true', Bool.not_eq_false', Bool.not_eq_eq_eq_not, Bool.not_true, Bool.not_false, decide_eq_true_eq, decide_eq_false_iff_not, Int.not_lt, Int.not_le] at hc) <;> (try (exfalso; omega)) <;> (try simp (disch := omega) [go_sem, *, wrap64_id, upd_ne, mk3_true, flatten_replicate_one, stepK_if, ilt_true, ilt_false, ile_true, ile_false, encHop, encLink ]))
                | (refine ac_cond_h fun Kt Kf ht hf => ?_; simp (disch := omega) [go_sem, * ]; try (refine ⟨fun hc => ?_, fun hc => ?_⟩ <;> try (exfalso; omega))))
              (refine ac_ret ?_; try dsimp only [thenA, blockA]; refine ⟨by simp, _, (by first | rfl | (simp (disch := omega) [go_sem, upd_ne] <;> rfl)), ?_⟩; refine ret_id ⟨fun k hk => (by first | rfl | (repeat rw [upd_ne _ _ _ _ (by omega)])), (by simp [go_sem, below, belowL]), (by simp [go_sem, hR.out, cwE_none h40 hgo.out.symm, hE] <;> omega), by simp, by simp⟩)
            · cases p3 : (leave y x.tick).2
              · simp only [p2, p3, ne_eq, not_true_eq_false, or_false, true_or, if_true, if_false] at hgo
                replace hgo : Hide _ := hgo
                repeat' (first
                  | (refine ac_seq_h fun K hK => ?_)
                  | (refine ac_region_h fun K hK => ?_; simp (disch := omega) [go_sem, *, wrap64_id, upd_ne, ilt_true, ile_true, encHop, encLink ])
                  | (refine ac_draw_h mixed (by kernel_rfl) fun K hK => ?_; simp (disch := omega) [go_sem, *, wrap64_id, upd_ne, mk3_true, flatten_replicate_one, stepK_if, ilt_true, ilt_false, ile_true, ile_false, encHop, encLink ])
                  | (apply Hide.out hK; clear hK K; try with_reducible dsimp only [thenA])
                  | (apply Hide.out ht; clear ht hf Kt Kf)
                  | (apply Hide.out hf; clear ht hf Kt Kf)
                  | (clear hK K; apply Hide.out hK; clear hK K; try with_reducible dsimp only [thenA])
                  | (clear hK K; clear hK K; apply Hide.out hK; clear hK K; try with_reducible dsimp only [thenA])
                  | (with_reducible refine APure.call (within_spec _ _ _) ?_; try simp (disch := omega) [go_sem, *, upd_ne, encLink ])
                  | (with_reducible refine APure.call (leave_spec _ _) ?_; try simp (disch := omega) [go_sem, * ])
                  | (refine ac_block ?_)
                  | (refine ac_skip ?_; simp only [thenA])
                  | (refine ac_exit ?_; simp only [thenA, blockA, if_true, if_false, Nat.reduceEqDiff])
                  | (with_reducible show nextK _ _ _ _ _ _ _; simp (disch := omega) [go_sem, *, wrap64_id, upd_ne, mk3_true, flatten_replicate_one, stepK_if, ilt_true, ilt_false, ile_true, ile_false, encHop, encLink ])
                  | (refine wantK_split (fun hc => ?_) (fun hc => ?_) <;> (try simp only [Bool.not_eq_true', Bool.not_eq_false', Bool.not_eq_eq_eq_not, Bool.not_true, Bool.not_false, decide_eq_true_eq, decide_eq_false_iff_not, Int.not_lt, Int.not_le] at hc) <;> (try (exfalso; omega)) <;> (try simp (disch := omega) [go_sem, *, wrap64_id, upd_ne, mk3_true, flatten_replicate_one, stepK_if, ilt_true, ilt_false, ile_true, ile_false, encHop, encLink ]))
                  | (refine ac_cond_h fun Kt Kf ht hf => ?_; simp (disch := omega) [go_sem, * ]; try (refine ⟨fun hc => ?_, fun hc => ?_⟩ <;> try (exfalso; omega))))
                (refine ac_ret ?_; try dsimp only [thenA, blockA]; refine ⟨by simp, _, (by first | rfl | (simp (disch := omega) [go_sem, upd_ne] <;> rfl)), ?_⟩; refine ret_id ⟨fun k hk => (by first | rfl | (repeat rw [upd_ne _ _ _ _ (by omega)])), (by simp [go_sem, below, belowL]), (by simp [go_sem, hR.out, cwE_none h40 hgo.out.symm, hE] <;> omega), by simp, by simp⟩)
              · by_cases p4 : (leave y x.tick).1 = x.tick
                · simp only [p2, p3, p4, ne_eq, not_true_eq_false, Bool.true_eq_false, or_false, if_false] at hgo
                  replace hgo : Hide _ := hgo
                  rw [p4] at hlr
                  repeat' (first
                    | (refine ac_seq_h fun K hK => ?_)
                    | (refine ac_region_h fun K hK => ?_; simp (disch := omega) [go_sem, *, wrap64_id, upd_ne, ilt_true, ile_true, encHop, encLink ])
                    | (refine ac_draw_h mixed (by kernel_rfl) fun K hK => ?_; simp (disch := omega) [go_sem, *, wrap64_id, upd_ne ])
                    | (apply Hide.out hK; clear hK K; try with_reducible dsimp only [thenA])
                    | (apply Hide.out ht; clear ht hf Kt Kf)
                    | (apply Hide.out hf; clear ht hf Kt Kf)
                    | (clear hK K; apply Hide.out hK; clear hK K; try with_reducible dsimp only [thenA])
                    | (clear hK K; clear hK K; apply Hide.out hK; clear hK K; try with_reducible dsimp only [thenA])
                    | (with_reducible refine APure.call (within_spec _ _ _) ?_; try simp (disch := omega) [go_sem, *, upd_ne, encLink ])
                    | (with_reducible refine APure.call (leave_spec _ _) ?_; try simp (disch := omega) [go_sem, * ])
                    | (refine ac_block ?_)
                    | (refine ac_skip ?_; simp only [thenA])
                    | (refine ac_exit ?_; simp only [thenA, blockA, if_true, if_false, Nat.reduceEqDiff])
                    | (with_reducible show nextK _ _ _ _ _ _ _; simp (disch := omega) [go_sem, *, wrap64_id, upd_ne, mk3_true, flatten_replicate_one, stepK_if, ilt_true, ilt_false, ile_true, ile_false, encHop, encLink ])
                    | (refine wantK_split (fun hc => ?_) (fun hc => ?_) <;> (try simp only [Bool.not_eq_true', Bool.not_eq_false', Bool.not_eq_eq_eq_not, Bool.not_true, Bool.not_false, decide_eq_true_eq, decide_eq_false_iff_not, Int.not_lt, Int.not_le] at hc) <;> (try (exfalso; omega)) <;> (try simp (disch := omega) [go_sem, *, wrap64_id, upd_ne, mk3_true, flatten_replicate_one, stepK_if, ilt_true, ilt_false, ile_true, ile_false, encHop, encLink ]))
                    | (refine ac_cond_h fun Kt Kf ht hf => ?_; simp (disch := omega) [go_sem, * ]; try (refine ⟨fun hc => ?_, fun hc => ?_⟩ <;> try (exfalso; omega))))
                  refine round_end (by simp [go_sem]) ?_ ⟨k + 1, _, y.to, x.tick + y.delay, by omega, by omega, by omega, by omega, hgo, rfl⟩ (by simp [intAt, go_sem]; omega)
                  repeat (first | exact Sub.refl _ | refine Sub.upd ?_ (hb'.out _ (by omega)) _)
                · simp only [p2, p3, p4, ne_eq, not_true_eq_false, not_false_eq_true, or_false, or_true, if_true, if_false] at hgo
                  replace hgo : Hide _ := hgo
                  repeat' (first
                    | (refine ac_seq_h fun K hK => ?_)
                    | (refine ac_region_h fun K hK => ?_; simp (disch := omega) [go_sem, *, wrap64_id, upd_ne, ilt_true, ile_true, encHop, encLink ])
                    | (refine ac_draw_h mixed (by kernel_rfl) fun K hK => ?_; simp (disch := omega) [go_sem, *, wrap64_id, upd_ne, mk3_true, flatten_replicate_one, stepK_if, ilt_true, ilt_false, ile_true, ile_false, encHop, encLink ])
                    | (apply Hide.out hK; clear hK K; try with_reducible dsimp only [thenA])
                    | (apply Hide.out ht; clear ht hf Kt Kf)
                    | (apply Hide.out hf; clear ht hf Kt Kf)
                    | (clear hK K; apply Hide.out hK; clear hK K; try with_reducible dsimp only [thenA])
                    | (clear hK K; clear hK K; apply Hide.out hK; clear hK K; try with_reducible dsimp only [thenA])
                    | (with_reducible refine APure.call (within_spec _ _ _) ?_; try simp (disch := omega) [go_sem, *, upd_ne, encLink ])
                    | (with_reducible refine APure.call (leave_spec _ _) ?_; try simp (disch := omega) [go_sem, * ])
                    | (refine ac_block ?_)
                    | (refine ac_skip ?_; simp only [thenA])
                    | (refine ac_exit ?_; simp only [thenA, blockA, if_true, if_false, Nat.reduceEqDiff])
                    | (with_reducible show nextK _ _ _ _ _ _ _; simp (disch := omega) [go_sem, *, wrap64_id, upd_ne, mk3_true, flatten_replicate_one, stepK_if, ilt_true, ilt_false, ile_true, ile_false, encHop, encLink ])
                    | (refine wantK_split (fun hc => ?_) (fun hc => ?_) <;> (try simp only [Bool.not_eq_true', Bool.not_eq_false', Bool.not_eq_eq_eq_not, Bool.not_true, Bool.not_false, decide_eq_true_eq, decide_eq_false_iff_not, Int.not_lt, Int.not_le] at hc) <;> (try (exfalso; omega)) <;> (try simp (disch := omega) [go_sem, *, wrap64_id, upd_ne, mk3_true, flatten_replicate_one, stepK_if, ilt_true, ilt_false, ile_true, ile_false, encHop, encLink ]))
                    | (refine ac_cond_h fun Kt Kf ht hf => ?_; simp (disch := omega) [go_sem, * ]; try (refine ⟨fun hc => ?_, fun hc => ?_⟩ <;> try (exfalso; omega))))
                  (refine ac_ret ?_; try dsimp only [thenA, blockA]; refine ⟨by simp, _, (by first | rfl | (simp (disch := omega) [go_sem, upd_ne] <;> rfl)), ?_⟩; refine ret_id ⟨fun k hk => (by first | rfl | (repeat rw [upd_ne _ _ _ _ (by omega)])), (by simp [go_sem, below, belowL]), (by simp [go_sem, hR.out, cwE_none h40 hgo.out.symm, hE] <;> omega), by simp, by simp⟩)
          · simp only [p1, ne_eq, not_false_eq_true, true_or, if_true] at hgo
            replace hgo : Hide _ := hgo
            have p1' : (y.fr != a) = true := by simpa using p1
            repeat' (first
              | (refine ac_seq_h fun K hK => ?_)
              | (refine ac_region_h fun K hK => ?_; simp (disch := omega) [go_sem, *, wrap64_id, upd_ne, ilt_true, ile_true, encHop ])
              | (refine ac_draw_h mixed (by kernel_rfl) fun K hK => ?_; simp (disch := omega) [go_sem, *, wrap64_id, upd_ne, mk3_true, flatten_replicate_one, stepK_if, ilt_true, ilt_false, ile_true, ile_false, encHop, encLink ])
              | (apply Hide.out hK; clear hK K; try with_reducible dsimp only [thenA])
              | (apply Hide.out ht; clear ht hf Kt Kf)
              | (apply Hide.out hf; clear ht hf Kt Kf)
              | (clear hK K; apply Hide.out hK; clear hK K; try with_reducible dsimp only [thenA])
              | (clear hK K; clear hK K; apply Hide.out hK; clear hK K; try with_reducible dsimp only [thenA])
              | (with_reducible refine APure.call (within_spec _ _ _) ?_; try simp (disch := omega) [go_sem, *, upd_ne, encLink ])
              | (with_reducible refine APure.call (leave_spec _ _) ?_; try simp (disch := omega) [go_sem, *, wrap64_id, upd_ne, mk3_true, flatten_replicate_one, stepK_if, ilt_true, ilt_false, ile_true, ile_false, encHop, encLink ])
              | (refine ac_block ?_)
              | (refine ac_skip ?_; simp only [thenA])
              | (refine ac_exit ?_; simp only [thenA, blockA, if_true, if_false, Nat.reduceEqDiff])
              | (with_reducible show nextK _ _ _ _ _ _ _; simp (disch := omega) [go_sem, *, wrap64_id, upd_ne, mk3_true, flatten_replicate_one, stepK_if, ilt_true, ilt_false, ile_true, ile_false, encHop, encLink ])
              | (refine wantK_split (fun hc => ?_) (fun hc => ?_) <;> (try simp only [Bool.not_eq_true', Bool.not_eq_false', Bool.not_eq_eq_eq_not, Bool.not_true, Bool.not_false, decide_eq_true_eq, decide_eq_false_iff_not, Int.not_lt, Int.not_le] at hc) <;> (try (exfalso; omega)) <;> (try simp (disch := omega) [go_sem, *, wrap64_id, upd_ne, mk3_true, flatten_replicate_one, stepK_if, ilt_true, ilt_false, ile_true, ile_false, encHop, encLink ]))
              | (refine ac_cond_h fun Kt Kf ht hf => ?_; simp (disch := omega) [go_sem, * ]; try (refine ⟨fun hc => ?_, fun hc => ?_⟩ <;> try (exfalso; omega))))
            (refine ac_ret ?_; try dsimp only [thenA, blockA]; refine ⟨by simp, _, (by first | rfl | (simp (disch := omega) [go_sem, upd_ne] <;> rfl)), ?_⟩; refine ret_id ⟨fun k hk => (by first | rfl | (repeat rw [upd_ne _ _ _ _ (by omega)])), (by simp [go_sem, below, belowL]), (by simp [go_sem, hR.out, cwE_none h40 hgo.out.symm, hE] <;> omega), by simp, by simp⟩)
      · have hkl : k = l.length := by omega
        replace hgo := hgo.out
        rw [hkl, List.drop_length, cwGo] at hgo
        replace hgo : Hide _ := hgo
        by_cases p : a = to
        · skip
          repeat' (first
            | (refine ac_seq_h fun K hK => ?_)
            | (refine ac_region_h fun K hK => ?_; simp (disch := omega) [go_sem, *])
            | (refine ac_draw_h mixed (by kernel_rfl) fun K hK => ?_; simp (disch := omega) [go_sem, *, wrap64_id, upd_ne, mk3_true, flatten_replicate_one, stepK_if, ilt_true, ilt_false, ile_true, ile_false])
            | (apply Hide.out hK; clear hK K; try with_reducible dsimp only [thenA])
            | (apply Hide.out ht; clear ht hf Kt Kf)
            | (apply Hide.out hf; clear ht hf Kt Kf)
            | (clear hK K; apply Hide.out hK; clear hK K; try with_reducible dsimp only [thenA])
            | (clear hK K; clear hK K; apply Hide.out hK; clear hK K; try with_reducible dsimp only [thenA])
            | (refine ac_block ?_)
            | (refine ac_skip ?_; simp only [thenA])
            | (refine ac_exit ?_; simp only [thenA, blockA, if_true])
            | (with_reducible show nextK _ _ _ _ _ _ _; simp (disch := omega) [go_sem, *, wrap64_id, upd_ne, mk3_true, flatten_replicate_one, stepK_if, ilt_true, ilt_false, ile_true, ile_false])
            | (refine wantK_split (fun hc => ?_) (fun hc => ?_) <;> (try simp only [Bool.not_eq_true', Bool.not_eq_false', Bool.not_eq_eq_eq_not, Bool.not_true, Bool.not_false, decide_eq_true_eq, decide_eq_false_iff_not, Int.not_lt, Int.not_le] at hc) <;> (try (exfalso; omega)) <;> (try simp (disch := omega) [go_sem, *, wrap64_id, upd_ne, mk3_true, flatten_replicate_one, stepK_if, ilt_true, ilt_false, ile_true, ile_false]))
            | (refine ac_cond_h fun Kt Kf ht hf => ?_; simp (disch := omega) [go_sem, *]; try (refine ⟨fun hc => ?_, fun hc => ?_⟩ <;> try (exfalso; omega))))
          (refine ac_ret ?_; try dsimp only [thenA, blockA]; refine ⟨by simp, _, (by first | rfl | (simp (disch := omega) [go_sem, upd_ne] <;> rfl)), ?_⟩; refine ret_id ⟨fun k hk => (by first | rfl | (repeat rw [upd_ne _ _ _ _ (by omega)])), (by simp [go_sem, below, belowL]), (by simp [go_sem, hR.out, cwE_some h40 hgo.out.symm, hE, p] <;> omega), by simp, by simp⟩)
        · have p' : (a == to) = false := by simpa using p
          repeat' (first
            | (refine ac_seq_h fun K hK => ?_)
            | (refine ac_region_h fun K hK => ?_; simp (disch := omega) [go_sem, *])
            | (refine ac_draw_h mixed (by kernel_rfl) fun K hK => ?_; simp (disch := omega) [go_sem, *, wrap64_id, upd_ne, mk3_true, flatten_replicate_one, stepK_if, ilt_true, ilt_false, ile_true, ile_false])
            | (apply Hide.out hK; clear hK K; try with_reducible dsimp only [thenA])
            | (apply Hide.out ht; clear ht hf Kt Kf)
            | (apply Hide.out hf; clear ht hf Kt Kf)
            | (clear hK K; apply Hide.out hK; clear hK K; try with_reducible dsimp only [thenA])
            | (clear hK K; clear hK K; apply Hide.out hK; clear hK K; try with_reducible dsimp only [thenA])
            | (refine ac_block ?_)
            | (refine ac_skip ?_; simp only [thenA, blockA])
            | (refine ac_exit ?_; simp only [thenA, blockA, if_true])
            | (with_reducible show nextK _ _ _ _ _ _ _; simp (disch := omega) [go_sem, *, wrap64_id, upd_ne, mk3_true, flatten_replicate_one, stepK_if, ilt_true, ilt_false, ile_true, ile_false])
            | (refine wantK_split (fun hc => ?_) (fun hc => ?_) <;> (try simp only [Bool.not_eq_true', Bool.not_eq_false', Bool.not_eq_eq_eq_not, Bool.not_true, Bool.not_false, decide_eq_true_eq, decide_eq_false_iff_not, Int.not_lt, Int.not_le] at hc) <;> (try (exfalso; omega)) <;> (try simp (disch := omega) [go_sem, *, wrap64_id, upd_ne, mk3_true, flatten_replicate_one, stepK_if, ilt_true, ilt_false, ile_true, ile_false]))
            | (refine ac_cond_h fun Kt Kf ht hf => ?_; simp (disch := omega) [go_sem, *]; try (refine ⟨fun hc => ?_, fun hc => ?_⟩ <;> try (exfalso; omega))))
          (refine ac_ret ?_; try dsimp only [thenA, blockA]; refine ⟨by simp, _, (by first | rfl | (simp (disch := omega) [go_sem, upd_ne] <;> rfl)), ?_⟩; refine ret_id ⟨fun k hk => (by first | rfl | (repeat rw [upd_ne _ _ _ _ (by omega)])), (by simp [go_sem, below, belowL]), (by simp [go_sem, hR.out, cwE_some h40 hgo.out.symm, hE, p] <;> omega), by simp, by simp⟩)
  · skip
    repeat' (first
      | (refine ac_seq_h fun K hK => ?_)
      | (refine ac_region_h fun K hK => ?_; simp (disch := omega) [go_sem, *, Try.ntmps26 ])
      | (refine ac_draw_h mixed (by kernel_rfl) fun K hK => ?_; simp (disch := omega) [go_sem, *, wrap64_id, upd_ne, mk3_true, flatten_replicate_one, stepK_if, ilt_true, ilt_false, ile_true, ile_false, Try.ntmps26 ])
      | (apply Hide.out hK; clear hK K; try with_reducible dsimp only [thenA])
      | (apply Hide.out ht; clear ht hf Kt Kf)
      | (apply Hide.out hf; clear ht hf Kt Kf)
      | (clear hK K; apply Hide.out hK; clear hK K; try with_reducible dsimp only [thenA])
      | (clear hK K; clear hK K; apply Hide.out hK; clear hK K; try with_reducible dsimp only [thenA])
      | (with_reducible refine APure.call (hasked) ?_; try simp (disch := omega) [go_sem, * ])
      | (refine ac_block ?_)
      | (refine ac_skip ?_; simp only [thenA, blockA])
      | (refine ac_exit ?_; simp only [thenA, blockA, if_true, if_false, Nat.reduceEqDiff])
      | (with_reducible show nextK _ _ _ _ _ _ _; simp (disch := omega) [go_sem, *, wrap64_id, upd_ne, mk3_true, flatten_replicate_one, stepK_if, ilt_true, ilt_false, ile_true, ile_false, Try.ntmps26 ])
      | (refine wantK_split (fun hc => ?_) (fun hc => ?_) <;> (try simp only [Bool.not_eq_true', Bool.not_eq_false', Bool.not_eq_eq_eq_not, Bool.not_true, Bool.not_false, decide_eq_true_eq, decide_eq_false_iff_not, Int.not_lt, Int.not_le] at hc) <;> (try (exfalso; omega)) <;> (try simp (disch := omega) [go_sem, *, wrap64_id, upd_ne, mk3_true, flatten_replicate_one, stepK_if, ilt_true, ilt_false, ile_true, ile_false, Try.ntmps26 ]))
      | (refine ac_cond_h fun Kt Kf ht hf => ?_; simp (disch := omega) [go_sem, * ]; try (refine ⟨fun hc => ?_, fun hc => ?_⟩ <;> try (exfalso; omega))))
    (refine ac_ret ?_; try dsimp only [thenA, blockA]; refine ⟨by simp, _, (by first | rfl | (simp (disch := omega) [go_sem, upd_ne] <;> rfl)), ?_⟩; refine ret_id ⟨fun k hk => (by first | rfl | (repeat rw [upd_ne _ _ _ _ (by omega)])), (by simp [go_sem, below, belowL]), (by simp [go_sem, hE, checkWay] <;> omega), by simp, by simp⟩)
end Go.AM

namespace Go.AM
open Go.Proofs Nets
set_option maxRecDepth 10000
set_option maxHeartbeats 4000000
def askedE2 (N : Net) (s to t : Int) : Int := if askedE N t [s] = 0 then (if bad N to = true then 1 else 0) else askedE N t [s]
theorem askedE2_eq (N : Net) (s to t : Int) : askedE N t [s, to] = askedE2 N s to t := by
  unfold askedE2 askedE bad
  by_cases hC : checkE N = 0
  · simp only [hC, ne_eq, not_true_eq_false, if_false, List.any_cons, List.any_nil, Bool.or_false]
    cases within s 0 (N.st - 1) <;> cases within to 0 (N.st - 1) <;> cases within t 0 1048576 <;> simp
  · simp [hC]
theorem checkWay_ref (N : Net) (s to t : Int) (nl f : Bool) (l : List Hop) (hl : l.length < 1000000) :
    APure Try.prog 25 [encNet N, iv .i64 s, iv .i64 to, iv .i64 t, .fslc nl f 2 (l.map encHop)] (.tup [iv .i64 (checkWay N s to t (askedE2 N s to t) l).1, iv .i64 (checkWay N s to t (askedE2 N s to t) l).2]) := by
  intro h n
  refine ACalls.pure (ACalls.entry (by kernel_rfl) fun hb _ => calls_of Try.func25 rfl (by kernel_rfl) (by simp [Try.ntmps25]) ?_)
  by_cases hE : askedE N t [s] = 0
  · obtain ⟨hC, hs, ht1, ht2⟩ := asked_zero hE
    obtain ⟨hs1, hs2⟩ := hs s (by simp)
    obtain ⟨s1, s2, hll, hok⟩ := checkE_ok hC
    replace hok : Hide _ := hok
    clear hs hC
    cases hw : within to 0 (N.st - 1)
    · skip
      repeat' (first
        | (refine ac_seq_h fun K hK => ?_)
        | (refine ac_region_h fun K hK => ?_; simp (disch := omega) [go_sem, *, wrap64_id, Try.ntmps25 ])
        | (refine ac_draw_h mixed (by kernel_rfl) fun K hK => ?_; simp (disch := omega) [go_sem, *, wrap64_id, upd_ne, mk3_true, flatten_replicate_one, stepK_if, ilt_true, ilt_false, ile_true, ile_false, Try.ntmps25 ])
        | (apply Hide.out hK; clear hK K; try with_reducible dsimp only [thenA])
        | (apply Hide.out ht; clear ht hf Kt Kf)
        | (apply Hide.out hf; clear ht hf Kt Kf)
        | (clear hK K; apply Hide.out hK; clear hK K; try with_reducible dsimp only [thenA])
        | (clear hK K; clear hK K; apply Hide.out hK; clear hK K; try with_reducible dsimp only [thenA])
        | (with_reducible refine APure.call (asked_ref _ _ _) ?_; try simp (disch := omega) [go_sem, * ])
        | (with_reducible refine APure.call (within_ref _ _ _) ?_; try simp (disch := omega) [go_sem, * ])
        | (refine ac_block ?_)
        | (refine ac_skip ?_; simp only [thenA])
        | (refine ac_exit ?_; simp only [thenA, blockA, if_true, if_false, Nat.reduceEqDiff])
        | (with_reducible show nextK _ _ _ _ _ _ _; simp (disch := omega) [go_sem, *, wrap64_id, upd_ne, mk3_true, flatten_replicate_one, stepK_if, ilt_true, ilt_false, ile_true, ile_false, Try.ntmps25 ])
        | (refine wantK_split (fun hc => ?_) (fun hc => ?_) <;> (try simp only [Bool.not_eq_true', Bool.not_eq_false', Bool.not_eq_eq_eq_not, Bool.not_true, Bool.not_false, decide_eq_true_eq, decide_eq_false_iff_not, Int.not_lt, Int.not_le] at hc) <;> (try (exfalso; omega)) <;> (try simp (disch := omega) [go_sem, *, wrap64_id, upd_ne, mk3_true, flatten_replicate_one, stepK_if, ilt_true, ilt_false, ile_true, ile_false, Try.ntmps25 ]))
        | (refine ac_cond_h fun Kt Kf ht hf => ?_; simp (disch := omega) [go_sem, * ]; try (refine ⟨fun hc => ?_, fun hc => ?_⟩ <;> try (exfalso; omega))))
      (refine ac_ret ?_; try dsimp only [thenA, blockA]; refine ⟨by simp, _, (by first | rfl | (simp (disch := omega) [go_sem, upd_ne] <;> rfl)), ?_⟩; refine ret_id ⟨fun k hk => (by first | rfl | (repeat rw [upd_ne _ _ _ _ (by omega)])), (by simp [go_sem, below, belowL]), (by simp [go_sem, hE, askedE2, bad, hw, checkWay] <;> omega), by simp, by simp⟩)
    by_cases h40 : 40 < l.length
    · skip
      repeat' (first
        | (refine ac_seq_h fun K hK => ?_)
        | (refine ac_region_h fun K hK => ?_; simp (disch := omega) [go_sem, *, wrap64_id, ilt_true, Try.ntmps25 ])
        | (refine ac_draw_h mixed (by kernel_rfl) fun K hK => ?_; simp (disch := omega) [go_sem, *, wrap64_id, upd_ne, mk3_true, flatten_replicate_one, stepK_if, ilt_true, ilt_false, ile_true, ile_false, Try.ntmps25 ])
        | (apply Hide.out hK; clear hK K; try with_reducible dsimp only [thenA])
        | (apply Hide.out ht; clear ht hf Kt Kf)
        | (apply Hide.out hf; clear ht hf Kt Kf)
        | (clear hK K; apply Hide.out hK; clear hK K; try with_reducible dsimp only [thenA])
        | (clear hK K; clear hK K; apply Hide.out hK; clear hK K; try with_reducible dsimp only [thenA])
        | (with_reducible refine APure.call (asked_ref _ _ _) ?_; try simp (disch := omega) [go_sem, * ])
        | (with_reducible refine APure.call (within_ref _ _ _) ?_; try simp (disch := omega) [go_sem, * ])
        | (refine ac_block ?_)
        | (refine ac_skip ?_; simp only [thenA])
        | (refine ac_exit ?_; simp only [thenA, blockA, if_true, if_false, Nat.reduceEqDiff])
        | (with_reducible show nextK _ _ _ _ _ _ _; simp (disch := omega) [go_sem, *, wrap64_id, upd_ne, mk3_true, flatten_replicate_one, stepK_if, ilt_true, ilt_false, ile_true, ile_false, Try.ntmps25 ])
        | (refine wantK_split (fun hc => ?_) (fun hc => ?_) <;> (try simp only [Bool.not_eq_true', Bool.not_eq_false', Bool.not_eq_eq_eq_not, Bool.not_true, Bool.not_false, decide_eq_true_eq, decide_eq_false_iff_not, Int.not_lt, Int.not_le] at hc) <;> (try (exfalso; omega)) <;> (try simp (disch := omega) [go_sem, *, wrap64_id, upd_ne, mk3_true, flatten_replicate_one, stepK_if, ilt_true, ilt_false, ile_true, ile_false, Try.ntmps25 ]))
        | (refine ac_cond_h fun Kt Kf ht hf => ?_; simp (disch := omega) [go_sem, * ]; try (refine ⟨fun hc => ?_, fun hc => ?_⟩ <;> try (exfalso; omega))))
      (refine ac_ret ?_; try dsimp only [thenA, blockA]; refine ⟨by simp, _, (by first | rfl | (simp (disch := omega) [go_sem, upd_ne] <;> rfl)), ?_⟩; refine ret_id ⟨fun k hk => (by first | rfl | (repeat rw [upd_ne _ _ _ _ (by omega)])), (by simp [go_sem, below, belowL]), (by simp [go_sem, hE, askedE2, bad, hw, checkWay, cwE, h40] <;> omega), by simp, by simp⟩)
    have hR : checkWay N s to t (askedE2 N s to t) l = cwE N s to t l := by simp [checkWay, askedE2, hE, bad, hw]
    have h40' : l.length ≤ 40 := by omega
    replace hR : Hide _ := hR
    repeat' (first
      | (refine ac_seq_h fun K hK => ?_)
      | (refine ac_region_h fun K hK => ?_; simp (disch := omega) [go_sem, *, wrap64_id, ilt_false, Try.ntmps25 ])
      | (refine ac_draw_h mixed (by kernel_rfl) fun K hK => ?_; simp (disch := omega) [go_sem, *, wrap64_id, upd_ne, mk3_true, flatten_replicate_one, stepK_if, ilt_true, ilt_false, ile_true, ile_false, Try.ntmps25 ])
      | (apply Hide.out hK; clear hK K; try with_reducible dsimp only [thenA])
      | (apply Hide.out ht; clear ht hf Kt Kf)
      | (apply Hide.out hf; clear ht hf Kt Kf)
      | (clear hK K; apply Hide.out hK; clear hK K; try with_reducible dsimp only [thenA])
      | (clear hK K; clear hK K; apply Hide.out hK; clear hK K; try with_reducible dsimp only [thenA])
      | (with_reducible refine APure.call (asked_ref _ _ _) ?_; try simp (disch := omega) [go_sem, * ])
      | (with_reducible refine APure.call (within_ref _ _ _) ?_; try simp (disch := omega) [go_sem, * ])
      | (refine ac_block ?_)
      | (refine ac_skip ?_; simp only [thenA])
      | (refine ac_exit ?_; simp only [thenA, blockA, if_true, if_false, Nat.reduceEqDiff])
      | (with_reducible show nextK _ _ _ _ _ _ _; simp (disch := omega) [go_sem, *, wrap64_id, upd_ne, mk3_true, flatten_replicate_one, stepK_if, ilt_true, ilt_false, ile_true, ile_false, Try.ntmps25 ])
      | (refine wantK_split (fun hc => ?_) (fun hc => ?_) <;> (try simp only [Bool.not_eq_true', Bool.not_eq_false', Bool.not_eq_eq_eq_not, Bool.not_true, Bool.not_false, decide_eq_true_eq, decide_eq_false_iff_not, Int.not_lt, Int.not_le] at hc) <;> (try (exfalso; omega)) <;> (try simp (disch := omega) [go_sem, *, wrap64_id, upd_ne, mk3_true, flatten_replicate_one, stepK_if, ilt_true, ilt_false, ile_true, ile_false, Try.ntmps25 ]))
      | (refine ac_cond_h fun Kt Kf ht hf => ?_; simp (disch := omega) [go_sem, * ]; try (refine ⟨fun hc => ?_, fun hc => ?_⟩ <;> try (exfalso; omega))))
    refine ac_loop_wk (fun s' => ∃ (k n' : Nat) (a m : Int), n < n' ∧ k ≤ l.length ∧ 0 ≤ m ∧ m ≤ 1048576 ∧ Hide (cwGo N.links a m (l.drop k) = cwGo N.links s t l) ∧ s' = ⟨104, [(2, iv .i64 to), (4, .fslc nl f 2 (l.map encHop)), (5, .ptr n 0), (14, iv .i64 a), (15, iv .i64 m), (16, iv .i64 k)], h.upd n (some (cellsNet N)), n'⟩)
      (fun s => l.length - (intAt s 16).toNat) ?_ ?_
    · exact loop_start (by simp [go_sem]) (Sub.refl _) ⟨0, _, s, t, by omega, by omega, ht1, ht2, rfl, rfl⟩
    · rintro s' ⟨k, n', a, m, hn', hk, hm1, hm2, hgo, rfl⟩
      have hb' : NB (h.upd n (some (cellsNet N))) n' := hb.nb.upd hn' (by omega)
      replace hb' : Hide _ := hb'
      by_cases hlt : k < l.length
      · obtain ⟨x, hx1, hx2, hx3⟩ := at_k hlt
        replace hgo := hgo.out
        rw [hx3, cwGo] at hgo
        clear hx3
        cases hw : within x.link 0 ((N.links.length : Int) - 1)
        · rw [if_pos hw] at hgo
          replace hgo : Hide _ := hgo
          repeat' (first
            | (refine ac_seq_h fun K hK => ?_)
            | (refine ac_region_h fun K hK => ?_; simp (disch := omega) [go_sem, *, ilt_true ])
            | (refine ac_draw_h mixed (by kernel_rfl) fun K hK => ?_; simp (disch := omega) [go_sem, *, wrap64_id, ile_true, encHop ])
            | (apply Hide.out hK; clear hK K; try with_reducible dsimp only [thenA])
            | (apply Hide.out ht; clear ht hf Kt Kf)
            | (apply Hide.out hf; clear ht hf Kt Kf)
            | (clear hK K; apply Hide.out hK; clear hK K; try with_reducible dsimp only [thenA])
            | (clear hK K; clear hK K; apply Hide.out hK; clear hK K; try with_reducible dsimp only [thenA])
            | (with_reducible refine APure.call (within_ref _ _ _) ?_; try simp (disch := omega) [go_sem, * ])
            | (refine ac_block ?_)
            | (refine ac_skip ?_; simp only [thenA])
            | (refine ac_exit ?_; simp only [thenA, blockA, if_true, if_false, Nat.reduceEqDiff])
            | (with_reducible show nextK _ _ _ _ _ _ _; simp (disch := omega) [go_sem, *, wrap64_id, upd_ne, mk3_true, flatten_replicate_one, stepK_if, ilt_true, ilt_false, ile_true, ile_false, encHop ])
            | (refine wantK_split (fun hc => ?_) (fun hc => ?_) <;> (try simp only [Bool.not_eq_true', Bool.not_eq_false', Bool.not_eq_eq_eq_not, Bool.not_true, Bool.not_false, decide_eq_true_eq, decide_eq_false_iff_not, Int.not_lt, Int.not_le] at hc) <;> (try (exfalso; omega)) <;> (try simp (disch := omega) [go_sem, *, wrap64_id, upd_ne, mk3_true, flatten_replicate_one, stepK_if, ilt_true, ilt_false, ile_true, ile_false, encHop ]))
            | (refine ac_cond_h fun Kt Kf ht hf => ?_; simp (disch := omega) [go_sem, * ]; try (refine ⟨fun hc => ?_, fun hc => ?_⟩ <;> try (exfalso; omega))))
          (refine ac_ret ?_; try dsimp only [thenA, blockA]; refine ⟨by simp, _, (by first | rfl | (simp (disch := omega) [go_sem, upd_ne] <;> rfl)), ?_⟩; refine ret_id ⟨fun k hk => (by first | rfl | (repeat rw [upd_ne _ _ _ _ (by omega)])), (by simp [go_sem, below, belowL]), (by simp [go_sem, hR.out, cwE_none h40 hgo.out.symm] <;> omega), by simp, by simp⟩)
        · rw [if_neg (by rw [hw]; simp)] at hgo
          have hw2 : 0 ≤ x.link ∧ x.link < N.links.length := by simp [within] at hw; omega
          obtain ⟨y, hy1, hy2, _⟩ := at_k (show x.link.toNat < N.links.length by omega)
          have hyk := hok.out y (List.mem_of_getElem? hy2)
          have hlr := leave_range hyk.ok x.tick
          have hdl := (right_spans hyk.ok).1
          rw [hy2] at hgo
          simp only at hgo
          replace hyk : Hide _ := hyk
          by_cases p1 : y.fr = a
          · obtain rfl := p1
            by_cases p2 : x.tick < m
            · simp only [p2, or_true, if_true] at hgo
              replace hgo : Hide _ := hgo
              repeat' (first
                | (refine ac_seq_h fun K hK => ?_)
                | (refine ac_region_h fun K hK => ?_; simp (disch := omega) [go_sem, *, ilt_true, ile_true, encHop ])
                | (refine ac_draw_h mixed (by kernel_rfl) fun K hK => ?_; simp (disch := omega) [go_sem, *, wrap64_id, ile_true, encHop, encLink ])
                | (apply Hide.out hK; clear hK K; try with_reducible dsimp only [thenA])
                | (apply Hide.out ht; clear ht hf Kt Kf)
                | (apply Hide.out hf; clear ht hf Kt Kf)
                | (clear hK K; apply Hide.out hK; clear hK K; try with_reducible dsimp only [thenA])
                | (clear hK K; clear hK K; apply Hide.out hK; clear hK K; try with_reducible dsimp only [thenA])
                | (with_reducible refine APure.call (within_ref _ _ _) ?_; try simp (disch := omega) [go_sem, * ])
                | (with_reducible refine APure.call (leaves_ref _ _) ?_; try simp (disch := omega) [go_sem, * ])
                | (refine ac_block ?_)
                | (refine ac_skip ?_; simp only [thenA])
                | (refine ac_exit ?_; simp only [thenA, blockA, if_true, if_false, Nat.reduceEqDiff])
                | (with_reducible show nextK _ _ _ _ _ _ _; simp (disch := omega) [go_sem, *, wrap64_id, upd_ne, mk3_true, flatten_replicate_one, stepK_if, ilt_true, ilt_false, ile_true, ile_false, encHop, encLink ])
                | (refine wantK_split (fun hc => ?_) (fun hc => ?_) <;> (try simp only [Bool.not_eq_true', Bool.not_eq_false', Bool.not_eq_eq_eq_not, Bool.not_true, Bool.not_false, decide_eq_true_eq, decide_eq_false_iff_not, Int.not_lt, Int.not_le] at hc) <;> (try (exfalso; omega)) <;> (try simp (disch := omega) [go_sem, *, wrap64_id, upd_ne, mk3_true, flatten_replicate_one, stepK_if, ilt_true, ilt_false, ile_true, ile_false, encHop, encLink ]))
                | (refine ac_cond_h fun Kt Kf ht hf => ?_; simp (disch := omega) [go_sem, * ]; try (refine ⟨fun hc => ?_, fun hc => ?_⟩ <;> try (exfalso; omega))))
              (refine ac_ret ?_; try dsimp only [thenA, blockA]; refine ⟨by simp, _, (by first | rfl | (simp (disch := omega) [go_sem, upd_ne] <;> rfl)), ?_⟩; refine ret_id ⟨fun k hk => (by first | rfl | (repeat rw [upd_ne _ _ _ _ (by omega)])), (by simp [go_sem, below, belowL]), (by simp [go_sem, hR.out, cwE_none h40 hgo.out.symm] <;> omega), by simp, by simp⟩)
            · cases p3 : (leave y x.tick).2
              · simp only [p2, p3, ne_eq, not_true_eq_false, or_false, true_or, if_true, if_false] at hgo
                replace hgo : Hide _ := hgo
                repeat' (first
                  | (refine ac_seq_h fun K hK => ?_)
                  | (refine ac_region_h fun K hK => ?_; simp (disch := omega) [go_sem, *, ilt_true, ile_true, encHop ])
                  | (refine ac_draw_h mixed (by kernel_rfl) fun K hK => ?_; simp (disch := omega) [go_sem, *, wrap64_id, ile_true, encHop, encLink ])
                  | (apply Hide.out hK; clear hK K; try with_reducible dsimp only [thenA])
                  | (apply Hide.out ht; clear ht hf Kt Kf)
                  | (apply Hide.out hf; clear ht hf Kt Kf)
                  | (clear hK K; apply Hide.out hK; clear hK K; try with_reducible dsimp only [thenA])
                  | (clear hK K; clear hK K; apply Hide.out hK; clear hK K; try with_reducible dsimp only [thenA])
                  | (with_reducible refine APure.call (within_ref _ _ _) ?_; try simp (disch := omega) [go_sem, * ])
                  | (with_reducible refine APure.call (leaves_ref _ _) ?_; try simp (disch := omega) [go_sem, * ])
                  | (refine ac_block ?_)
                  | (refine ac_skip ?_; simp only [thenA])
                  | (refine ac_exit ?_; simp only [thenA, blockA, if_true, if_false, Nat.reduceEqDiff])
                  | (with_reducible show nextK _ _ _ _ _ _ _; simp (disch := omega) [go_sem, *, wrap64_id, upd_ne, mk3_true, flatten_replicate_one, stepK_if, ilt_true, ilt_false, ile_true, ile_false, encHop, encLink ])
                  | (refine wantK_split (fun hc => ?_) (fun hc => ?_) <;> (try simp only [Bool.not_eq_true', Bool.not_eq_false', Bool.not_eq_eq_eq_not, Bool.not_true, Bool.not_false, decide_eq_true_eq, decide_eq_false_iff_not, Int.not_lt, Int.not_le] at hc) <;> (try (exfalso; omega)) <;> (try simp (disch := omega) [go_sem, *, wrap64_id, upd_ne, mk3_true, flatten_replicate_one, stepK_if, ilt_true, ilt_false, ile_true, ile_false, encHop, encLink ]))
                  | (refine ac_cond_h fun Kt Kf ht hf => ?_; simp (disch := omega) [go_sem, * ]; try (refine ⟨fun hc => ?_, fun hc => ?_⟩ <;> try (exfalso; omega))))
                (refine ac_ret ?_; try dsimp only [thenA, blockA]; refine ⟨by simp, _, (by first | rfl | (simp (disch := omega) [go_sem, upd_ne] <;> rfl)), ?_⟩; refine ret_id ⟨fun k hk => (by first | rfl | (repeat rw [upd_ne _ _ _ _ (by omega)])), (by simp [go_sem, below, belowL]), (by simp [go_sem, hR.out, cwE_none h40 hgo.out.symm] <;> omega), by simp, by simp⟩)
              · by_cases p4 : (leave y x.tick).1 = x.tick
                · simp only [p2, p3, p4, ne_eq, not_true_eq_false, Bool.true_eq_false, or_false, if_false] at hgo
                  replace hgo : Hide _ := hgo
                  rw [p4] at hlr
                  repeat' (first
                    | (refine ac_seq_h fun K hK => ?_)
                    | (refine ac_region_h fun K hK => ?_; simp (disch := omega) [go_sem, *, wrap64_id, ilt_true, ile_true, encHop ])
                    | (refine ac_draw_h mixed (by kernel_rfl) fun K hK => ?_; simp (disch := omega) [go_sem, *, wrap64_id, ile_true, encHop, encLink ])
                    | (apply Hide.out hK; clear hK K; try with_reducible dsimp only [thenA])
                    | (apply Hide.out ht; clear ht hf Kt Kf)
                    | (apply Hide.out hf; clear ht hf Kt Kf)
                    | (clear hK K; apply Hide.out hK; clear hK K; try with_reducible dsimp only [thenA])
                    | (clear hK K; clear hK K; apply Hide.out hK; clear hK K; try with_reducible dsimp only [thenA])
                    | (with_reducible refine APure.call (within_ref _ _ _) ?_; try simp (disch := omega) [go_sem, * ])
                    | (with_reducible refine APure.call (leaves_ref _ _) ?_; try simp (disch := omega) [go_sem, * ])
                    | (refine ac_block ?_)
                    | (refine ac_skip ?_; simp only [thenA])
                    | (refine ac_exit ?_; simp only [thenA, blockA, if_true, if_false, Nat.reduceEqDiff])
                    | (with_reducible show nextK _ _ _ _ _ _ _; simp (disch := omega) [go_sem, *, wrap64_id, upd_ne, mk3_true, flatten_replicate_one, stepK_if, ilt_true, ilt_false, ile_true, ile_false, encHop, encLink ])
                    | (refine wantK_split (fun hc => ?_) (fun hc => ?_) <;> (try simp only [Bool.not_eq_true', Bool.not_eq_false', Bool.not_eq_eq_eq_not, Bool.not_true, Bool.not_false, decide_eq_true_eq, decide_eq_false_iff_not, Int.not_lt, Int.not_le] at hc) <;> (try (exfalso; omega)) <;> (try simp (disch := omega) [go_sem, *, wrap64_id, upd_ne, mk3_true, flatten_replicate_one, stepK_if, ilt_true, ilt_false, ile_true, ile_false, encHop, encLink ]))
                    | (refine ac_cond_h fun Kt Kf ht hf => ?_; simp (disch := omega) [go_sem, * ]; try (refine ⟨fun hc => ?_, fun hc => ?_⟩ <;> try (exfalso; omega))))
                  refine round_end (by simp [go_sem]) ?_ ⟨k + 1, _, y.to, x.tick + y.delay, by omega, by omega, by omega, by omega, hgo, rfl⟩ (by simp [intAt, go_sem]; omega)
                  repeat (first | exact Sub.refl _ | refine Sub.upd ?_ (hb'.out _ (by omega)) _)
                · simp only [p2, p3, p4, ne_eq, not_true_eq_false, not_false_eq_true, or_false, or_true, if_true, if_false] at hgo
                  replace hgo : Hide _ := hgo
                  repeat' (first
                    | (refine ac_seq_h fun K hK => ?_)
                    | (refine ac_region_h fun K hK => ?_; simp (disch := omega) [go_sem, *, ilt_true, ile_true, encHop ])
                    | (refine ac_draw_h mixed (by kernel_rfl) fun K hK => ?_; simp (disch := omega) [go_sem, *, wrap64_id, ile_true, encHop, encLink ])
                    | (apply Hide.out hK; clear hK K; try with_reducible dsimp only [thenA])
                    | (apply Hide.out ht; clear ht hf Kt Kf)
                    | (apply Hide.out hf; clear ht hf Kt Kf)
                    | (clear hK K; apply Hide.out hK; clear hK K; try with_reducible dsimp only [thenA])
                    | (clear hK K; clear hK K; apply Hide.out hK; clear hK K; try with_reducible dsimp only [thenA])
                    | (with_reducible refine APure.call (within_ref _ _ _) ?_; try simp (disch := omega) [go_sem, * ])
                    | (with_reducible refine APure.call (leaves_ref _ _) ?_; try simp (disch := omega) [go_sem, * ])
                    | (refine ac_block ?_)
                    | (refine ac_skip ?_; simp only [thenA])
                    | (refine ac_exit ?_; simp only [thenA, blockA, if_true, if_false, Nat.reduceEqDiff])
                    | (with_reducible show nextK _ _ _ _ _ _ _; simp (disch := omega) [go_sem, *, wrap64_id, upd_ne, mk3_true, flatten_replicate_one, stepK_if, ilt_true, ilt_false, ile_true, ile_false, encHop, encLink ])
                    | (refine wantK_split (fun hc => ?_) (fun hc => ?_) <;> (try simp only [Bool.not_eq_true', Bool.not_eq_false', Bool.not_eq_eq_eq_not, Bool.not_true, Bool.not_false, decide_eq_true_eq, decide_eq_false_iff_not, Int.not_lt, Int.not_le] at hc) <;> (try (exfalso; omega)) <;> (try simp (disch := omega) [go_sem, *, wrap64_id, upd_ne, mk3_true, flatten_replicate_one, stepK_if, ilt_true, ilt_false, ile_true, ile_false, encHop, encLink ]))
                    | (refine ac_cond_h fun Kt Kf ht hf => ?_; simp (disch := omega) [go_sem, * ]; try (refine ⟨fun hc => ?_, fun hc => ?_⟩ <;> try (exfalso; omega))))
                  (refine ac_ret ?_; try dsimp only [thenA, blockA]; refine ⟨by simp, _, (by first | rfl | (simp (disch := omega) [go_sem, upd_ne] <;> rfl)), ?_⟩; refine ret_id ⟨fun k hk => (by first | rfl | (repeat rw [upd_ne _ _ _ _ (by omega)])), (by simp [go_sem, below, belowL]), (by simp [go_sem, hR.out, cwE_none h40 hgo.out.symm] <;> omega), by simp, by simp⟩)
          · simp only [p1, ne_eq, not_false_eq_true, true_or, if_true] at hgo
            replace hgo : Hide _ := hgo
            have p1' : (y.fr != a) = true := by simpa using p1
            repeat' (first
              | (refine ac_seq_h fun K hK => ?_)
              | (refine ac_region_h fun K hK => ?_; simp (disch := omega) [go_sem, *, ilt_true ])
              | (refine ac_draw_h mixed (by kernel_rfl) fun K hK => ?_; simp (disch := omega) [go_sem, *, wrap64_id, ile_true, encHop, encLink ])
              | (apply Hide.out hK; clear hK K; try with_reducible dsimp only [thenA])
              | (apply Hide.out ht; clear ht hf Kt Kf)
              | (apply Hide.out hf; clear ht hf Kt Kf)
              | (clear hK K; apply Hide.out hK; clear hK K; try with_reducible dsimp only [thenA])
              | (clear hK K; clear hK K; apply Hide.out hK; clear hK K; try with_reducible dsimp only [thenA])
              | (with_reducible refine APure.call (within_ref _ _ _) ?_; try simp (disch := omega) [go_sem, * ])
              | (with_reducible refine APure.call (leaves_ref _ _) ?_; try simp (disch := omega) [go_sem, * ])
              | (refine ac_block ?_)
              | (refine ac_skip ?_; simp only [thenA])
              | (refine ac_exit ?_; simp only [thenA, blockA, if_true, if_false, Nat.reduceEqDiff])
              | (with_reducible show nextK _ _ _ _ _ _ _; simp (disch := omega) [go_sem, *, wrap64_id, upd_ne, mk3_true, flatten_replicate_one, stepK_if, ilt_true, ilt_false, ile_true, ile_false, encHop, encLink ])
              | (refine wantK_split (fun hc => ?_) (fun hc => ?_) <;> (try simp only [Bool.not_eq_true', Bool.not_eq_false', Bool.not_eq_eq_eq_not, Bool.not_true, Bool.not_false, decide_eq_true_eq, decide_eq_false_iff_not, Int.not_lt, Int.not_le] at hc) <;> (try (exfalso; omega)) <;> (try simp (disch := omega) [go_sem, *, wrap64_id, upd_ne, mk3_true, flatten_replicate_one, stepK_if, ilt_true, ilt_false, ile_true, ile_false, encHop, encLink ]))
              | (refine ac_cond_h fun Kt Kf ht hf => ?_; simp (disch := omega) [go_sem, * ]; try (refine ⟨fun hc => ?_, fun hc => ?_⟩ <;> try (exfalso; omega))))
            (refine ac_ret ?_; try dsimp only [thenA, blockA]; refine ⟨by simp, _, (by first | rfl | (simp (disch := omega) [go_sem, upd_ne] <;> rfl)), ?_⟩; refine ret_id ⟨fun k hk => (by first | rfl | (repeat rw [upd_ne _ _ _ _ (by omega)])), (by simp [go_sem, below, belowL]), (by simp [go_sem, hR.out, cwE_none h40 hgo.out.symm] <;> omega), by simp, by simp⟩)
      · have hkl : k = l.length := by omega
        replace hgo := hgo.out
        rw [hkl, List.drop_length, cwGo] at hgo
        replace hgo : Hide _ := hgo
        by_cases p : a = to
        · skip
          repeat' (first
            | (refine ac_seq_h fun K hK => ?_)
            | (refine ac_region_h fun K hK => ?_; simp (disch := omega) [go_sem, *])
            | (refine ac_draw_h mixed (by kernel_rfl) fun K hK => ?_; simp (disch := omega) [go_sem, *, wrap64_id, upd_ne, mk3_true, flatten_replicate_one, stepK_if, ilt_true, ilt_false, ile_true, ile_false])
            | (apply Hide.out hK; clear hK K; try with_reducible dsimp only [thenA])
            | (apply Hide.out ht; clear ht hf Kt Kf)
            | (apply Hide.out hf; clear ht hf Kt Kf)
            | (clear hK K; apply Hide.out hK; clear hK K; try with_reducible dsimp only [thenA])
            | (clear hK K; clear hK K; apply Hide.out hK; clear hK K; try with_reducible dsimp only [thenA])
            | (refine ac_block ?_)
            | (refine ac_skip ?_; simp only [thenA])
            | (refine ac_exit ?_; simp only [thenA, blockA, if_true])
            | (with_reducible show nextK _ _ _ _ _ _ _; simp (disch := omega) [go_sem, *, wrap64_id, upd_ne, mk3_true, flatten_replicate_one, stepK_if, ilt_true, ilt_false, ile_true, ile_false])
            | (refine wantK_split (fun hc => ?_) (fun hc => ?_) <;> (try simp only [Bool.not_eq_true', Bool.not_eq_false', Bool.not_eq_eq_eq_not, Bool.not_true, Bool.not_false, decide_eq_true_eq, decide_eq_false_iff_not, Int.not_lt, Int.not_le] at hc) <;> (try (exfalso; omega)) <;> (try simp (disch := omega) [go_sem, *, wrap64_id, upd_ne, mk3_true, flatten_replicate_one, stepK_if, ilt_true, ilt_false, ile_true, ile_false]))
            | (refine ac_cond_h fun Kt Kf ht hf => ?_; simp (disch := omega) [go_sem, *]; try (refine ⟨fun hc => ?_, fun hc => ?_⟩ <;> try (exfalso; omega))))
          (refine ac_ret ?_; try dsimp only [thenA, blockA]; refine ⟨by simp, _, (by first | rfl | (simp (disch := omega) [go_sem, upd_ne] <;> rfl)), ?_⟩; refine ret_id ⟨fun k hk => (by first | rfl | (repeat rw [upd_ne _ _ _ _ (by omega)])), (by simp [go_sem, below, belowL]), (by simp [go_sem, hR.out, cwE_some h40 hgo.out.symm, p] <;> omega), by simp, by simp⟩)
        · have p' : (a == to) = false := by simpa using p
          repeat' (first
            | (refine ac_seq_h fun K hK => ?_)
            | (refine ac_region_h fun K hK => ?_; simp (disch := omega) [go_sem, *])
            | (refine ac_draw_h mixed (by kernel_rfl) fun K hK => ?_; simp (disch := omega) [go_sem, *, wrap64_id, upd_ne, mk3_true, flatten_replicate_one, stepK_if, ilt_true, ilt_false, ile_true, ile_false])
            | (apply Hide.out hK; clear hK K; try with_reducible dsimp only [thenA])
            | (apply Hide.out ht; clear ht hf Kt Kf)
            | (apply Hide.out hf; clear ht hf Kt Kf)
            | (clear hK K; apply Hide.out hK; clear hK K; try with_reducible dsimp only [thenA])
            | (clear hK K; clear hK K; apply Hide.out hK; clear hK K; try with_reducible dsimp only [thenA])
            | (refine ac_block ?_)
            | (refine ac_skip ?_; simp only [thenA, blockA])
            | (refine ac_exit ?_; simp only [thenA, blockA, if_true])
            | (with_reducible show nextK _ _ _ _ _ _ _; simp (disch := omega) [go_sem, *, wrap64_id, upd_ne, mk3_true, flatten_replicate_one, stepK_if, ilt_true, ilt_false, ile_true, ile_false])
            | (refine wantK_split (fun hc => ?_) (fun hc => ?_) <;> (try simp only [Bool.not_eq_true', Bool.not_eq_false', Bool.not_eq_eq_eq_not, Bool.not_true, Bool.not_false, decide_eq_true_eq, decide_eq_false_iff_not, Int.not_lt, Int.not_le] at hc) <;> (try (exfalso; omega)) <;> (try simp (disch := omega) [go_sem, *, wrap64_id, upd_ne, mk3_true, flatten_replicate_one, stepK_if, ilt_true, ilt_false, ile_true, ile_false]))
            | (refine ac_cond_h fun Kt Kf ht hf => ?_; simp (disch := omega) [go_sem, *]; try (refine ⟨fun hc => ?_, fun hc => ?_⟩ <;> try (exfalso; omega))))
          (refine ac_ret ?_; try dsimp only [thenA, blockA]; refine ⟨by simp, _, (by first | rfl | (simp (disch := omega) [go_sem, upd_ne] <;> rfl)), ?_⟩; refine ret_id ⟨fun k hk => (by first | rfl | (repeat rw [upd_ne _ _ _ _ (by omega)])), (by simp [go_sem, below, belowL]), (by simp [go_sem, hR.out, cwE_some h40 hgo.out.symm, p] <;> omega), by simp, by simp⟩)
  · skip
    repeat' (first
      | (refine ac_seq_h fun K hK => ?_)
      | (refine ac_region_h fun K hK => ?_; simp (disch := omega) [go_sem, *, Try.ntmps25 ])
      | (refine ac_draw_h mixed (by kernel_rfl) fun K hK => ?_; simp (disch := omega) [go_sem, *, wrap64_id, upd_ne, mk3_true, flatten_replicate_one, stepK_if, ilt_true, ilt_false, ile_true, ile_false, Try.ntmps25 ])
      | (apply Hide.out hK; clear hK K; try with_reducible dsimp only [thenA])
      | (apply Hide.out ht; clear ht hf Kt Kf)
      | (apply Hide.out hf; clear ht hf Kt Kf)
      | (clear hK K; apply Hide.out hK; clear hK K; try with_reducible dsimp only [thenA])
      | (clear hK K; clear hK K; apply Hide.out hK; clear hK K; try with_reducible dsimp only [thenA])
      | (with_reducible refine APure.call (asked_ref _ _ _) ?_; try simp (disch := omega) [go_sem, * ])
      | (refine ac_block ?_)
      | (refine ac_skip ?_; simp only [thenA, blockA])
      | (refine ac_exit ?_; simp only [thenA, blockA, if_true, if_false, Nat.reduceEqDiff])
      | (with_reducible show nextK _ _ _ _ _ _ _; simp (disch := omega) [go_sem, *, wrap64_id, upd_ne, mk3_true, flatten_replicate_one, stepK_if, ilt_true, ilt_false, ile_true, ile_false, Try.ntmps25 ])
      | (refine wantK_split (fun hc => ?_) (fun hc => ?_) <;> (try simp only [Bool.not_eq_true', Bool.not_eq_false', Bool.not_eq_eq_eq_not, Bool.not_true, Bool.not_false, decide_eq_true_eq, decide_eq_false_iff_not, Int.not_lt, Int.not_le] at hc) <;> (try (exfalso; omega)) <;> (try simp (disch := omega) [go_sem, *, wrap64_id, upd_ne, mk3_true, flatten_replicate_one, stepK_if, ilt_true, ilt_false, ile_true, ile_false, Try.ntmps25 ]))
      | (refine ac_cond_h fun Kt Kf ht hf => ?_; simp (disch := omega) [go_sem, * ]; try (refine ⟨fun hc => ?_, fun hc => ?_⟩ <;> try (exfalso; omega))))
    (refine ac_ret ?_; try dsimp only [thenA, blockA]; refine ⟨by simp, _, (by first | rfl | (simp (disch := omega) [go_sem, upd_ne] <;> rfl)), ?_⟩; refine ret_id ⟨fun k hk => (by first | rfl | (repeat rw [upd_ne _ _ _ _ (by omega)])), (by simp [go_sem, below, belowL]), (by simp [go_sem, hE, checkWay, askedE2] <;> omega), by simp, by simp⟩)
end Go.AM

namespace Go.AM
open Go.Proofs Nets
set_option maxRecDepth 10000
set_option maxHeartbeats 4000000
theorem vals_of_any {l : List Int} (h : l.any (fun m => !within m (-1) 1048576) = false) : Vals l := fun v hv => by
  have := List.any_eq_false.1 h v hv
  simp [within] at this; omega
theorem checkBounds_spec (N : Net) (s t : Int) (nl : Bool) (l : List Int) (hl : l.length < 1000000) :
    APure Try.prog 27 [encNet N, iv .i64 s, iv .i64 t, ints nl l] (iv .i64 (checkBounds N s t (askedE N t [s]) l)) := by
  intro h n
  refine ACalls.pure (ACalls.entry (by kernel_rfl) fun hb _ => calls_of Try.func27 rfl (by kernel_rfl) (by simp [Try.ntmps27]) ?_)
  have hasked : APure Try.prog 42 [encNet N, iv .i64 t, .fslc false false 1 [iv .i64 s]] (iv .i64 (askedE N t [s])) := asked_spec N t false [s] (by simp)
  by_cases hE : askedE N t [s] = 0
  · obtain ⟨hC, hs, ht1, ht2⟩ := asked_zero hE
    obtain ⟨hs1, hs2⟩ := hs s (by simp)
    obtain ⟨s1, s2, hll, hok⟩ := checkE_ok hC
    replace hok : Hide _ := hok
    clear hs hC
    by_cases h1 : (l.length : Int) = N.st
    · have h1' : ((l.length : Int) != N.st) = false := by simpa using h1
      have hg := at_get' (o := l) s
      have hsl : s.toNat < l.length := by omega
      have hgs := at_get hs1 (show s < (l.length : Int) by omega)
      cases h2 : l.any (fun m => !within m (-1) 1048576)
      · have hV := vals_of_any h2
        replace hV : Hide _ := hV
        cases h3 : within (at' l s) 0 t
        · skip
          repeat' (first
            | (refine ac_seq_h fun K hK => ?_)
            | (refine ac_region_h fun K hK => ?_; simp (disch := omega) [go_sem, *, Try.ntmps27 ])
            | (refine ac_draw_h mixed (by kernel_rfl) fun K hK => ?_; simp (disch := omega) [go_sem, *, wrap64_id, upd_ne, mk3_true, flatten_replicate_one, stepK_if, ilt_true, ilt_false, ile_true, ile_false, Try.ntmps27 ])
            | (apply Hide.out hK; clear hK K; try with_reducible dsimp only [thenA])
            | (apply Hide.out ht; clear ht hf Kt Kf)
            | (apply Hide.out hf; clear ht hf Kt Kf)
            | (clear hK K; apply Hide.out hK; clear hK K; try with_reducible dsimp only [thenA])
            | (clear hK K; clear hK K; apply Hide.out hK; clear hK K; try with_reducible dsimp only [thenA])
            | (with_reducible refine APure.call (hasked) ?_; try simp (disch := omega) [go_sem, * ])
            | (with_reducible refine APureAt.call (contains_spec 50 [] nl l (fun m => !within m (-1) 1048576) _ _ hl (fun x n' _ => boundf_spec x _ n')) ?_; try simp (disch := omega) [go_sem, * ])
            | (with_reducible refine APure.call (within_spec _ _ _) ?_; try simp (disch := omega) [go_sem, * ])
            | (refine ac_block ?_)
            | (refine ac_skip ?_; simp only [thenA])
            | (refine ac_exit ?_; simp only [thenA, blockA, if_true, if_false, Nat.reduceEqDiff])
            | (with_reducible show nextK _ _ _ _ _ _ _; simp (disch := omega) [go_sem, *, wrap64_id, upd_ne, mk3_true, flatten_replicate_one, stepK_if, ilt_true, ilt_false, ile_true, ile_false, Try.ntmps27 ])
            | (refine wantK_split (fun hc => ?_) (fun hc => ?_) <;> (try simp only [Bool.not_eq_true', Bool.not_eq_false', Bool.not_eq_eq_eq_not, Bool.not_true, Bool.not_false, decide_eq_true_eq, decide_eq_false_iff_not, Int.not_lt, Int.not_le] at hc) <;> (try (exfalso; omega)) <;> (try simp (disch := omega) [go_sem, *, wrap64_id, upd_ne, mk3_true, flatten_replicate_one, stepK_if, ilt_true, ilt_false, ile_true, ile_false, Try.ntmps27 ]))
            | (refine ac_cond_h fun Kt Kf ht hf => ?_; simp (disch := omega) [go_sem, * ]; try (refine ⟨fun hc => ?_, fun hc => ?_⟩ <;> try (exfalso; omega))))
          (refine ac_ret ?_; try dsimp only [thenA, blockA]; refine ⟨by simp, _, (by first | rfl | (simp (disch := omega) [go_sem, upd_ne] <;> rfl)), ?_⟩; refine ret_id ⟨fun k hk => (by first | rfl | (repeat rw [upd_ne _ _ _ _ (by omega)])), (by simp [go_sem, below]), (by simp [go_sem, hE, checkBounds, cbE, h1, h2, h3] <;> omega), by simp, by simp⟩)
        · have hR : checkBounds N s t 0 l = cbE N s t l := by simp [checkBounds]
          replace hR : Hide _ := hR
          have hS := fun k x hx h => cbE_step (N := N) (s := s) (t := t) (k := k) (x := x) h1 h2 h3 hx h
          have hA := cbE_all (N := N) (s := s) (t := t) h1 h2 h3
          replace hS : Hide _ := hS
          replace hA : Hide _ := hA
          repeat' (first
            | (refine ac_seq_h fun K hK => ?_)
            | (refine ac_region_h fun K hK => ?_; simp (disch := omega) [go_sem, *, Try.ntmps27 ])
            | (refine ac_draw_h mixed (by kernel_rfl) fun K hK => ?_; simp (disch := omega) [go_sem, *, wrap64_id, upd_ne, mk3_true, flatten_replicate_one, stepK_if, ilt_true, ilt_false, ile_true, ile_false, Try.ntmps27 ])
            | (apply Hide.out hK; clear hK K; try with_reducible dsimp only [thenA])
            | (apply Hide.out ht; clear ht hf Kt Kf)
            | (apply Hide.out hf; clear ht hf Kt Kf)
            | (clear hK K; apply Hide.out hK; clear hK K; try with_reducible dsimp only [thenA])
            | (clear hK K; clear hK K; apply Hide.out hK; clear hK K; try with_reducible dsimp only [thenA])
            | (with_reducible refine APure.call (hasked) ?_; try simp (disch := omega) [go_sem, * ])
            | (with_reducible refine APureAt.call (contains_spec 50 [] nl l (fun m => !within m (-1) 1048576) _ _ hl (fun x n' _ => boundf_spec x _ n')) ?_; try simp (disch := omega) [go_sem, * ])
            | (with_reducible refine APure.call (within_spec _ _ _) ?_; try simp (disch := omega) [go_sem, * ])
            | (refine ac_block ?_)
            | (refine ac_skip ?_; simp only [thenA])
            | (refine ac_exit ?_; simp only [thenA, blockA, if_true, if_false, Nat.reduceEqDiff])
            | (with_reducible show nextK _ _ _ _ _ _ _; simp (disch := omega) [go_sem, *, wrap64_id, upd_ne, mk3_true, flatten_replicate_one, stepK_if, ilt_true, ilt_false, ile_true, ile_false, Try.ntmps27 ])
            | (refine wantK_split (fun hc => ?_) (fun hc => ?_) <;> (try simp only [Bool.not_eq_true', Bool.not_eq_false', Bool.not_eq_eq_eq_not, Bool.not_true, Bool.not_false, decide_eq_true_eq, decide_eq_false_iff_not, Int.not_lt, Int.not_le] at hc) <;> (try (exfalso; omega)) <;> (try simp (disch := omega) [go_sem, *, wrap64_id, upd_ne, mk3_true, flatten_replicate_one, stepK_if, ilt_true, ilt_false, ile_true, ile_false, Try.ntmps27 ]))
            | (refine ac_cond_h fun Kt Kf ht hf => ?_; simp (disch := omega) [go_sem, * ]; try (refine ⟨fun hc => ?_, fun hc => ?_⟩ <;> try (exfalso; omega))))
          refine ac_loop_wk (fun s' => ∃ (k n' : Nat), n < n' ∧ k ≤ N.links.length ∧ Hide (∀ j x, j < k → N.links[j]? = some x → cbStep l x = true) ∧ s' = ⟨78, [(3, ints nl l), (4, .ptr n 0), (41, encLinks N.nl N.links), (42, iv .i64 N.links.length), (43, iv .i64 k)], h.upd n (some (cellsNet N)), n'⟩)
            (fun s => N.links.length - (intAt s 43).toNat) ?_ ?_
          · exact loop_start (by simp [go_sem]) (Sub.refl _) ⟨0, _, by omega, by omega, fun j x hj => by omega, rfl⟩
          · rintro s' ⟨k, n', hn', hk, hgo, rfl⟩
            have hb' : NB (h.upd n (some (cellsNet N))) n' := hb.nb.upd hn' (by omega)
            replace hb' : Hide _ := hb'
            by_cases hlt : k < N.links.length
            · obtain ⟨x, hx1, hx2, hx3⟩ := at_k hlt
              obtain ⟨x1, x2, x3, x4, x5, x6⟩ := hok.out x (List.mem_of_getElem? hx2)
              have hv1 := at_get x1 (show x.fr < (l.length : Int) by omega)
              have hv2 := at_get x3 (show x.to < (l.length : Int) by omega)
              have hg1 := at_get' (o := l) x.fr
              have hg2 := at_get' (o := l) x.to
              have hlr := leave_range x6 (at' l x.fr)
              have hdl := (right_spans x6).1
              have hxk : Hide (N.links[k]? = some x) := hx2
              clear hx3
              have hnext : Hide (cbStep l x = true → ∀ j y, j < k + 1 → N.links[j]? = some y → cbStep l y = true) := fun hc j y hj hy => by
                rcases Nat.lt_or_ge j k with h' | h'
                · exact hgo.out j y h' hy
                · obtain rfl : j = k := by omega
                  rw [hxk.out] at hy; cases hy; exact hc
              by_cases p1 : at' l x.fr < 0
              · have hcb : Hide (cbStep l x = true) := by simp [Hide, cbStep, p1]
                repeat' (first
                  | (refine ac_seq_h fun K hK => ?_)
                  | (refine ac_region_h fun K hK => ?_; simp (disch := omega) [go_sem, *, wrap64_id, ilt_true, ile_true, encLink ])
                  | (refine ac_draw_h mixed (by kernel_rfl) fun K hK => ?_; simp (disch := omega) [go_sem, *, wrap64_id, upd_ne, mk3_true, flatten_replicate_one, stepK_if, ilt_true, ilt_false, ile_true, ile_false, encLink ])
                  | (apply Hide.out hK; clear hK K; try with_reducible dsimp only [thenA])
                  | (apply Hide.out ht; clear ht hf Kt Kf)
                  | (apply Hide.out hf; clear ht hf Kt Kf)
                  | (clear hK K; apply Hide.out hK; clear hK K; try with_reducible dsimp only [thenA])
                  | (clear hK K; clear hK K; apply Hide.out hK; clear hK K; try with_reducible dsimp only [thenA])
                  | (with_reducible refine APure.call (leave_spec _ _) ?_; try simp (disch := omega) [go_sem, *, wrap64_id, upd_ne, mk3_true, flatten_replicate_one, stepK_if, ilt_true, ilt_false, ile_true, ile_false, encLink ])
                  | (with_reducible refine APure.call (within_spec _ _ _) ?_; try simp (disch := omega) [go_sem, *, wrap64_id, upd_ne, mk3_true, flatten_replicate_one, stepK_if, ilt_true, ilt_false, ile_true, ile_false, encLink ])
                  | (refine ac_block ?_)
                  | (refine ac_skip ?_; simp only [thenA])
                  | (refine ac_exit ?_; simp only [thenA, blockA, if_true, if_false, Nat.reduceEqDiff])
                  | (with_reducible show nextK _ _ _ _ _ _ _; simp (disch := omega) [go_sem, *, wrap64_id, upd_ne, mk3_true, flatten_replicate_one, stepK_if, ilt_true, ilt_false, ile_true, ile_false, encLink ])
                  | (refine wantK_split (fun hc => ?_) (fun hc => ?_) <;> (try simp only [Bool.not_eq_true', Bool.not_eq_false', Bool.not_eq_eq_eq_not, Bool.not_true, Bool.not_false, decide_eq_true_eq, decide_eq_false_iff_not, Int.not_lt, Int.not_le] at hc) <;> (try (exfalso; omega)) <;> (try simp (disch := omega) [go_sem, *, wrap64_id, upd_ne, mk3_true, flatten_replicate_one, stepK_if, ilt_true, ilt_false, ile_true, ile_false, encLink ]))
                  | (refine ac_cond_h fun Kt Kf ht hf => ?_; simp (disch := omega) [go_sem, * ]; try (refine ⟨fun hc => ?_, fun hc => ?_⟩ <;> try (exfalso; omega))))
                refine round_end (by simp [go_sem]) ?_ ⟨k + 1, _, by omega, by omega, hnext.out hcb.out, rfl⟩ (by simp [intAt, go_sem]; omega)
                repeat (first | exact Sub.refl _ | refine Sub.upd ?_ (hb'.out _ (by omega)) _)
              · cases p2 : (leave x (at' l x.fr)).2
                · have hcb : Hide (cbStep l x = true) := by simp [Hide, cbStep, p1, p2]
                  repeat' (first
                    | (refine ac_seq_h fun K hK => ?_)
                    | (refine ac_region_h fun K hK => ?_; simp (disch := omega) [go_sem, *, wrap64_id, ilt_true, ile_true, encLink ])
                    | (refine ac_draw_h mixed (by kernel_rfl) fun K hK => ?_; simp (disch := omega) [go_sem, * ])
                    | (apply Hide.out hK; clear hK K; try with_reducible dsimp only [thenA])
                    | (apply Hide.out ht; clear ht hf Kt Kf)
                    | (apply Hide.out hf; clear ht hf Kt Kf)
                    | (clear hK K; apply Hide.out hK; clear hK K; try with_reducible dsimp only [thenA])
                    | (clear hK K; clear hK K; apply Hide.out hK; clear hK K; try with_reducible dsimp only [thenA])
                    | (with_reducible refine APure.call (leave_spec _ _) ?_; try simp (disch := omega) [go_sem, * ])
                    | (with_reducible refine APure.call (within_spec _ _ _) ?_; try simp (disch := omega) [go_sem, *, wrap64_id, upd_ne, mk3_true, flatten_replicate_one, stepK_if, ilt_true, ilt_false, ile_true, ile_false, encLink ])
                    | (refine ac_block ?_)
                    | (refine ac_skip ?_; simp only [thenA, blockA])
                    | (refine ac_exit ?_; simp only [thenA, blockA, if_true, if_false, Nat.reduceEqDiff])
                    | (with_reducible show nextK _ _ _ _ _ _ _; simp (disch := omega) [go_sem, *, wrap64_id, upd_ne, mk3_true, flatten_replicate_one, stepK_if, ilt_true, ilt_false, ile_true, ile_false, encLink ])
                    | (refine wantK_split (fun hc => ?_) (fun hc => ?_) <;> (try simp only [Bool.not_eq_true', Bool.not_eq_false', Bool.not_eq_eq_eq_not, Bool.not_true, Bool.not_false, decide_eq_true_eq, decide_eq_false_iff_not, Int.not_lt, Int.not_le] at hc) <;> (try (exfalso; omega)) <;> (try simp (disch := omega) [go_sem, *, wrap64_id, upd_ne, mk3_true, flatten_replicate_one, stepK_if, ilt_true, ilt_false, ile_true, ile_false, encLink ]))
                    | (refine ac_cond_h fun Kt Kf ht hf => ?_; simp (disch := omega) [go_sem, * ]; try (refine ⟨fun hc => ?_, fun hc => ?_⟩ <;> try (exfalso; omega))))
                  refine round_end (by simp [go_sem]) ?_ ⟨k + 1, _, by omega, by omega, hnext.out hcb.out, rfl⟩ (by simp [intAt, go_sem]; omega)
                  repeat (first | exact Sub.refl _ | refine Sub.upd ?_ (hb'.out _ (by omega)) _)
                · cases p3 : within (at' l x.to) 0 ((leave x (at' l x.fr)).1 + x.delay)
                  · have hcb : Hide (cbStep l x = false) := by simp [Hide, cbStep, p1, p2, p3]
                    repeat' (first
                      | (refine ac_seq_h fun K hK => ?_)
                      | (refine ac_region_h fun K hK => ?_; simp (disch := omega) [go_sem, *, ilt_true, ile_true, encLink ])
                      | (refine ac_draw_h mixed (by kernel_rfl) fun K hK => ?_; simp (disch := omega) [go_sem, *, wrap64_id ])
                      | (apply Hide.out hK; clear hK K; try with_reducible dsimp only [thenA])
                      | (apply Hide.out ht; clear ht hf Kt Kf)
                      | (apply Hide.out hf; clear ht hf Kt Kf)
                      | (clear hK K; apply Hide.out hK; clear hK K; try with_reducible dsimp only [thenA])
                      | (clear hK K; clear hK K; apply Hide.out hK; clear hK K; try with_reducible dsimp only [thenA])
                      | (with_reducible refine APure.call (leave_spec _ _) ?_; try simp (disch := omega) [go_sem, * ])
                      | (with_reducible refine APure.call (within_spec _ _ _) ?_; try simp (disch := omega) [go_sem, * ])
                      | (refine ac_block ?_)
                      | (refine ac_skip ?_; simp only [thenA])
                      | (refine ac_exit ?_; simp only [thenA, blockA, if_true, if_false, Nat.reduceEqDiff])
                      | (with_reducible show nextK _ _ _ _ _ _ _; simp (disch := omega) [go_sem, *, wrap64_id, upd_ne, mk3_true, flatten_replicate_one, stepK_if, ilt_true, ilt_false, ile_true, ile_false, encLink ])
                      | (refine wantK_split (fun hc => ?_) (fun hc => ?_) <;> (try simp only [Bool.not_eq_true', Bool.not_eq_false', Bool.not_eq_eq_eq_not, Bool.not_true, Bool.not_false, decide_eq_true_eq, decide_eq_false_iff_not, Int.not_lt, Int.not_le] at hc) <;> (try (exfalso; omega)) <;> (try simp (disch := omega) [go_sem, *, wrap64_id, upd_ne, mk3_true, flatten_replicate_one, stepK_if, ilt_true, ilt_false, ile_true, ile_false, encLink ]))
                      | (refine ac_cond_h fun Kt Kf ht hf => ?_; simp (disch := omega) [go_sem, * ]; try (refine ⟨fun hc => ?_, fun hc => ?_⟩ <;> try (exfalso; omega))))
                    (refine ac_ret ?_; try dsimp only [thenA, blockA]; refine ⟨by simp, _, (by first | rfl | (simp (disch := omega) [go_sem, upd_ne] <;> rfl)), ?_⟩; refine ret_id ⟨fun k hk => (by first | rfl | (repeat rw [upd_ne _ _ _ _ (by omega)])), (by simp [go_sem, below]), (by simp [go_sem, hE, hR.out, hS.out k x hxk.out hcb.out] <;> omega), by simp, by simp⟩)
                  · have hcb : Hide (cbStep l x = true) := by simp [Hide, cbStep, p1, p2, p3]
                    repeat' (first
                      | (refine ac_seq_h fun K hK => ?_)
                      | (refine ac_region_h fun K hK => ?_; simp (disch := omega) [go_sem, *, wrap64_id, ilt_true, ile_true, encLink ])
                      | (refine ac_draw_h mixed (by kernel_rfl) fun K hK => ?_; simp (disch := omega) [go_sem, *, wrap64_id ])
                      | (apply Hide.out hK; clear hK K; try with_reducible dsimp only [thenA])
                      | (apply Hide.out ht; clear ht hf Kt Kf)
                      | (apply Hide.out hf; clear ht hf Kt Kf)
                      | (clear hK K; apply Hide.out hK; clear hK K; try with_reducible dsimp only [thenA])
                      | (clear hK K; clear hK K; apply Hide.out hK; clear hK K; try with_reducible dsimp only [thenA])
                      | (with_reducible refine APure.call (leave_spec _ _) ?_; try simp (disch := omega) [go_sem, * ])
                      | (with_reducible refine APure.call (within_spec _ _ _) ?_; try simp (disch := omega) [go_sem, * ])
                      | (refine ac_block ?_)
                      | (refine ac_skip ?_; simp only [thenA, blockA])
                      | (refine ac_exit ?_; simp only [thenA, blockA, if_true, if_false, Nat.reduceEqDiff])
                      | (with_reducible show nextK _ _ _ _ _ _ _; simp (disch := omega) [go_sem, *, wrap64_id, upd_ne, mk3_true, flatten_replicate_one, stepK_if, ilt_true, ilt_false, ile_true, ile_false, encLink ])
                      | (refine wantK_split (fun hc => ?_) (fun hc => ?_) <;> (try simp only [Bool.not_eq_true', Bool.not_eq_false', Bool.not_eq_eq_eq_not, Bool.not_true, Bool.not_false, decide_eq_true_eq, decide_eq_false_iff_not, Int.not_lt, Int.not_le] at hc) <;> (try (exfalso; omega)) <;> (try simp (disch := omega) [go_sem, *, wrap64_id, upd_ne, mk3_true, flatten_replicate_one, stepK_if, ilt_true, ilt_false, ile_true, ile_false, encLink ]))
                      | (refine ac_cond_h fun Kt Kf ht hf => ?_; simp (disch := omega) [go_sem, * ]; try (refine ⟨fun hc => ?_, fun hc => ?_⟩ <;> try (exfalso; omega))))
                    refine round_end (by simp [go_sem]) ?_ ⟨k + 1, _, by omega, by omega, hnext.out hcb.out, rfl⟩ (by simp [intAt, go_sem]; omega)
                    repeat (first | exact Sub.refl _ | refine Sub.upd ?_ (hb'.out _ (by omega)) _)
            · have hkl : k = N.links.length := by omega
              have hE0 : Hide (cbE N s t l = 0) := hA.out (by rw [← hkl]; exact hgo.out)
              repeat' (first
                | (refine ac_seq_h fun K hK => ?_)
                | (refine ac_region_h fun K hK => ?_; simp (disch := omega) [go_sem, *])
                | (refine ac_draw_h mixed (by kernel_rfl) fun K hK => ?_; simp (disch := omega) [go_sem, *, wrap64_id, upd_ne, mk3_true, flatten_replicate_one, stepK_if, ilt_true, ilt_false, ile_true, ile_false])
                | (apply Hide.out hK; clear hK K; try with_reducible dsimp only [thenA])
                | (apply Hide.out ht; clear ht hf Kt Kf)
                | (apply Hide.out hf; clear ht hf Kt Kf)
                | (clear hK K; apply Hide.out hK; clear hK K; try with_reducible dsimp only [thenA])
                | (clear hK K; clear hK K; apply Hide.out hK; clear hK K; try with_reducible dsimp only [thenA])
                | (refine ac_block ?_)
                | (refine ac_skip ?_; simp only [thenA, blockA])
                | (refine ac_exit ?_; simp only [thenA, blockA, if_true])
                | (with_reducible show nextK _ _ _ _ _ _ _; simp (disch := omega) [go_sem, *, wrap64_id, upd_ne, mk3_true, flatten_replicate_one, stepK_if, ilt_true, ilt_false, ile_true, ile_false])
                | (refine wantK_split (fun hc => ?_) (fun hc => ?_) <;> (try simp only [Bool.not_eq_true', Bool.not_eq_false', Bool.not_eq_eq_eq_not, Bool.not_true, Bool.not_false, decide_eq_true_eq, decide_eq_false_iff_not, Int.not_lt, Int.not_le] at hc) <;> (try (exfalso; omega)) <;> (try simp (disch := omega) [go_sem, *, wrap64_id, upd_ne, mk3_true, flatten_replicate_one, stepK_if, ilt_true, ilt_false, ile_true, ile_false]))
                | (refine ac_cond_h fun Kt Kf ht hf => ?_; simp (disch := omega) [go_sem, *]; try (refine ⟨fun hc => ?_, fun hc => ?_⟩ <;> try (exfalso; omega))))
              (refine ac_ret ?_; try dsimp only [thenA, blockA]; refine ⟨by simp, _, (by first | rfl | (simp (disch := omega) [go_sem, upd_ne] <;> rfl)), ?_⟩; refine ret_id ⟨fun k hk => (by first | rfl | (repeat rw [upd_ne _ _ _ _ (by omega)])), (by simp [go_sem, below]), (by simp [go_sem, hE, hR.out, hE0.out] <;> omega), by simp, by simp⟩)
      · skip
        repeat' (first
          | (refine ac_seq_h fun K hK => ?_)
          | (refine ac_region_h fun K hK => ?_; simp (disch := omega) [go_sem, *, Try.ntmps27 ])
          | (refine ac_draw_h mixed (by kernel_rfl) fun K hK => ?_; simp (disch := omega) [go_sem, *, wrap64_id, upd_ne, mk3_true, flatten_replicate_one, stepK_if, ilt_true, ilt_false, ile_true, ile_false, Try.ntmps27 ])
          | (apply Hide.out hK; clear hK K; try with_reducible dsimp only [thenA])
          | (apply Hide.out ht; clear ht hf Kt Kf)
          | (apply Hide.out hf; clear ht hf Kt Kf)
          | (clear hK K; apply Hide.out hK; clear hK K; try with_reducible dsimp only [thenA])
          | (clear hK K; clear hK K; apply Hide.out hK; clear hK K; try with_reducible dsimp only [thenA])
          | (with_reducible refine APure.call (hasked) ?_; try simp (disch := omega) [go_sem, * ])
          | (with_reducible refine APureAt.call (contains_spec 50 [] nl l (fun m => !within m (-1) 1048576) _ _ hl (fun x n' _ => boundf_spec x _ n')) ?_; try simp (disch := omega) [go_sem, * ])
          | (with_reducible refine APure.call (within_spec _ _ _) ?_; try simp (disch := omega) [go_sem, *, wrap64_id, upd_ne, mk3_true, flatten_replicate_one, stepK_if, ilt_true, ilt_false, ile_true, ile_false, Try.ntmps27 ])
          | (refine ac_block ?_)
          | (refine ac_skip ?_; simp only [thenA])
          | (refine ac_exit ?_; simp only [thenA, blockA, if_true, if_false, Nat.reduceEqDiff])
          | (with_reducible show nextK _ _ _ _ _ _ _; simp (disch := omega) [go_sem, *, wrap64_id, upd_ne, mk3_true, flatten_replicate_one, stepK_if, ilt_true, ilt_false, ile_true, ile_false, Try.ntmps27 ])
          | (refine wantK_split (fun hc => ?_) (fun hc => ?_) <;> (try simp only [Bool.not_eq_true', Bool.not_eq_false', Bool.not_eq_eq_eq_not, Bool.not_true, Bool.not_false, decide_eq_true_eq, decide_eq_false_iff_not, Int.not_lt, Int.not_le] at hc) <;> (try (exfalso; omega)) <;> (try simp (disch := omega) [go_sem, *, wrap64_id, upd_ne, mk3_true, flatten_replicate_one, stepK_if, ilt_true, ilt_false, ile_true, ile_false, Try.ntmps27 ]))
          | (refine ac_cond_h fun Kt Kf ht hf => ?_; simp (disch := omega) [go_sem, * ]; try (refine ⟨fun hc => ?_, fun hc => ?_⟩ <;> try (exfalso; omega))))
        (refine ac_ret ?_; try dsimp only [thenA, blockA]; refine ⟨by simp, _, (by first | rfl | (simp (disch := omega) [go_sem, upd_ne] <;> rfl)), ?_⟩; refine ret_id ⟨fun k hk => (by first | rfl | (repeat rw [upd_ne _ _ _ _ (by omega)])), (by simp [go_sem, below]), (by simp [go_sem, hE, checkBounds, cbE, h1, h2] <;> omega), by simp, by simp⟩)
    · have h1' : ((l.length : Int) != N.st) = true := by simpa using h1
      repeat' (first
        | (refine ac_seq_h fun K hK => ?_)
        | (refine ac_region_h fun K hK => ?_; simp (disch := omega) [go_sem, *, Try.ntmps27 ])
        | (refine ac_draw_h mixed (by kernel_rfl) fun K hK => ?_; simp (disch := omega) [go_sem, *, wrap64_id, upd_ne, mk3_true, flatten_replicate_one, stepK_if, ilt_true, ilt_false, ile_true, ile_false, Try.ntmps27 ])
        | (apply Hide.out hK; clear hK K; try with_reducible dsimp only [thenA])
        | (apply Hide.out ht; clear ht hf Kt Kf)
        | (apply Hide.out hf; clear ht hf Kt Kf)
        | (clear hK K; apply Hide.out hK; clear hK K; try with_reducible dsimp only [thenA])
        | (clear hK K; clear hK K; apply Hide.out hK; clear hK K; try with_reducible dsimp only [thenA])
        | (with_reducible refine APure.call (hasked) ?_; try simp (disch := omega) [go_sem, * ])
        | (refine ac_block ?_)
        | (refine ac_skip ?_; simp only [thenA])
        | (refine ac_exit ?_; simp only [thenA, blockA, if_true, if_false, Nat.reduceEqDiff])
        | (with_reducible show nextK _ _ _ _ _ _ _; simp (disch := omega) [go_sem, *, wrap64_id, upd_ne, mk3_true, flatten_replicate_one, stepK_if, ilt_true, ilt_false, ile_true, ile_false, Try.ntmps27 ])
        | (refine wantK_split (fun hc => ?_) (fun hc => ?_) <;> (try simp only [Bool.not_eq_true', Bool.not_eq_false', Bool.not_eq_eq_eq_not, Bool.not_true, Bool.not_false, decide_eq_true_eq, decide_eq_false_iff_not, Int.not_lt, Int.not_le] at hc) <;> (try (exfalso; omega)) <;> (try simp (disch := omega) [go_sem, *, wrap64_id, upd_ne, mk3_true, flatten_replicate_one, stepK_if, ilt_true, ilt_false, ile_true, ile_false, Try.ntmps27 ]))
        | (refine ac_cond_h fun Kt Kf ht hf => ?_; simp (disch := omega) [go_sem, * ]; try (refine ⟨fun hc => ?_, fun hc => ?_⟩ <;> try (exfalso; omega))))
      (refine ac_ret ?_; try dsimp only [thenA, blockA]; refine ⟨by simp, _, (by first | rfl | (simp (disch := omega) [go_sem, upd_ne] <;> rfl)), ?_⟩; refine ret_id ⟨fun k hk => (by first | rfl | (repeat rw [upd_ne _ _ _ _ (by omega)])), (by simp [go_sem, below]), (by simp [go_sem, hE, checkBounds, cbE, h1] <;> omega), by simp, by simp⟩)
  · skip
    repeat' (first
      | (refine ac_seq_h fun K hK => ?_)
      | (refine ac_region_h fun K hK => ?_; simp (disch := omega) [go_sem, *, Try.ntmps27 ])
      | (refine ac_draw_h mixed (by kernel_rfl) fun K hK => ?_; simp (disch := omega) [go_sem, *, wrap64_id, upd_ne, mk3_true, flatten_replicate_one, stepK_if, ilt_true, ilt_false, ile_true, ile_false, Try.ntmps27 ])
      | (apply Hide.out hK; clear hK K; try with_reducible dsimp only [thenA])
      | (apply Hide.out ht; clear ht hf Kt Kf)
      | (apply Hide.out hf; clear ht hf Kt Kf)
      | (clear hK K; apply Hide.out hK; clear hK K; try with_reducible dsimp only [thenA])
      | (clear hK K; clear hK K; apply Hide.out hK; clear hK K; try with_reducible dsimp only [thenA])
      | (with_reducible refine APure.call (hasked) ?_; try simp (disch := omega) [go_sem, * ])
      | (refine ac_block ?_)
      | (refine ac_skip ?_; simp only [thenA, blockA])
      | (refine ac_exit ?_; simp only [thenA, blockA, if_true, if_false, Nat.reduceEqDiff])
      | (with_reducible show nextK _ _ _ _ _ _ _; simp (disch := omega) [go_sem, *, wrap64_id, upd_ne, mk3_true, flatten_replicate_one, stepK_if, ilt_true, ilt_false, ile_true, ile_false, Try.ntmps27 ])
      | (refine wantK_split (fun hc => ?_) (fun hc => ?_) <;> (try simp only [Bool.not_eq_true', Bool.not_eq_false', Bool.not_eq_eq_eq_not, Bool.not_true, Bool.not_false, decide_eq_true_eq, decide_eq_false_iff_not, Int.not_lt, Int.not_le] at hc) <;> (try (exfalso; omega)) <;> (try simp (disch := omega) [go_sem, *, wrap64_id, upd_ne, mk3_true, flatten_replicate_one, stepK_if, ilt_true, ilt_false, ile_true, ile_false, Try.ntmps27 ]))
      | (refine ac_cond_h fun Kt Kf ht hf => ?_; simp (disch := omega) [go_sem, * ]; try (refine ⟨fun hc => ?_, fun hc => ?_⟩ <;> try (exfalso; omega))))
    (refine ac_ret ?_; try dsimp only [thenA, blockA]; refine ⟨by simp, _, (by first | rfl | (simp (disch := omega) [go_sem, upd_ne] <;> rfl)), ?_⟩; refine ret_id ⟨fun k hk => (by first | rfl | (repeat rw [upd_ne _ _ _ _ (by omega)])), (by simp [go_sem, below]), (by simp [go_sem, hE, checkBounds] <;> omega), by simp, by simp⟩)
end Go.AM

namespace Go.AM
open Go.Proofs Nets
set_option maxRecDepth 10000
set_option maxHeartbeats 4000000
theorem cbE_any {N : Net} {s t : Int} {l : List Int} (h1 : (l.length : Int) = N.st) {k : Nat} {x : Int} (hx : l[k]? = some x) (h : within x (-1) 1048576 = false) : cbE N s t l = 8 := by
  unfold cbE
  rw [if_neg (by simpa using h1), if_pos]
  exact List.any_eq_true.2 ⟨x, List.mem_of_getElem? hx, by rw [h]; rfl⟩
theorem checkBounds_ref (N : Net) (s t : Int) (nl : Bool) (l : List Int) (hl : l.length < 1000000) :
    APure Try.prog 28 [encNet N, iv .i64 s, iv .i64 t, ints nl l] (iv .i64 (checkBounds N s t (askedE N t [s]) l)) := by
  intro h n
  refine ACalls.pure (ACalls.entry (by kernel_rfl) fun hb _ => calls_of Try.func28 rfl (by kernel_rfl) (by simp [Try.ntmps28]) ?_)
  by_cases hE : askedE N t [s] = 0
  · obtain ⟨hC, hs, ht1, ht2⟩ := asked_zero hE
    obtain ⟨hs1, hs2⟩ := hs s (by simp)
    obtain ⟨s1, s2, hll, hok⟩ := checkE_ok hC
    replace hok : Hide _ := hok
    clear hs hC
    have hR : checkBounds N s t 0 l = cbE N s t l := by simp [checkBounds]
    replace hR : Hide _ := hR
    by_cases h1 : (l.length : Int) = N.st
    · have h1' : ((l.length : Int) != N.st) = false := by simpa using h1
      replace h1 : Hide _ := h1
      have hl2 : (l.length : Int) ≤ 10 := by have := h1.out; omega
      repeat' (first
        | (refine ac_seq_h fun K hK => ?_)
        | (refine ac_region_h fun K hK => ?_; simp (disch := omega) [go_sem, *, Try.ntmps28 ])
        | (refine ac_draw_h mixed (by kernel_rfl) fun K hK => ?_; simp (disch := omega) [go_sem, *, wrap64_id, upd_ne, mk3_true, flatten_replicate_one, stepK_if, ilt_true, ilt_false, ile_true, ile_false, Try.ntmps28 ])
        | (apply Hide.out hK; clear hK K; try with_reducible dsimp only [thenA])
        | (apply Hide.out ht; clear ht hf Kt Kf)
        | (apply Hide.out hf; clear ht hf Kt Kf)
        | (clear hK K; apply Hide.out hK; clear hK K; try with_reducible dsimp only [thenA])
        | (clear hK K; clear hK K; apply Hide.out hK; clear hK K; try with_reducible dsimp only [thenA])
        | (with_reducible refine APure.call (asked_ref _ _ _) ?_; try simp (disch := omega) [go_sem, * ])
        | (refine ac_block ?_)
        | (refine ac_skip ?_; simp only [thenA])
        | (refine ac_exit ?_; simp only [thenA, blockA, if_true, if_false, Nat.reduceEqDiff])
        | (with_reducible show nextK _ _ _ _ _ _ _; simp (disch := omega) [go_sem, *, wrap64_id, upd_ne, mk3_true, flatten_replicate_one, stepK_if, ilt_true, ilt_false, ile_true, ile_false, Try.ntmps28 ])
        | (refine wantK_split (fun hc => ?_) (fun hc => ?_) <;> (try simp only [Bool.not_eq_true', Bool.not_eq_false', Bool.not_eq_eq_eq_not, Bool.not_true, Bool.not_false, decide_eq_true_eq, decide_eq_false_iff_not, Int.not_lt, Int.not_le] at hc) <;> (try (exfalso; omega)) <;> (try simp (disch := omega) [go_sem, *, wrap64_id, upd_ne, mk3_true, flatten_replicate_one, stepK_if, ilt_true, ilt_false, ile_true, ile_false, Try.ntmps28 ]))
        | (refine ac_cond_h fun Kt Kf ht hf => ?_; simp (disch := omega) [go_sem, * ]; try (refine ⟨fun hc => ?_, fun hc => ?_⟩ <;> try (exfalso; omega))))
      refine ac_loop_wk (fun s' => ∃ (k n' : Nat), n < n' ∧ k ≤ l.length ∧ Hide (∀ j x, j < k → l[j]? = some x → within x (-1) 1048576 = true) ∧ s' = ⟨103, [(1, iv .i64 s), (2, iv .i64 t), (3, ints nl l), (4, .ptr n 0), (10, iv .i64 k)], h.upd n (some (cellsNet N)), n'⟩)
        (fun s => l.length - (intAt s 10).toNat) ?_ ?_
      · exact loop_start (by simp [go_sem]) (Sub.refl _) ⟨0, _, by omega, by omega, fun j x hj => by omega, rfl⟩
      · rintro s' ⟨k, n', hn', hk, hgo, rfl⟩
        have hb' : NB (h.upd n (some (cellsNet N))) n' := hb.nb.upd hn' (by omega)
        replace hb' : Hide _ := hb'
        by_cases hlt : k < l.length
        · obtain ⟨x, hx1, hx2, hx3⟩ := at_k hlt
          have hxk : Hide (l[k]? = some x) := hx2
          clear hx3
          have hnext : Hide (within x (-1) 1048576 = true → ∀ j y, j < k + 1 → l[j]? = some y → within y (-1) 1048576 = true) := fun hc j y hj hy => by
            rcases Nat.lt_or_ge j k with h' | h'
            · exact hgo.out j y h' hy
            · obtain rfl : j = k := by omega
              rw [hxk.out] at hy; cases hy; exact hc
          cases hw : within x (-1) 1048576
          · skip
            repeat' (first
              | (refine ac_seq_h fun K hK => ?_)
              | (refine ac_region_h fun K hK => ?_; simp (disch := omega) [go_sem, *, ilt_true, ile_true])
              | (refine ac_draw_h mixed (by kernel_rfl) fun K hK => ?_; simp (disch := omega) [go_sem, *, wrap64_id, upd_ne, mk3_true, flatten_replicate_one, stepK_if, ilt_true, ilt_false, ile_true, ile_false])
              | (apply Hide.out hK; clear hK K; try with_reducible dsimp only [thenA])
              | (apply Hide.out ht; clear ht hf Kt Kf)
              | (apply Hide.out hf; clear ht hf Kt Kf)
              | (clear hK K; apply Hide.out hK; clear hK K; try with_reducible dsimp only [thenA])
              | (clear hK K; clear hK K; apply Hide.out hK; clear hK K; try with_reducible dsimp only [thenA])
              | (with_reducible refine APure.call (within_ref _ _ _) ?_; try simp (disch := omega) [go_sem, *])
              | (refine ac_block ?_)
              | (refine ac_skip ?_; simp only [thenA])
              | (refine ac_exit ?_; simp only [thenA, blockA, if_true, if_false, Nat.reduceEqDiff])
              | (with_reducible show nextK _ _ _ _ _ _ _; simp (disch := omega) [go_sem, *, wrap64_id, upd_ne, mk3_true, flatten_replicate_one, stepK_if, ilt_true, ilt_false, ile_true, ile_false])
              | (refine wantK_split (fun hc => ?_) (fun hc => ?_) <;> (try simp only [Bool.not_eq_true', Bool.not_eq_false', Bool.not_eq_eq_eq_not, Bool.not_true, Bool.not_false, decide_eq_true_eq, decide_eq_false_iff_not, Int.not_lt, Int.not_le] at hc) <;> (try (exfalso; omega)) <;> (try simp (disch := omega) [go_sem, *, wrap64_id, upd_ne, mk3_true, flatten_replicate_one, stepK_if, ilt_true, ilt_false, ile_true, ile_false]))
              | (refine ac_cond_h fun Kt Kf ht hf => ?_; simp (disch := omega) [go_sem, *]; try (refine ⟨fun hc => ?_, fun hc => ?_⟩ <;> try (exfalso; omega))))
            (refine ac_ret ?_; try dsimp only [thenA, blockA]; refine ⟨by simp, _, (by first | rfl | (simp (disch := omega) [go_sem, upd_ne] <;> rfl)), ?_⟩; refine ret_id ⟨fun k hk => (by first | rfl | (repeat rw [upd_ne _ _ _ _ (by omega)])), (by simp [go_sem, below]), (by simp [go_sem, hE, hR.out, cbE_any h1.out hxk.out hw] <;> omega), by simp, by simp⟩)
          · have hw' : Hide (within x (-1) 1048576 = true) := hw
            repeat' (first
              | (refine ac_seq_h fun K hK => ?_)
              | (refine ac_region_h fun K hK => ?_; simp (disch := omega) [go_sem, *, wrap64_id, ilt_true, ile_true])
              | (refine ac_draw_h mixed (by kernel_rfl) fun K hK => ?_; simp (disch := omega) [go_sem, *, wrap64_id, upd_ne, mk3_true, flatten_replicate_one, stepK_if, ilt_true, ilt_false, ile_true, ile_false])
              | (apply Hide.out hK; clear hK K; try with_reducible dsimp only [thenA])
              | (apply Hide.out ht; clear ht hf Kt Kf)
              | (apply Hide.out hf; clear ht hf Kt Kf)
              | (clear hK K; apply Hide.out hK; clear hK K; try with_reducible dsimp only [thenA])
              | (clear hK K; clear hK K; apply Hide.out hK; clear hK K; try with_reducible dsimp only [thenA])
              | (with_reducible refine APure.call (within_ref _ _ _) ?_; try simp (disch := omega) [go_sem, *])
              | (refine ac_block ?_)
              | (refine ac_skip ?_; simp only [thenA, blockA])
              | (refine ac_exit ?_; simp only [thenA, blockA, if_true, if_false, Nat.reduceEqDiff])
              | (with_reducible show nextK _ _ _ _ _ _ _; simp (disch := omega) [go_sem, *, wrap64_id, upd_ne, mk3_true, flatten_replicate_one, stepK_if, ilt_true, ilt_false, ile_true, ile_false])
              | (refine wantK_split (fun hc => ?_) (fun hc => ?_) <;> (try simp only [Bool.not_eq_true', Bool.not_eq_false', Bool.not_eq_eq_eq_not, Bool.not_true, Bool.not_false, decide_eq_true_eq, decide_eq_false_iff_not, Int.not_lt, Int.not_le] at hc) <;> (try (exfalso; omega)) <;> (try simp (disch := omega) [go_sem, *, wrap64_id, upd_ne, mk3_true, flatten_replicate_one, stepK_if, ilt_true, ilt_false, ile_true, ile_false]))
              | (refine ac_cond_h fun Kt Kf ht hf => ?_; simp (disch := omega) [go_sem, *]; try (refine ⟨fun hc => ?_, fun hc => ?_⟩ <;> try (exfalso; omega))))
            exact round_end (by simp [go_sem]) (Sub.refl _) ⟨k + 1, _, by omega, by omega, hnext.out hw'.out, rfl⟩ (by simp [intAt, go_sem]; omega)
        · have h2 : l.any (fun m => !within m (-1) 1048576) = false := List.any_eq_false.2 fun x hx => by
            obtain ⟨j, hj⟩ := List.getElem?_of_mem hx
            rw [hgo.out j x (by have := (List.getElem?_eq_some_iff.1 hj).1; omega) hj]; simp
          have hV := vals_of_any h2
          replace hV : Hide _ := hV
          have hsl : s.toNat < l.length := by have := h1.out; omega
          have hg := at_get' (o := l) s
          have hgs := at_get hs1 (show s < (l.length : Int) by have := h1.out; omega)
          clear hgo
          have hS := fun h3 k x hx h => cbE_step (N := N) (s := s) (t := t) (k := k) (x := x) h1.out h2 h3 hx h
          have hA := cbE_all (N := N) (s := s) (t := t) h1.out h2
          replace hS : Hide _ := hS
          replace hA : Hide _ := hA
          replace h2 : Hide _ := h2
          cases h3 : within (at' l s) 0 t
          · have e3 : at' l s < 0 ∨ t < at' l s := by simp [within] at h3; omega
            have hE8 : Hide (cbE N s t l = 8) := by
              rw [Hide, cbE, if_neg (by simpa using h1.out), if_neg (by rw [h2.out]; simp), if_pos h3]
            by_cases c1 : at' l s < 0
            · skip
              repeat' (first
                | (refine ac_seq_h fun K hK => ?_)
                | (refine ac_region_h fun K hK => ?_; simp (disch := omega) [go_sem, *, ilt_false])
                | (refine ac_draw_h mixed (by kernel_rfl) fun K hK => ?_; simp (disch := omega) [go_sem, *, wrap64_id, upd_ne, mk3_true, flatten_replicate_one, stepK_if, ilt_true, ilt_false, ile_true, ile_false])
                | (apply Hide.out hK; clear hK K; try with_reducible dsimp only [thenA])
                | (apply Hide.out ht; clear ht hf Kt Kf)
                | (apply Hide.out hf; clear ht hf Kt Kf)
                | (clear hK K; apply Hide.out hK; clear hK K; try with_reducible dsimp only [thenA])
                | (clear hK K; clear hK K; apply Hide.out hK; clear hK K; try with_reducible dsimp only [thenA])
                | (refine ac_block ?_)
                | (refine ac_skip ?_; simp only [thenA, blockA])
                | (refine ac_exit ?_; simp only [thenA, blockA, if_true])
                | (with_reducible show nextK _ _ _ _ _ _ _; simp (disch := omega) [go_sem, *, wrap64_id, upd_ne, mk3_true, flatten_replicate_one, stepK_if, ilt_true, ilt_false, ile_true, ile_false])
                | (refine wantK_split (fun hc => ?_) (fun hc => ?_) <;> (try simp only [Bool.not_eq_true', Bool.not_eq_false', Bool.not_eq_eq_eq_not, Bool.not_true, Bool.not_false, decide_eq_true_eq, decide_eq_false_iff_not, Int.not_lt, Int.not_le] at hc) <;> (try (exfalso; omega)) <;> (try simp (disch := omega) [go_sem, *, wrap64_id, upd_ne, mk3_true, flatten_replicate_one, stepK_if, ilt_true, ilt_false, ile_true, ile_false]))
                | (refine ac_cond_h fun Kt Kf ht hf => ?_; simp (disch := omega) [go_sem, *]; try (refine ⟨fun hc => ?_, fun hc => ?_⟩ <;> try (exfalso; omega))))
              (refine ac_ret ?_; try dsimp only [thenA, blockA]; refine ⟨by simp, _, (by first | rfl | (simp (disch := omega) [go_sem, upd_ne] <;> rfl)), ?_⟩; refine ret_id ⟨fun k hk => (by first | rfl | (repeat rw [upd_ne _ _ _ _ (by omega)])), (by simp [go_sem, below]), (by simp [go_sem, hE, hR.out, hE8.out] <;> omega), by simp, by simp⟩)
            · have c2 : t < at' l s := by omega
              repeat' (first
                | (refine ac_seq_h fun K hK => ?_)
                | (refine ac_region_h fun K hK => ?_; simp (disch := omega) [go_sem, *, ilt_false])
                | (refine ac_draw_h mixed (by kernel_rfl) fun K hK => ?_; simp (disch := omega) [go_sem, *, wrap64_id, upd_ne, mk3_true, flatten_replicate_one, stepK_if, ilt_true, ilt_false, ile_true, ile_false])
                | (apply Hide.out hK; clear hK K; try with_reducible dsimp only [thenA])
                | (apply Hide.out ht; clear ht hf Kt Kf)
                | (apply Hide.out hf; clear ht hf Kt Kf)
                | (clear hK K; apply Hide.out hK; clear hK K; try with_reducible dsimp only [thenA])
                | (clear hK K; clear hK K; apply Hide.out hK; clear hK K; try with_reducible dsimp only [thenA])
                | (refine ac_block ?_)
                | (refine ac_skip ?_; simp only [thenA, blockA])
                | (refine ac_exit ?_; simp only [thenA, blockA, if_true])
                | (with_reducible show nextK _ _ _ _ _ _ _; simp (disch := omega) [go_sem, *, wrap64_id, upd_ne, mk3_true, flatten_replicate_one, stepK_if, ilt_true, ilt_false, ile_true, ile_false])
                | (refine wantK_split (fun hc => ?_) (fun hc => ?_) <;> (try simp only [Bool.not_eq_true', Bool.not_eq_false', Bool.not_eq_eq_eq_not, Bool.not_true, Bool.not_false, decide_eq_true_eq, decide_eq_false_iff_not, Int.not_lt, Int.not_le] at hc) <;> (try (exfalso; omega)) <;> (try simp (disch := omega) [go_sem, *, wrap64_id, upd_ne, mk3_true, flatten_replicate_one, stepK_if, ilt_true, ilt_false, ile_true, ile_false]))
                | (refine ac_cond_h fun Kt Kf ht hf => ?_; simp (disch := omega) [go_sem, *]; try (refine ⟨fun hc => ?_, fun hc => ?_⟩ <;> try (exfalso; omega))))
              (refine ac_ret ?_; try dsimp only [thenA, blockA]; refine ⟨by simp, _, (by first | rfl | (simp (disch := omega) [go_sem, upd_ne] <;> rfl)), ?_⟩; refine ret_id ⟨fun k hk => (by first | rfl | (repeat rw [upd_ne _ _ _ _ (by omega)])), (by simp [go_sem, below]), (by simp [go_sem, hE, hR.out, hE8.out] <;> omega), by simp, by simp⟩)
          · have e3 : 0 ≤ at' l s ∧ at' l s ≤ t := by simpa [within] using h3
            replace h3 : Hide _ := h3
            repeat' (first
              | (refine ac_seq_h fun K hK => ?_)
              | (refine ac_region_h fun K hK => ?_; simp (disch := omega) [go_sem, *, ilt_false])
              | (refine ac_draw_h mixed (by kernel_rfl) fun K hK => ?_; simp (disch := omega) [go_sem, *, wrap64_id, upd_ne, mk3_true, flatten_replicate_one, stepK_if, ilt_true, ilt_false, ile_true, ile_false])
              | (apply Hide.out hK; clear hK K; try with_reducible dsimp only [thenA])
              | (apply Hide.out ht; clear ht hf Kt Kf)
              | (apply Hide.out hf; clear ht hf Kt Kf)
              | (clear hK K; apply Hide.out hK; clear hK K; try with_reducible dsimp only [thenA])
              | (clear hK K; clear hK K; apply Hide.out hK; clear hK K; try with_reducible dsimp only [thenA])
              | (refine ac_block ?_)
              | (refine ac_skip ?_; simp only [thenA])
              | (refine ac_exit ?_; simp only [thenA, blockA, if_true])
              | (with_reducible show nextK _ _ _ _ _ _ _; simp (disch := omega) [go_sem, *, wrap64_id, upd_ne, mk3_true, flatten_replicate_one, stepK_if, ilt_true, ilt_false, ile_true, ile_false])
              | (refine wantK_split (fun hc => ?_) (fun hc => ?_) <;> (try simp only [Bool.not_eq_true', Bool.not_eq_false', Bool.not_eq_eq_eq_not, Bool.not_true, Bool.not_false, decide_eq_true_eq, decide_eq_false_iff_not, Int.not_lt, Int.not_le] at hc) <;> (try (exfalso; omega)) <;> (try simp (disch := omega) [go_sem, *, wrap64_id, upd_ne, mk3_true, flatten_replicate_one, stepK_if, ilt_true, ilt_false, ile_true, ile_false]))
              | (refine ac_cond_h fun Kt Kf ht hf => ?_; simp (disch := omega) [go_sem, *]; try (refine ⟨fun hc => ?_, fun hc => ?_⟩ <;> try (exfalso; omega))))
            refine ac_loop_wk (fun s' => ∃ (k n' : Nat), n < n' ∧ k ≤ N.links.length ∧ Hide (∀ j x, j < k → N.links[j]? = some x → cbStep l x = true) ∧ s' = ⟨103, [(3, ints nl l), (4, .ptr n 0), (12, iv .i64 k)], h.upd n (some (cellsNet N)), n'⟩)
              (fun s => N.links.length - (intAt s 12).toNat) ?_ ?_
            · exact loop_start (by simp [go_sem]) (Sub.refl _) ⟨0, _, by omega, by omega, fun j x hj => by omega, rfl⟩
            · clear hn' hk hb' hlt
              rintro s' ⟨k, n', hn', hk, hgo, rfl⟩
              have hb' : NB (h.upd n (some (cellsNet N))) n' := hb.nb.upd hn' (by omega)
              replace hb' : Hide _ := hb'
              by_cases hlt : k < N.links.length
              · obtain ⟨x, hx1, hx2, hx3⟩ := at_k hlt
                obtain ⟨x1, x2, x3, x4, x5, x6⟩ := hok.out x (List.mem_of_getElem? hx2)
                have hle := h1.out
                have hv1 := at_get x1 (show x.fr < (l.length : Int) by omega)
                have hv2 := at_get x3 (show x.to < (l.length : Int) by omega)
                have hl3 : x.fr.toNat < l.length ∧ x.to.toNat < l.length := by omega
                clear hle
                have hg1 := at_get' (o := l) x.fr
                have hg2 := at_get' (o := l) x.to
                have hlr := leave_range x6 (at' l x.fr)
                have hdl := (right_spans x6).1
                have hxk : Hide (N.links[k]? = some x) := hx2
                clear hx3
                have hnext : Hide (cbStep l x = true → ∀ j y, j < k + 1 → N.links[j]? = some y → cbStep l y = true) := fun hc j y hj hy => by
                  rcases Nat.lt_or_ge j k with h' | h'
                  · exact hgo.out j y h' hy
                  · obtain rfl : j = k := by omega
                    rw [hxk.out] at hy; cases hy; exact hc
                by_cases p1 : at' l x.fr < 0
                · have hcb : Hide (cbStep l x = true) := by simp [Hide, cbStep, p1]
                  repeat' (first
                    | (refine ac_seq_h fun K hK => ?_)
                    | (refine ac_region_h fun K hK => ?_; simp (disch := omega) [go_sem, *, wrap64_id, ilt_true, ile_true, encLink ])
                    | (refine ac_draw_h mixed (by kernel_rfl) fun K hK => ?_; simp (disch := omega) [go_sem, *, wrap64_id, upd_ne, mk3_true, flatten_replicate_one, stepK_if, ilt_true, ilt_false, ile_true, ile_false, encLink ])
                    | (apply Hide.out hK; clear hK K; try with_reducible dsimp only [thenA])
                    | (apply Hide.out ht; clear ht hf Kt Kf)
                    | (apply Hide.out hf; clear ht hf Kt Kf)
                    | (clear hK K; apply Hide.out hK; clear hK K; try with_reducible dsimp only [thenA])
                    | (clear hK K; clear hK K; apply Hide.out hK; clear hK K; try with_reducible dsimp only [thenA])
                    | (with_reducible refine APure.call (leave_ref _ _) ?_; try simp (disch := omega) [go_sem, *, wrap64_id, upd_ne, mk3_true, flatten_replicate_one, stepK_if, ilt_true, ilt_false, ile_true, ile_false, encLink ])
                    | (refine ac_block ?_)
                    | (refine ac_skip ?_; simp only [thenA])
                    | (refine ac_exit ?_; simp only [thenA, blockA, if_true, if_false, Nat.reduceEqDiff])
                    | (with_reducible show nextK _ _ _ _ _ _ _; simp (disch := omega) [go_sem, *, wrap64_id, upd_ne, mk3_true, flatten_replicate_one, stepK_if, ilt_true, ilt_false, ile_true, ile_false, encLink ])
                    | (refine wantK_split (fun hc => ?_) (fun hc => ?_) <;> (try simp only [Bool.not_eq_true', Bool.not_eq_false', Bool.not_eq_eq_eq_not, Bool.not_true, Bool.not_false, decide_eq_true_eq, decide_eq_false_iff_not, Int.not_lt, Int.not_le] at hc) <;> (try (exfalso; omega)) <;> (try simp (disch := omega) [go_sem, *, wrap64_id, upd_ne, mk3_true, flatten_replicate_one, stepK_if, ilt_true, ilt_false, ile_true, ile_false, encLink ]))
                    | (refine ac_cond_h fun Kt Kf ht hf => ?_; simp (disch := omega) [go_sem, * ]; try (refine ⟨fun hc => ?_, fun hc => ?_⟩ <;> try (exfalso; omega))))
                  refine round_end (by simp [go_sem]) ?_ ⟨k + 1, _, by omega, by omega, hnext.out hcb.out, rfl⟩ (by simp [intAt, go_sem]; omega)
                  repeat (first | exact Sub.refl _ | refine Sub.upd ?_ (hb'.out _ (by omega)) _)
                · cases p2 : (leave x (at' l x.fr)).2
                  · have hcb : Hide (cbStep l x = true) := by simp [Hide, cbStep, p1, p2]
                    repeat' (first
                      | (refine ac_seq_h fun K hK => ?_)
                      | (refine ac_region_h fun K hK => ?_; simp (disch := omega) [go_sem, *, wrap64_id, ilt_true, ile_true, encLink ])
                      | (refine ac_draw_h mixed (by kernel_rfl) fun K hK => ?_; simp (disch := omega) [go_sem, * ])
                      | (apply Hide.out hK; clear hK K; try with_reducible dsimp only [thenA])
                      | (apply Hide.out ht; clear ht hf Kt Kf)
                      | (apply Hide.out hf; clear ht hf Kt Kf)
                      | (clear hK K; apply Hide.out hK; clear hK K; try with_reducible dsimp only [thenA])
                      | (clear hK K; clear hK K; apply Hide.out hK; clear hK K; try with_reducible dsimp only [thenA])
                      | (with_reducible refine APure.call (leave_ref _ _) ?_; try simp (disch := omega) [go_sem, * ])
                      | (refine ac_block ?_)
                      | (refine ac_skip ?_; simp only [thenA, blockA])
                      | (refine ac_exit ?_; simp only [thenA, blockA, if_true, if_false, Nat.reduceEqDiff])
                      | (with_reducible show nextK _ _ _ _ _ _ _; simp (disch := omega) [go_sem, *, wrap64_id, upd_ne, mk3_true, flatten_replicate_one, stepK_if, ilt_true, ilt_false, ile_true, ile_false, encLink ])
                      | (refine wantK_split (fun hc => ?_) (fun hc => ?_) <;> (try simp only [Bool.not_eq_true', Bool.not_eq_false', Bool.not_eq_eq_eq_not, Bool.not_true, Bool.not_false, decide_eq_true_eq, decide_eq_false_iff_not, Int.not_lt, Int.not_le] at hc) <;> (try (exfalso; omega)) <;> (try simp (disch := omega) [go_sem, *, wrap64_id, upd_ne, mk3_true, flatten_replicate_one, stepK_if, ilt_true, ilt_false, ile_true, ile_false, encLink ]))
                      | (refine ac_cond_h fun Kt Kf ht hf => ?_; simp (disch := omega) [go_sem, * ]; try (refine ⟨fun hc => ?_, fun hc => ?_⟩ <;> try (exfalso; omega))))
                    refine round_end (by simp [go_sem]) ?_ ⟨k + 1, _, by omega, by omega, hnext.out hcb.out, rfl⟩ (by simp [intAt, go_sem]; omega)
                    repeat (first | exact Sub.refl _ | refine Sub.upd ?_ (hb'.out _ (by omega)) _)
                  · by_cases p3 : at' l x.to < 0
                    · have hcb : Hide (cbStep l x = false) := by simp only [Hide, cbStep, within, p2]; rw [if_neg p1]; simp; omega
                      repeat' (first
                        | (refine ac_seq_h fun K hK => ?_)
                        | (refine ac_region_h fun K hK => ?_; simp (disch := omega) [go_sem, *, ilt_true, ile_true, encLink ])
                        | (refine ac_draw_h mixed (by kernel_rfl) fun K hK => ?_; simp (disch := omega) [go_sem, * ])
                        | (apply Hide.out hK; clear hK K; try with_reducible dsimp only [thenA])
                        | (apply Hide.out ht; clear ht hf Kt Kf)
                        | (apply Hide.out hf; clear ht hf Kt Kf)
                        | (clear hK K; apply Hide.out hK; clear hK K; try with_reducible dsimp only [thenA])
                        | (clear hK K; clear hK K; apply Hide.out hK; clear hK K; try with_reducible dsimp only [thenA])
                        | (with_reducible refine APure.call (leave_ref _ _) ?_; try simp (disch := omega) [go_sem, * ])
                        | (refine ac_block ?_)
                        | (refine ac_skip ?_; simp only [thenA])
                        | (refine ac_exit ?_; simp only [thenA, blockA, if_true, if_false, Nat.reduceEqDiff])
                        | (with_reducible show nextK _ _ _ _ _ _ _; simp (disch := omega) [go_sem, *, wrap64_id, upd_ne, mk3_true, flatten_replicate_one, stepK_if, ilt_true, ilt_false, ile_true, ile_false, encLink ])
                        | (refine wantK_split (fun hc => ?_) (fun hc => ?_) <;> (try simp only [Bool.not_eq_true', Bool.not_eq_false', Bool.not_eq_eq_eq_not, Bool.not_true, Bool.not_false, decide_eq_true_eq, decide_eq_false_iff_not, Int.not_lt, Int.not_le] at hc) <;> (try (exfalso; omega)) <;> (try simp (disch := omega) [go_sem, *, wrap64_id, upd_ne, mk3_true, flatten_replicate_one, stepK_if, ilt_true, ilt_false, ile_true, ile_false, encLink ]))
                        | (refine ac_cond_h fun Kt Kf ht hf => ?_; simp (disch := omega) [go_sem, * ]; try (refine ⟨fun hc => ?_, fun hc => ?_⟩ <;> try (exfalso; omega))))
                      (refine ac_ret ?_; try dsimp only [thenA, blockA]; refine ⟨by simp, _, (by first | rfl | (simp (disch := omega) [go_sem, upd_ne] <;> rfl)), ?_⟩; refine ret_id ⟨fun k hk => (by first | rfl | (repeat rw [upd_ne _ _ _ _ (by omega)])), (by simp [go_sem, below]), (by simp [go_sem, hE, hR.out, hS.out h3.out k x hxk.out hcb.out] <;> omega), by simp, by simp⟩)
                    · by_cases p4 : (leave x (at' l x.fr)).1 + x.delay < at' l x.to
                      · have hcb : Hide (cbStep l x = false) := by simp only [Hide, cbStep, within, p2]; rw [if_neg p1]; simp; omega
                        repeat' (first
                          | (refine ac_seq_h fun K hK => ?_)
                          | (refine ac_region_h fun K hK => ?_; simp (disch := omega) [go_sem, *, ilt_true, ile_true, encLink ])
                          | (refine ac_draw_h mixed (by kernel_rfl) fun K hK => ?_; simp (disch := omega) [go_sem, *, wrap64_id ])
                          | (apply Hide.out hK; clear hK K; try with_reducible dsimp only [thenA])
                          | (apply Hide.out ht; clear ht hf Kt Kf)
                          | (apply Hide.out hf; clear ht hf Kt Kf)
                          | (clear hK K; apply Hide.out hK; clear hK K; try with_reducible dsimp only [thenA])
                          | (clear hK K; clear hK K; apply Hide.out hK; clear hK K; try with_reducible dsimp only [thenA])
                          | (with_reducible refine APure.call (leave_ref _ _) ?_; try simp (disch := omega) [go_sem, * ])
                          | (refine ac_block ?_)
                          | (refine ac_skip ?_; simp only [thenA])
                          | (refine ac_exit ?_; simp only [thenA, blockA, if_true, if_false, Nat.reduceEqDiff])
                          | (with_reducible show nextK _ _ _ _ _ _ _; simp (disch := omega) [go_sem, *, wrap64_id, upd_ne, mk3_true, flatten_replicate_one, stepK_if, ilt_true, ilt_false, ile_true, ile_false, encLink ])
                          | (refine wantK_split (fun hc => ?_) (fun hc => ?_) <;> (try simp only [Bool.not_eq_true', Bool.not_eq_false', Bool.not_eq_eq_eq_not, Bool.not_true, Bool.not_false, decide_eq_true_eq, decide_eq_false_iff_not, Int.not_lt, Int.not_le] at hc) <;> (try (exfalso; omega)) <;> (try simp (disch := omega) [go_sem, *, wrap64_id, upd_ne, mk3_true, flatten_replicate_one, stepK_if, ilt_true, ilt_false, ile_true, ile_false, encLink ]))
                          | (refine ac_cond_h fun Kt Kf ht hf => ?_; simp (disch := omega) [go_sem, * ]; try (refine ⟨fun hc => ?_, fun hc => ?_⟩ <;> try (exfalso; omega))))
                        (refine ac_ret ?_; try dsimp only [thenA, blockA]; refine ⟨by simp, _, (by first | rfl | (simp (disch := omega) [go_sem, upd_ne] <;> rfl)), ?_⟩; refine ret_id ⟨fun k hk => (by first | rfl | (repeat rw [upd_ne _ _ _ _ (by omega)])), (by simp [go_sem, below]), (by simp [go_sem, hE, hR.out, hS.out h3.out k x hxk.out hcb.out] <;> omega), by simp, by simp⟩)
                      · have hcb : Hide (cbStep l x = true) := by simp only [Hide, cbStep, within, p2]; rw [if_neg p1]; simp; omega
                        repeat' (first
                          | (refine ac_seq_h fun K hK => ?_)
                          | (refine ac_region_h fun K hK => ?_; simp (disch := omega) [go_sem, *, wrap64_id, ilt_true, ile_true, encLink ])
                          | (refine ac_draw_h mixed (by kernel_rfl) fun K hK => ?_; simp (disch := omega) [go_sem, *, wrap64_id ])
                          | (apply Hide.out hK; clear hK K; try with_reducible dsimp only [thenA])
                          | (apply Hide.out ht; clear ht hf Kt Kf)
                          | (apply Hide.out hf; clear ht hf Kt Kf)
                          | (clear hK K; apply Hide.out hK; clear hK K; try with_reducible dsimp only [thenA])
                          | (clear hK K; clear hK K; apply Hide.out hK; clear hK K; try with_reducible dsimp only [thenA])
                          | (with_reducible refine APure.call (leave_ref _ _) ?_; try simp (disch := omega) [go_sem, * ])
                          | (refine ac_block ?_)
                          | (refine ac_skip ?_; simp only [thenA, blockA])
                          | (refine ac_exit ?_; simp only [thenA, blockA, if_true, if_false, Nat.reduceEqDiff])
                          | (with_reducible show nextK _ _ _ _ _ _ _; simp (disch := omega) [go_sem, *, wrap64_id, upd_ne, mk3_true, flatten_replicate_one, stepK_if, ilt_true, ilt_false, ile_true, ile_false, encLink ])
                          | (refine wantK_split (fun hc => ?_) (fun hc => ?_) <;> (try simp only [Bool.not_eq_true', Bool.not_eq_false', Bool.not_eq_eq_eq_not, Bool.not_true, Bool.not_false, decide_eq_true_eq, decide_eq_false_iff_not, Int.not_lt, Int.not_le] at hc) <;> (try (exfalso; omega)) <;> (try simp (disch := omega) [go_sem, *, wrap64_id, upd_ne, mk3_true, flatten_replicate_one, stepK_if, ilt_true, ilt_false, ile_true, ile_false, encLink ]))
                          | (refine ac_cond_h fun Kt Kf ht hf => ?_; simp (disch := omega) [go_sem, * ]; try (refine ⟨fun hc => ?_, fun hc => ?_⟩ <;> try (exfalso; omega))))
                        refine round_end (by simp [go_sem]) ?_ ⟨k + 1, _, by omega, by omega, hnext.out hcb.out, rfl⟩ (by simp [intAt, go_sem]; omega)
                        repeat (first | exact Sub.refl _ | refine Sub.upd ?_ (hb'.out _ (by omega)) _)
              · have hkl : k = N.links.length := by omega
                have hE0 : Hide (cbE N s t l = 0) := hA.out h3.out (by rw [← hkl]; exact hgo.out)
                repeat' (first
                  | (refine ac_seq_h fun K hK => ?_)
                  | (refine ac_region_h fun K hK => ?_; simp (disch := omega) [go_sem, *])
                  | (refine ac_draw_h mixed (by kernel_rfl) fun K hK => ?_; simp (disch := omega) [go_sem, *, wrap64_id, upd_ne, mk3_true, flatten_replicate_one, stepK_if, ilt_true, ilt_false, ile_true, ile_false])
                  | (apply Hide.out hK; clear hK K; try with_reducible dsimp only [thenA])
                  | (apply Hide.out ht; clear ht hf Kt Kf)
                  | (apply Hide.out hf; clear ht hf Kt Kf)
                  | (clear hK K; apply Hide.out hK; clear hK K; try with_reducible dsimp only [thenA])
                  | (clear hK K; clear hK K; apply Hide.out hK; clear hK K; try with_reducible dsimp only [thenA])
                  | (refine ac_block ?_)
                  | (refine ac_skip ?_; simp only [thenA, blockA])
                  | (refine ac_exit ?_; simp only [thenA, blockA, if_true])
                  | (with_reducible show nextK _ _ _ _ _ _ _; simp (disch := omega) [go_sem, *, wrap64_id, upd_ne, mk3_true, flatten_replicate_one, stepK_if, ilt_true, ilt_false, ile_true, ile_false])
                  | (refine wantK_split (fun hc => ?_) (fun hc => ?_) <;> (try simp only [Bool.not_eq_true', Bool.not_eq_false', Bool.not_eq_eq_eq_not, Bool.not_true, Bool.not_false, decide_eq_true_eq, decide_eq_false_iff_not, Int.not_lt, Int.not_le] at hc) <;> (try (exfalso; omega)) <;> (try simp (disch := omega) [go_sem, *, wrap64_id, upd_ne, mk3_true, flatten_replicate_one, stepK_if, ilt_true, ilt_false, ile_true, ile_false]))
                  | (refine ac_cond_h fun Kt Kf ht hf => ?_; simp (disch := omega) [go_sem, *]; try (refine ⟨fun hc => ?_, fun hc => ?_⟩ <;> try (exfalso; omega))))
                (refine ac_ret ?_; try dsimp only [thenA, blockA]; refine ⟨by simp, _, (by first | rfl | (simp (disch := omega) [go_sem, upd_ne] <;> rfl)), ?_⟩; refine ret_id ⟨fun k hk => (by first | rfl | (repeat rw [upd_ne _ _ _ _ (by omega)])), (by simp [go_sem, below]), (by simp [go_sem, hE, hR.out, hE0.out] <;> omega), by simp, by simp⟩)
    · have h1' : ((l.length : Int) != N.st) = true := by simpa using h1
      repeat' (first
        | (refine ac_seq_h fun K hK => ?_)
        | (refine ac_region_h fun K hK => ?_; simp (disch := omega) [go_sem, *, Try.ntmps28 ])
        | (refine ac_draw_h mixed (by kernel_rfl) fun K hK => ?_; simp (disch := omega) [go_sem, *, wrap64_id, upd_ne, mk3_true, flatten_replicate_one, stepK_if, ilt_true, ilt_false, ile_true, ile_false, Try.ntmps28 ])
        | (apply Hide.out hK; clear hK K; try with_reducible dsimp only [thenA])
        | (apply Hide.out ht; clear ht hf Kt Kf)
        | (apply Hide.out hf; clear ht hf Kt Kf)
        | (clear hK K; apply Hide.out hK; clear hK K; try with_reducible dsimp only [thenA])
        | (clear hK K; clear hK K; apply Hide.out hK; clear hK K; try with_reducible dsimp only [thenA])
        | (with_reducible refine APure.call (asked_ref _ _ _) ?_; try simp (disch := omega) [go_sem, * ])
        | (refine ac_block ?_)
        | (refine ac_skip ?_; simp only [thenA])
        | (refine ac_exit ?_; simp only [thenA, blockA, if_true, if_false, Nat.reduceEqDiff])
        | (with_reducible show nextK _ _ _ _ _ _ _; simp (disch := omega) [go_sem, *, wrap64_id, upd_ne, mk3_true, flatten_replicate_one, stepK_if, ilt_true, ilt_false, ile_true, ile_false, Try.ntmps28 ])
        | (refine wantK_split (fun hc => ?_) (fun hc => ?_) <;> (try simp only [Bool.not_eq_true', Bool.not_eq_false', Bool.not_eq_eq_eq_not, Bool.not_true, Bool.not_false, decide_eq_true_eq, decide_eq_false_iff_not, Int.not_lt, Int.not_le] at hc) <;> (try (exfalso; omega)) <;> (try simp (disch := omega) [go_sem, *, wrap64_id, upd_ne, mk3_true, flatten_replicate_one, stepK_if, ilt_true, ilt_false, ile_true, ile_false, Try.ntmps28 ]))
        | (refine ac_cond_h fun Kt Kf ht hf => ?_; simp (disch := omega) [go_sem, * ]; try (refine ⟨fun hc => ?_, fun hc => ?_⟩ <;> try (exfalso; omega))))
      (refine ac_ret ?_; try dsimp only [thenA, blockA]; refine ⟨by simp, _, (by first | rfl | (simp (disch := omega) [go_sem, upd_ne] <;> rfl)), ?_⟩; refine ret_id ⟨fun k hk => (by first | rfl | (repeat rw [upd_ne _ _ _ _ (by omega)])), (by simp [go_sem, below]), (by simp [go_sem, hE, checkBounds, cbE, h1] <;> omega), by simp, by simp⟩)
  · skip
    repeat' (first
      | (refine ac_seq_h fun K hK => ?_)
      | (refine ac_region_h fun K hK => ?_; simp (disch := omega) [go_sem, *, Try.ntmps28 ])
      | (refine ac_draw_h mixed (by kernel_rfl) fun K hK => ?_; simp (disch := omega) [go_sem, *, wrap64_id, upd_ne, mk3_true, flatten_replicate_one, stepK_if, ilt_true, ilt_false, ile_true, ile_false, Try.ntmps28 ])
      | (apply Hide.out hK; clear hK K; try with_reducible dsimp only [thenA])
      | (apply Hide.out ht; clear ht hf Kt Kf)
      | (apply Hide.out hf; clear ht hf Kt Kf)
      | (clear hK K; apply Hide.out hK; clear hK K; try with_reducible dsimp only [thenA])
      | (clear hK K; clear hK K; apply Hide.out hK; clear hK K; try with_reducible dsimp only [thenA])
      | (with_reducible refine APure.call (asked_ref _ _ _) ?_; try simp (disch := omega) [go_sem, * ])
      | (refine ac_block ?_)
      | (refine ac_skip ?_; simp only [thenA, blockA])
      | (refine ac_exit ?_; simp only [thenA, blockA, if_true, if_false, Nat.reduceEqDiff])
      | (with_reducible show nextK _ _ _ _ _ _ _; simp (disch := omega) [go_sem, *, wrap64_id, upd_ne, mk3_true, flatten_replicate_one, stepK_if, ilt_true, ilt_false, ile_true, ile_false, Try.ntmps28 ])
      | (refine wantK_split (fun hc => ?_) (fun hc => ?_) <;> (try simp only [Bool.not_eq_true', Bool.not_eq_false', Bool.not_eq_eq_eq_not, Bool.not_true, Bool.not_false, decide_eq_true_eq, decide_eq_false_iff_not, Int.not_lt, Int.not_le] at hc) <;> (try (exfalso; omega)) <;> (try simp (disch := omega) [go_sem, *, wrap64_id, upd_ne, mk3_true, flatten_replicate_one, stepK_if, ilt_true, ilt_false, ile_true, ile_false, Try.ntmps28 ]))
      | (refine ac_cond_h fun Kt Kf ht hf => ?_; simp (disch := omega) [go_sem, * ]; try (refine ⟨fun hc => ?_, fun hc => ?_⟩ <;> try (exfalso; omega))))
    (refine ac_ret ?_; try dsimp only [thenA, blockA]; refine ⟨by simp, _, (by first | rfl | (simp (disch := omega) [go_sem, upd_ne] <;> rfl)), ?_⟩; refine ret_id ⟨fun k hk => (by first | rfl | (repeat rw [upd_ne _ _ _ _ (by omega)])), (by simp [go_sem, below]), (by simp [go_sem, hE, checkBounds] <;> omega), by simp, by simp⟩)
end Go.AM

namespace Go.AM
open Go.Proofs Nets
set_option maxRecDepth 10000
set_option maxHeartbeats 4000000
def measCL : List AV → Nat
  | [] => 0
  | .c (.int _ v) :: r => (if v < 0 then 2097152 else (1048576 - v).toNat) + measCL r
  | _ :: r => measCL r
theorem measCL_ints : ∀ l : List Int, measCL (l.map (iv .i64)) = measL l
  | [] => rfl
  | x :: r => by simp only [List.map_cons, measCL, measL, measCL_ints r]
theorem latest_spec (N : Net) (s t : Int) : APure Try.prog 20 [encNet N, iv .i64 s, iv .i64 t] (.tup [eInts (askedE N t [s]) (lateP N s t).out, iv .i64 (askedE N t [s])]) := by
  intro h n
  refine ACalls.pure (ACalls.entry (by kernel_rfl) fun hb _ => calls_of Try.func20 rfl (by kernel_rfl) (by simp [Try.ntmps20]) ?_)
  have hasked : APure Try.prog 42 [encNet N, iv .i64 t, .fslc false false 1 [iv .i64 s]] (iv .i64 (askedE N t [s])) := asked_spec N t false [s] (by simp)
  by_cases hE : askedE N t [s] = 0
  · obtain ⟨hC, hs, b3, b4⟩ := asked_zero hE
    obtain ⟨b1, b2⟩ := hs s (by simp)
    obtain ⟨s1, s2, hll, hok⟩ := checkE_ok hC
    obtain ⟨st, hst⟩ : ∃ st : Nat, N.st = st := ⟨N.st.toNat, by omega⟩
    have hst2 : N.st.toNat = st := by omega
    replace hok : Hide _ := hok
    have hstI : (st : Int) ≤ 10 ∧ 1 ≤ (st : Int) ∧ s < (st : Int) := by omega
    replace hst : Hide _ := hst
    clear hs
    repeat' (first
      | (refine ac_seq_h fun K hK => ?_)
      | (refine ac_region_h fun K hK => ?_; simp (disch := omega) [go_sem, *, mk3_true, Try.ntmps20 ])
      | (refine ac_draw_h mixed (by kernel_rfl) fun K hK => ?_; simp (disch := omega) [go_sem, *, wrap64_id, upd_ne, mk3_true, flatten_replicate_one, stepK_if, ilt_true, ilt_false, ile_true, ile_false, Try.ntmps20 ])
      | (apply Hide.out hK; clear hK K; try with_reducible dsimp only [thenA])
      | (apply Hide.out ht; clear ht hf Kt Kf)
      | (apply Hide.out hf; clear ht hf Kt Kf)
      | (clear hK K; apply Hide.out hK; clear hK K; try with_reducible dsimp only [thenA])
      | (clear hK K; clear hK K; apply Hide.out hK; clear hK K; try with_reducible dsimp only [thenA])
      | (with_reducible refine APure.call (hasked) ?_; try simp (disch := omega) [go_sem, * ])
      | (refine ac_block ?_)
      | (refine ac_skip ?_; simp only [thenA])
      | (refine ac_exit ?_; simp only [thenA, blockA, if_true, if_false, Nat.reduceEqDiff])
      | (with_reducible show nextK _ _ _ _ _ _ _; simp (disch := omega) [go_sem, *, wrap64_id, upd_ne, mk3_true, flatten_replicate_one, stepK_if, ilt_true, ilt_false, ile_true, ile_false, Try.ntmps20 ])
      | (refine wantK_split (fun hc => ?_) (fun hc => ?_) <;> (try simp only [Bool.not_eq_true', Bool.not_eq_false', Bool.not_eq_eq_eq_not, Bool.not_true, Bool.not_false, decide_eq_true_eq, decide_eq_false_iff_not, Int.not_lt, Int.not_le] at hc) <;> (try (exfalso; omega)) <;> (try simp (disch := omega) [go_sem, *, wrap64_id, upd_ne, mk3_true, flatten_replicate_one, stepK_if, ilt_true, ilt_false, ile_true, ile_false, Try.ntmps20 ]))
      | (refine ac_cond_h fun Kt Kf ht hf => ?_; simp (disch := omega) [go_sem, * ]; try (refine ⟨fun hc => ?_, fun hc => ?_⟩ <;> try (exfalso; omega))))
    obtain ⟨H, hH⟩ : ∃ H : List Int → AHeap, Hide (∀ o, H o = (h.upd n (some (cellsNet N))).upd (n + 3 + 6 + 2 + 2) (some (cellsInts o))) := ⟨_, fun _ => rfl⟩
    have hnb : Hide (∀ o k, n + 15 ≤ k → H o k = none) := fun o k hk => by rw [hH.out]; simp (disch := omega) only [upd_ne]; exact hb.none (by omega)
    have hHn : ∀ o, H o n = some (cellsNet N) := fun o => by rw [hH.out]; simp (disch := omega) only [upd_ne, upd_same]
    have hHa : ∀ o, H o (n + 3 + 6 + 2 + 2) = some (cellsInts o) := fun o => by rw [hH.out, upd_same]
    have hsa : Hide (∀ o o', (H o).upd (n + 3 + 6 + 2 + 2) (some (cellsInts o')) = H o') := fun o o' => by rw [hH.out, hH.out, upd_upd]
    refine ac_loop_wk (fun s' => ∃ (k n' : Nat) (l : List Int), n + 15 ≤ n' ∧ k ≤ st ∧ l.length = st ∧ Hide (∀ j, j < k → l[j]? = some (-1)) ∧ s' = ⟨84, [(1, iv .i64 s), (2, iv .i64 t), (3, .ptr n 0), (9, .slc (n + 3 + 6 + 2 + 2) 0 st 1), (29, iv .i64 st), (30, iv .i64 k)], H l, n'⟩)
        (fun s => st - (intAt s 30).toNat) ?_ ?_
    · refine loop_start (by simp [go_sem]) ?_ ⟨0, _, List.replicate st 0, by omega, by omega, by simp, fun j hj => by omega, rfl⟩
      have e : (List.replicate st (0 : Int)).map (iv .i64) = List.replicate st (iv .i64 0) := by simp
      rw [hH.out]
      simp only [cellsInts, e, cellsNet]
      exact Sub.refl _
    · rintro s' ⟨k, n', l, hn', hk', hl, hall, rfl⟩
      by_cases hlt : k < st
      · obtain ⟨x, hx1, hx2, _⟩ := at_k (show k < l.length by omega)
        repeat' (first
          | (refine ac_seq_h fun K hK => ?_)
          | (refine ac_region_h fun K hK => ?_; simp (disch := omega) [go_sem, *, wrap64_id, stepK_if, ilt_true, ile_true])
          | (refine ac_draw_h mixed (by kernel_rfl) fun K hK => ?_; simp (disch := omega) [go_sem, *, wrap64_id, upd_ne, mk3_true, flatten_replicate_one, stepK_if, ilt_true, ilt_false, ile_true, ile_false])
          | (apply Hide.out hK; clear hK K; try with_reducible dsimp only [thenA])
          | (apply Hide.out ht; clear ht hf Kt Kf)
          | (apply Hide.out hf; clear ht hf Kt Kf)
          | (clear hK K; apply Hide.out hK; clear hK K; try with_reducible dsimp only [thenA])
          | (clear hK K; clear hK K; apply Hide.out hK; clear hK K; try with_reducible dsimp only [thenA])
          | (refine ac_block ?_)
          | (refine ac_skip ?_; simp only [thenA])
          | (refine ac_exit ?_; simp only [thenA, blockA, if_true, if_false, Nat.reduceEqDiff])
          | (with_reducible show nextK _ _ _ _ _ _ _; simp (disch := omega) [go_sem, *, wrap64_id, upd_ne, mk3_true, flatten_replicate_one, stepK_if, ilt_true, ilt_false, ile_true, ile_false])
          | (refine wantK_split (fun hc => ?_) (fun hc => ?_) <;> (try simp only [Bool.not_eq_true', Bool.not_eq_false', Bool.not_eq_eq_eq_not, Bool.not_true, Bool.not_false, decide_eq_true_eq, decide_eq_false_iff_not, Int.not_lt, Int.not_le] at hc) <;> (try (exfalso; omega)) <;> (try simp (disch := omega) [go_sem, *, wrap64_id, upd_ne, mk3_true, flatten_replicate_one, stepK_if, ilt_true, ilt_false, ile_true, ile_false]))
          | (refine ac_cond_h fun Kt Kf ht hf => ?_; simp (disch := omega) [go_sem, *]; try (refine ⟨fun hc => ?_, fun hc => ?_⟩ <;> try (exfalso; omega))))
        have hall' : Hide (∀ j, j < k + 1 → (l.set k (-1))[j]? = some (-1)) := fun j hj => by
          rcases Nat.lt_or_ge j k with hjk | hjk
          · rw [List.getElem?_set_ne (by omega)]; exact hall.out j hjk
          · obtain rfl : j = k := by omega
            rw [List.getElem?_set_self (by omega)]
        refine round_end (by simp [go_sem]) ?_ ⟨k + 1, _, l.set k (-1), by omega, by omega, by simpa using hl, hall', rfl⟩ (by simp [intAt, go_sem]; omega)
        rw [← hsa.out l, cellsInts, ← set_cells l k (-1) (by omega)]; exact Sub.refl _
      · have hkk : k = st := by omega
        have hrep : l = List.replicate st (-1) := List.ext_getElem? fun j => by
          rcases Nat.lt_or_ge j st with hj | hj
          · rw [hall.out j (by omega)]; simp [hj]
          · rw [List.getElem?_eq_none (by omega), List.getElem?_eq_none (by simpa using hj)]
        subst hrep
        obtain rfl := hkk.symm
        clear hall hlt
        repeat' (first
          | (refine ac_seq_h fun K hK => ?_)
          | (refine ac_region_h fun K hK => ?_; simp (disch := omega) [go_sem, *, stepK_if])
          | (refine ac_draw_h mixed (by kernel_rfl) fun K hK => ?_; simp (disch := omega) [go_sem, *, wrap64_id, upd_ne, mk3_true, flatten_replicate_one, stepK_if, ilt_true, ilt_false, ile_true, ile_false])
          | (apply Hide.out hK; clear hK K; try with_reducible dsimp only [thenA])
          | (apply Hide.out ht; clear ht hf Kt Kf)
          | (apply Hide.out hf; clear ht hf Kt Kf)
          | (clear hK K; apply Hide.out hK; clear hK K; try with_reducible dsimp only [thenA])
          | (clear hK K; clear hK K; apply Hide.out hK; clear hK K; try with_reducible dsimp only [thenA])
          | (refine ac_block ?_)
          | (refine ac_skip ?_; simp only [thenA, blockA])
          | (refine ac_exit ?_; simp only [thenA, blockA, if_true])
          | (with_reducible show nextK _ _ _ _ _ _ _; simp (disch := omega) [go_sem, *, wrap64_id, upd_ne, mk3_true, flatten_replicate_one, stepK_if, ilt_true, ilt_false, ile_true, ile_false])
          | (refine wantK_split (fun hc => ?_) (fun hc => ?_) <;> (try simp only [Bool.not_eq_true', Bool.not_eq_false', Bool.not_eq_eq_eq_not, Bool.not_true, Bool.not_false, decide_eq_true_eq, decide_eq_false_iff_not, Int.not_lt, Int.not_le] at hc) <;> (try (exfalso; omega)) <;> (try simp (disch := omega) [go_sem, *, wrap64_id, upd_ne, mk3_true, flatten_replicate_one, stepK_if, ilt_true, ilt_false, ile_true, ile_false]))
          | (refine ac_cond_h fun Kt Kf ht hf => ?_; simp (disch := omega) [go_sem, *]; try (refine ⟨fun hc => ?_, fun hc => ?_⟩ <;> try (exfalso; omega))))
        have e0 := (startR_cells (iv .i64) (s := s) (t := t) (show s.toNat < st by omega)).symm
        rw [e0, hsa.out]
        refine best_spec _ _ _ _ ?_
        obtain ⟨B, hB, hB2⟩ : ∃ B, B = n' + 1 + 5 + 2 ∧ n + 15 ≤ B := ⟨_, rfl, by omega⟩
        rw [← hB]
        obtain ⟨H2, hH2⟩ : ∃ H2 : List Int → AHeap, Hide (∀ o, H2 o = (H o).upd B (some (.cells [bv false]))) := ⟨_, fun _ => rfl⟩
        have hnb2 : Hide (∀ o k, B + 1 ≤ k → H2 o k = none) := fun o k hk => by rw [hH2.out, upd_ne _ _ _ _ (by omega)]; exact hnb.out _ _ (by omega)
        have hPn : ∀ o, H2 o n = some (cellsNet N) := fun o => by rw [hH2.out, upd_ne _ _ _ _ (by omega)]; exact hHn _
        have hPa : ∀ o, H2 o (n + 3 + 6 + 2 + 2) = some (cellsInts o) := fun o => by rw [hH2.out, upd_ne _ _ _ _ (by omega)]; exact hHa _
        have hPB : ∀ o, H2 o B = some (.cells [bv false]) := fun o => by rw [hH2.out, upd_same]
        have hsa2 : Hide (∀ o o', (H2 o).upd (n + 3 + 6 + 2 + 2) (some (cellsInts o')) = H2 o') := fun o o' => by
          rw [hH2.out, hH2.out, ← hsa.out o o']; funext i
          by_cases h1 : i = n + 3 + 6 + 2 + 2
          · subst h1; simp (disch := omega) [upd_ne, upd_same]
          · by_cases h2 : i = B
            · subst h2; simp (disch := omega) [upd_ne, upd_same]
            · simp [upd_ne, h1, h2]
        rw [← hH2.out]
        clear hHn hHa hsa
        have hF : Hide (lateP N s t = runQ s N.links (measL (startR st s t) + 1) (startQ st s t)) := by rw [Hide, lateP, hst2]
        have hn0 : n + 15 ≤ n' := by omega
        replace hB : Hide _ := hB
        repeat' (first
          | (refine ac_seq_h fun K hK => ?_)
          | (refine ac_region_h fun K hK => ?_; simp (disch := omega) [go_sem, *])
          | (refine ac_draw_h mixed (by kernel_rfl) fun K hK => ?_; simp (disch := omega) [go_sem, *, wrap64_id, upd_ne, mk3_true, flatten_replicate_one, stepK_if, ilt_true, ilt_false, ile_true, ile_false])
          | (apply Hide.out hK; clear hK K; try with_reducible dsimp only [thenA])
          | (apply Hide.out ht; clear ht hf Kt Kf)
          | (apply Hide.out hf; clear ht hf Kt Kf)
          | (clear hK K; apply Hide.out hK; clear hK K; try with_reducible dsimp only [thenA])
          | (clear hK K; clear hK K; apply Hide.out hK; clear hK K; try with_reducible dsimp only [thenA])
          | (refine ac_block ?_)
          | (refine ac_skip ?_; simp only [thenA, blockA])
          | (refine ac_exit ?_; simp only [thenA, blockA, if_true, if_false, Nat.reduceEqDiff])
          | (with_reducible show nextK _ _ _ _ _ _ _; simp (disch := omega) [go_sem, *])
          | (refine wantK_split (fun hc => ?_) (fun hc => ?_) <;> (try simp only [Bool.not_eq_true', Bool.not_eq_false', Bool.not_eq_eq_eq_not, Bool.not_true, Bool.not_false, decide_eq_true_eq, decide_eq_false_iff_not, Int.not_lt, Int.not_le] at hc) <;> (try (exfalso; omega)) <;> (try simp (disch := omega) [go_sem, *, wrap64_id, upd_ne, mk3_true, flatten_replicate_one, stepK_if, ilt_true, ilt_false, ile_true, ile_false]))
          | (refine ac_cond_h fun Kt Kf ht hf => ?_; simp (disch := omega) [go_sem, *, wrap64_id, upd_ne, mk3_true, flatten_replicate_one, stepK_if, ilt_true, ilt_false, ile_true, ile_false]; try (refine ⟨fun hc => ?_, fun hc => ?_⟩ <;> try (exfalso; omega))))
        refine ac_loop_wk (fun s' => ∃ (f n2 : Nat) (p : QS), B < n2 ∧ QSOk st p ∧ Hide ((p.ch = true → measL p.out < f ∧ runQ s N.links f p = lateP N s t) ∧ (p.ch = false → lateP N s t = p)) ∧ s' = ⟨84, [(1, iv .i64 s), (3, .ptr n 0), (9, .slc (n + 3 + 6 + 2 + 2) 0 st 1), (11, .func (.func 58) [] [.ptr B 0]), (12, bv p.ch)], H2 p.out, n2⟩)
          (fun s' => 2 * (match s'.h (n + 3 + 6 + 2 + 2) with | some (.cells c) => measCL c | _ => 0) + (match get s'.s 12 with | .c (.bool true) => 1 | _ => 0)) ?_ ?_
        · refine loop_start (by simp [go_sem, hB.out, startQ]) ?_ ⟨measL (startR st s t) + 1, _, startQ st s t, ?_, ⟨startR_len _ _ _, startR_vals b3 b4⟩, ⟨fun _ => ⟨by simp [startQ], hF.out.symm⟩, fun e => by simp [startQ] at e⟩, rfl⟩
          · exact Sub.refl _
          · omega
        · rintro s' ⟨f, n2, p, hn2, hp, hfin, rfl⟩
          cases hch : p.ch
          · have hfin := hfin.out.2 hch
            clear hnb hnb2 hsa2 hF
            replace hfin : Hide _ := hfin
            repeat' (first
              | (refine ac_seq_h fun K hK => ?_)
              | (refine ac_region_h fun K hK => ?_; simp (disch := omega) [go_sem, *])
              | (refine ac_draw_h mixed (by kernel_rfl) fun K hK => ?_; simp (disch := omega) [go_sem, *, wrap64_id, upd_ne, mk3_true, flatten_replicate_one, stepK_if, ilt_true, ilt_false, ile_true, ile_false])
              | (apply Hide.out hK; clear hK K; try with_reducible dsimp only [thenA])
              | (apply Hide.out ht; clear ht hf Kt Kf)
              | (apply Hide.out hf; clear ht hf Kt Kf)
              | (clear hK K; apply Hide.out hK; clear hK K; try with_reducible dsimp only [thenA])
              | (clear hK K; clear hK K; apply Hide.out hK; clear hK K; try with_reducible dsimp only [thenA])
              | (refine ac_block ?_)
              | (refine ac_skip ?_; simp only [thenA, blockA])
              | (refine ac_exit ?_; simp only [thenA, blockA, if_true])
              | (with_reducible show nextK _ _ _ _ _ _ _; simp (disch := omega) [go_sem, *, wrap64_id, upd_ne, mk3_true, flatten_replicate_one, stepK_if, ilt_true, ilt_false, ile_true, ile_false])
              | (refine wantK_split (fun hc => ?_) (fun hc => ?_) <;> (try simp only [Bool.not_eq_true', Bool.not_eq_false', Bool.not_eq_eq_eq_not, Bool.not_true, Bool.not_false, decide_eq_true_eq, decide_eq_false_iff_not, Int.not_lt, Int.not_le] at hc) <;> (try (exfalso; omega)) <;> (try simp (disch := omega) [go_sem, *, wrap64_id, upd_ne, mk3_true, flatten_replicate_one, stepK_if, ilt_true, ilt_false, ile_true, ile_false]))
              | (refine ac_cond_h fun Kt Kf ht hf => ?_; simp (disch := omega) [go_sem, *]; try (refine ⟨fun hc => ?_, fun hc => ?_⟩ <;> try (exfalso; omega))))
            refine ac_ret ?_
            refine ⟨by simp, _, (by simp (disch := omega) [go_sem] <;> rfl), ?_⟩
            refine ret_freeze false (hPa p.out) ?_
            have el1 := elems_ints p.out
            rw [hp.lo] at el1
            have g1 := hp.lo
            refine ret_id ⟨fun k hk => ?_, ?_, ?_, by simp, by simp⟩
            · simp (disch := omega) only [upd_ne]; rw [hH2.out]; simp (disch := omega) only [upd_ne]; rw [hH.out]; simp (disch := omega) only [upd_ne]
            · simp [resVal, fzT, fz, g1, el1, below, belowL, belowL_iff]
            · rw [hfin.out]
              simp [resVal, fzT, fz, g1, el1, hE]
          · obtain ⟨hm1, hrun⟩ := hfin.out.1 hch
            obtain ⟨f, rfl⟩ : ∃ g, f = g + 1 := ⟨f - 1, by omega⟩
            have hp0 : QSOk st { p with ch := false } := ⟨hp.lo, hp.vals⟩
            clear hnb hF hfin
            replace hrun : Hide _ := hrun
            repeat' (first
              | (refine ac_seq_h fun K hK => ?_)
              | (refine ac_region_h fun K hK => ?_; simp (disch := omega) [go_sem, *])
              | (refine ac_draw_h mixed (by kernel_rfl) fun K hK => ?_; simp (disch := omega) [go_sem, *, wrap64_id, upd_ne, mk3_true, flatten_replicate_one, stepK_if, ilt_true, ilt_false, ile_true, ile_false])
              | (apply Hide.out hK; clear hK K; try with_reducible dsimp only [thenA])
              | (apply Hide.out ht; clear ht hf Kt Kf)
              | (apply Hide.out hf; clear ht hf Kt Kf)
              | (clear hK K; apply Hide.out hK; clear hK K; try with_reducible dsimp only [thenA])
              | (clear hK K; clear hK K; apply Hide.out hK; clear hK K; try with_reducible dsimp only [thenA])
              | (refine ac_block ?_)
              | (refine ac_skip ?_; simp only [thenA])
              | (refine ac_exit ?_; simp only [thenA, blockA, if_true, if_false, Nat.reduceEqDiff])
              | (with_reducible show nextK _ _ _ _ _ _ _; simp (disch := omega) [go_sem, *, wrap64_id, upd_ne, mk3_true, flatten_replicate_one, stepK_if, ilt_true, ilt_false, ile_true, ile_false])
              | (refine wantK_split (fun hc => ?_) (fun hc => ?_) <;> (try simp only [Bool.not_eq_true', Bool.not_eq_false', Bool.not_eq_eq_eq_not, Bool.not_true, Bool.not_false, decide_eq_true_eq, decide_eq_false_iff_not, Int.not_lt, Int.not_le] at hc) <;> (try (exfalso; omega)) <;> (try simp (disch := omega) [go_sem, *, wrap64_id, upd_ne, mk3_true, flatten_replicate_one, stepK_if, ilt_true, ilt_false, ile_true, ile_false]))
              | (refine ac_cond_h fun Kt Kf ht hf => ?_; simp (disch := omega) [go_sem, *]; try (refine ⟨fun hc => ?_, fun hc => ?_⟩ <;> try (exfalso; omega))))
            refine ac_loop_wk (fun s' => ∃ (j n3 : Nat) (q : QS), B < n3 ∧ j ≤ N.links.length ∧ QSOk st q ∧ Hide (passQ s (N.links.drop j) q = passQ s N.links { p with ch := false }) ∧ s' = ⟨84, [(1, iv .i64 s), (3, .ptr n 0), (9, .slc (n + 3 + 6 + 2 + 2) 0 st 1), (11, .func (.func 58) [] [.ptr B 0]), (12, bv q.ch), (44, encLinks N.nl N.links), (45, iv .i64 N.links.length), (46, iv .i64 j)], H2 q.out, n3⟩)
              (fun s => N.links.length - (intAt s 46).toNat) ?_ ?_
            · exact loop_start (by simp [go_sem]) (Sub.refl _) ⟨0, _, { p with ch := false }, by omega, by omega, hp0, rfl, rfl⟩
            · rintro s' ⟨j, n3, q, hn3, hj, hq, hgo, rfl⟩
              by_cases hltj : j < N.links.length
              · obtain ⟨x, hx1, hx2, hx3⟩ := at_k hltj
                obtain ⟨x1, x2, x3, x4, x5, x6⟩ := hok.out x (List.mem_of_getElem? hx2)
                have hsto := hst.out
                have ql := hq.lo
                have hv1 := at_get x1 (show x.fr < (q.out.length : Int) by omega)
                have hv2 := at_get x3 (show x.to < (q.out.length : Int) by omega)
                have hb1 := hq.vals.at x1 (show x.fr < (q.out.length : Int) by omega)
                have hb2 := hq.vals.at x3 (show x.to < (q.out.length : Int) by omega)
                have hxl : x.fr.toNat < st ∧ x.to.toNat < st := by omega
                have hg1 := at_get' (o := q.out) x.fr
                have hg2 := at_get' (o := q.out) x.to
                have hlr := last_range x6 (at' q.out x.to)
                have hdl := (right_spans x6).1
                have hLO : LOk (st : Int) x := by rw [← hsto]; exact ⟨x1, x2, x3, x4, x5, x6⟩
                replace hgo := hgo.out
                rw [hx3, passQ] at hgo
                replace hgo : Hide _ := hgo
                replace hLO : Hide _ := hLO
                replace hq : Hide _ := hq
                replace hp : Hide _ := hp
                replace hp0 : Hide _ := hp0
                clear hx3 hsto
                by_cases p1 : at' q.out x.to < 0
                · have hr : stepQ s x q = q := by rw [stepQ, if_pos (.inl p1)]
                  rw [hr] at hgo
                  repeat' (first
                    | (refine ac_seq_h fun K hK => ?_)
                    | (refine ac_region_h fun K hK => ?_; simp (disch := omega) [go_sem, *, wrap64_id, upd_ne, ilt_true, ile_true, encLink ])
                    | (refine ac_draw_h mixed (by kernel_rfl) fun K hK => ?_; simp (disch := omega) [go_sem, *, wrap64_id, upd_ne, mk3_true, flatten_replicate_one, stepK_if, ilt_true, ilt_false, ile_true, ile_false, encLink ])
                    | (apply Hide.out hK; clear hK K; try with_reducible dsimp only [thenA])
                    | (apply Hide.out ht; clear ht hf Kt Kf)
                    | (apply Hide.out hf; clear ht hf Kt Kf)
                    | (clear hK K; apply Hide.out hK; clear hK K; try with_reducible dsimp only [thenA])
                    | (clear hK K; clear hK K; apply Hide.out hK; clear hK K; try with_reducible dsimp only [thenA])
                    | (with_reducible refine APure.call (last_spec _ _) ?_; try simp (disch := omega) [go_sem, *, wrap64_id, upd_ne, mk3_true, flatten_replicate_one, stepK_if, ilt_true, ilt_false, ile_true, ile_false, encLink ])
                    | (refine ac_block ?_)
                    | (refine ac_skip ?_; simp only [thenA])
                    | (refine ac_exit ?_; simp only [thenA, blockA, if_true, if_false, Nat.reduceEqDiff])
                    | (with_reducible show nextK _ _ _ _ _ _ _; simp (disch := omega) [go_sem, *, wrap64_id, upd_ne, mk3_true, flatten_replicate_one, stepK_if, ilt_true, ilt_false, ile_true, ile_false, encLink ])
                    | (refine wantK_split (fun hc => ?_) (fun hc => ?_) <;> (try simp only [Bool.not_eq_true', Bool.not_eq_false', Bool.not_eq_eq_eq_not, Bool.not_true, Bool.not_false, decide_eq_true_eq, decide_eq_false_iff_not, Int.not_lt, Int.not_le] at hc) <;> (try (exfalso; omega)) <;> (try simp (disch := omega) [go_sem, *, wrap64_id, upd_ne, mk3_true, flatten_replicate_one, stepK_if, ilt_true, ilt_false, ile_true, ile_false, encLink ]))
                    | (refine ac_cond_h fun Kt Kf ht hf => ?_; simp (disch := omega) [go_sem, * ]; try (refine ⟨fun hc => ?_, fun hc => ?_⟩ <;> try (exfalso; omega))))
                  refine round_end (by simp [go_sem]) ?_ ⟨j + 1, _, q, by omega, by omega, hq.out, hgo, rfl⟩ (by simp [intAt, go_sem]; omega)
                  repeat (first | exact Sub.refl _ | refine Sub.upd ?_ (hnb2.out _ _ (by omega)) _)
                by_cases p2 : x.fr = s
                · have hr : stepQ s x q = q := by rw [stepQ, if_pos (.inr p2)]
                  rw [hr] at hgo
                  repeat' (first
                    | (refine ac_seq_h fun K hK => ?_)
                    | (refine ac_region_h fun K hK => ?_; simp (disch := omega) [go_sem, *, wrap64_id, upd_ne, ilt_true, ile_true, encLink ])
                    | (refine ac_draw_h mixed (by kernel_rfl) fun K hK => ?_; simp (disch := omega) [go_sem, *, wrap64_id, upd_ne, mk3_true, flatten_replicate_one, stepK_if, ilt_true, ilt_false, ile_true, ile_false, encLink ])
                    | (apply Hide.out hK; clear hK K; try with_reducible dsimp only [thenA])
                    | (apply Hide.out ht; clear ht hf Kt Kf)
                    | (apply Hide.out hf; clear ht hf Kt Kf)
                    | (clear hK K; apply Hide.out hK; clear hK K; try with_reducible dsimp only [thenA])
                    | (clear hK K; clear hK K; apply Hide.out hK; clear hK K; try with_reducible dsimp only [thenA])
                    | (with_reducible refine APure.call (last_spec _ _) ?_; try simp (disch := omega) [go_sem, *, wrap64_id, upd_ne, mk3_true, flatten_replicate_one, stepK_if, ilt_true, ilt_false, ile_true, ile_false, encLink ])
                    | (refine ac_block ?_)
                    | (refine ac_skip ?_; simp only [thenA])
                    | (refine ac_exit ?_; simp only [thenA, blockA, if_true, if_false, Nat.reduceEqDiff])
                    | (with_reducible show nextK _ _ _ _ _ _ _; simp (disch := omega) [go_sem, *, wrap64_id, upd_ne, mk3_true, flatten_replicate_one, stepK_if, ilt_true, ilt_false, ile_true, ile_false, encLink ])
                    | (refine wantK_split (fun hc => ?_) (fun hc => ?_) <;> (try simp only [Bool.not_eq_true', Bool.not_eq_false', Bool.not_eq_eq_eq_not, Bool.not_true, Bool.not_false, decide_eq_true_eq, decide_eq_false_iff_not, Int.not_lt, Int.not_le] at hc) <;> (try (exfalso; omega)) <;> (try simp (disch := omega) [go_sem, *, wrap64_id, upd_ne, mk3_true, flatten_replicate_one, stepK_if, ilt_true, ilt_false, ile_true, ile_false, encLink ]))
                    | (refine ac_cond_h fun Kt Kf ht hf => ?_; simp (disch := omega) [go_sem, * ]; try (refine ⟨fun hc => ?_, fun hc => ?_⟩ <;> try (exfalso; omega))))
                  refine round_end (by simp [go_sem]) ?_ ⟨j + 1, _, q, by omega, by omega, hq.out, hgo, rfl⟩ (by simp [intAt, go_sem]; omega)
                  repeat (first | exact Sub.refl _ | refine Sub.upd ?_ (hnb2.out _ _ (by omega)) _)
                have p2' : (x.fr == s) = false := by simpa using p2
                cases p3 : (last x (at' q.out x.to)).2
                · have hr : stepQ s x q = q := by
                    rw [stepQ, if_neg (by intro h; rcases h with h | h <;> contradiction), if_neg (by rw [p3]; simp)]
                  rw [hr] at hgo
                  repeat' (first
                    | (refine ac_seq_h fun K hK => ?_)
                    | (refine ac_region_h fun K hK => ?_; simp (disch := omega) [go_sem, *, wrap64_id, upd_ne, ilt_true, ile_true, encLink ])
                    | (refine ac_draw_h mixed (by kernel_rfl) fun K hK => ?_; simp (disch := omega) [go_sem, *, upd_ne, ilt_true ])
                    | (apply Hide.out hK; clear hK K; try with_reducible dsimp only [thenA])
                    | (apply Hide.out ht; clear ht hf Kt Kf)
                    | (apply Hide.out hf; clear ht hf Kt Kf)
                    | (clear hK K; apply Hide.out hK; clear hK K; try with_reducible dsimp only [thenA])
                    | (clear hK K; clear hK K; apply Hide.out hK; clear hK K; try with_reducible dsimp only [thenA])
                    | (with_reducible refine APure.call (last_spec _ _) ?_; try simp (disch := omega) [go_sem, * ])
                    | (refine ac_block ?_)
                    | (refine ac_skip ?_; simp only [thenA, blockA])
                    | (refine ac_exit ?_; simp only [thenA, blockA, if_true, if_false, Nat.reduceEqDiff])
                    | (with_reducible show nextK _ _ _ _ _ _ _; simp (disch := omega) [go_sem, *, wrap64_id, upd_ne, mk3_true, flatten_replicate_one, stepK_if, ilt_true, ilt_false, ile_true, ile_false, encLink ])
                    | (refine wantK_split (fun hc => ?_) (fun hc => ?_) <;> (try simp only [Bool.not_eq_true', Bool.not_eq_false', Bool.not_eq_eq_eq_not, Bool.not_true, Bool.not_false, decide_eq_true_eq, decide_eq_false_iff_not, Int.not_lt, Int.not_le] at hc) <;> (try (exfalso; omega)) <;> (try simp (disch := omega) [go_sem, *, wrap64_id, upd_ne, mk3_true, flatten_replicate_one, stepK_if, ilt_true, ilt_false, ile_true, ile_false, encLink ]))
                    | (refine ac_cond_h fun Kt Kf ht hf => ?_; simp (disch := omega) [go_sem, * ]; try (refine ⟨fun hc => ?_, fun hc => ?_⟩ <;> try (exfalso; omega))))
                  refine round_end (by simp [go_sem]) ?_ ⟨j + 1, _, q, by omega, by omega, hq.out, hgo, rfl⟩ (by simp [intAt, go_sem]; omega)
                  repeat (first | exact Sub.refl _ | refine Sub.upd ?_ (hnb2.out _ _ (by omega)) _)
                cases hbt : better false (at' q.out x.fr) (last x (at' q.out x.to)).1
                · have hr : stepQ s x q = q := by
                    rw [stepQ, if_neg (by intro h; rcases h with h | h <;> contradiction), if_neg (by rw [hbt]; simp)]
                  rw [hr] at hgo
                  replace hr : Hide _ := hr
                  replace hbt : Hide _ := hbt
                  repeat' (first
                    | (refine ac_seq_h fun K hK => ?_)
                    | (refine ac_region_h fun K hK => ?_; simp (disch := omega) [go_sem, *, upd_ne, ilt_true, ile_true, encLink ])
                    | (refine ac_draw_h mixed (by kernel_rfl) fun K hK => ?_; simp (disch := omega) [go_sem, *, upd_ne, ilt_true ])
                    | (apply Hide.out hK; clear hK K; try with_reducible dsimp only [thenA])
                    | (apply Hide.out ht; clear ht hf Kt Kf)
                    | (apply Hide.out hf; clear ht hf Kt Kf)
                    | (clear hK K; apply Hide.out hK; clear hK K; try with_reducible dsimp only [thenA])
                    | (clear hK K; clear hK K; apply Hide.out hK; clear hK K; try with_reducible dsimp only [thenA])
                    | (with_reducible refine APure.call (last_spec _ _) ?_; try simp (disch := omega) [go_sem, * ])
                    | (refine ac_block ?_)
                    | (refine ac_skip ?_; simp only [thenA])
                    | (refine ac_exit ?_; simp only [thenA, blockA, if_true, if_false, Nat.reduceEqDiff])
                    | (with_reducible show nextK _ _ _ _ _ _ _; simp (disch := omega) [go_sem, *, wrap64_id, upd_ne, mk3_true, flatten_replicate_one, stepK_if, ilt_true, ilt_false, ile_true, ile_false, encLink ])
                    | (refine wantK_split (fun hc => ?_) (fun hc => ?_) <;> (try simp only [Bool.not_eq_true', Bool.not_eq_false', Bool.not_eq_eq_eq_not, Bool.not_true, Bool.not_false, decide_eq_true_eq, decide_eq_false_iff_not, Int.not_lt, Int.not_le] at hc) <;> (try (exfalso; omega)) <;> (try simp (disch := omega) [go_sem, *, wrap64_id, upd_ne, mk3_true, flatten_replicate_one, stepK_if, ilt_true, ilt_false, ile_true, ile_false, encLink ]))
                    | (refine ac_cond_h fun Kt Kf ht hf => ?_; simp (disch := omega) [go_sem, * ]; try (refine ⟨fun hc => ?_, fun hc => ?_⟩ <;> try (exfalso; omega))))
                  refine (better_no false _ _ B (q.out.map (iv .i64)) (at' q.out x.fr) _ _ _ ?_ ?_ ?_ hbt.out).call ?_
                  · simp (disch := omega) only [upd_ne, hPa]
                  · rw [List.drop_eq_getElem_cons (by simp; omega)]; simp [hg1]
                  · simp (disch := omega) only [upd_ne, hPB]
                  repeat' (first
                    | (refine ac_seq_h fun K hK => ?_)
                    | (refine ac_region_h fun K hK => ?_; simp (disch := omega) [go_sem, *, wrap64_id])
                    | (refine ac_draw_h mixed (by kernel_rfl) fun K hK => ?_; simp (disch := omega) [go_sem, *, wrap64_id, upd_ne, mk3_true, flatten_replicate_one, stepK_if, ilt_true, ilt_false, ile_true, ile_false, encLink])
                    | (apply Hide.out hK; clear hK K; try with_reducible dsimp only [thenA])
                    | (apply Hide.out ht; clear ht hf Kt Kf)
                    | (apply Hide.out hf; clear ht hf Kt Kf)
                    | (clear hK K; apply Hide.out hK; clear hK K; try with_reducible dsimp only [thenA])
                    | (clear hK K; clear hK K; apply Hide.out hK; clear hK K; try with_reducible dsimp only [thenA])
                    | (refine ac_block ?_)
                    | (refine ac_skip ?_; simp only [thenA, blockA])
                    | (refine ac_exit ?_; simp only [thenA, blockA, if_true, if_false, Nat.reduceEqDiff])
                    | (with_reducible show nextK _ _ _ _ _ _ _; simp (disch := omega) [go_sem, *])
                    | (refine wantK_split (fun hc => ?_) (fun hc => ?_) <;> (try simp only [Bool.not_eq_true', Bool.not_eq_false', Bool.not_eq_eq_eq_not, Bool.not_true, Bool.not_false, decide_eq_true_eq, decide_eq_false_iff_not, Int.not_lt, Int.not_le] at hc) <;> (try (exfalso; omega)) <;> (try simp (disch := omega) [go_sem, *, wrap64_id, upd_ne, mk3_true, flatten_replicate_one, stepK_if, ilt_true, ilt_false, ile_true, ile_false, encLink]))
                    | (refine ac_cond_h fun Kt Kf ht hf => ?_; simp (disch := omega) [go_sem, *]; try (refine ⟨fun hc => ?_, fun hc => ?_⟩ <;> try (exfalso; omega))))
                  refine round_end (by simp [go_sem]) ?_ ⟨j + 1, _, q, by omega, by omega, hq.out, hgo, rfl⟩ (by simp [intAt, go_sem]; omega)
                  repeat (first | exact Sub.refl _ | refine Sub.upd ?_ (hnb2.out _ _ (by omega)) _)
                · have hr : stepQ s x q = ⟨q.out.set x.fr.toNat (last x (at' q.out x.to)).1, true⟩ := by
                    rw [stepQ, if_neg (by intro h; rcases h with h | h <;> contradiction), if_pos ⟨p3, hbt⟩]
                  have hso := stepQ_ok (s := s) hLO.out hq.out
                  rw [hr] at hgo hso
                  replace hso : Hide _ := hso
                  replace hr : Hide _ := hr
                  replace hbt : Hide _ := hbt
                  repeat' (first
                    | (refine ac_seq_h fun K hK => ?_)
                    | (refine ac_region_h fun K hK => ?_; simp (disch := omega) [go_sem, *, upd_ne, ilt_true, ile_true, encLink ])
                    | (refine ac_draw_h mixed (by kernel_rfl) fun K hK => ?_; simp (disch := omega) [go_sem, *, upd_ne, ilt_true ])
                    | (apply Hide.out hK; clear hK K; try with_reducible dsimp only [thenA])
                    | (apply Hide.out ht; clear ht hf Kt Kf)
                    | (apply Hide.out hf; clear ht hf Kt Kf)
                    | (clear hK K; apply Hide.out hK; clear hK K; try with_reducible dsimp only [thenA])
                    | (clear hK K; clear hK K; apply Hide.out hK; clear hK K; try with_reducible dsimp only [thenA])
                    | (with_reducible refine APure.call (last_spec _ _) ?_; try simp (disch := omega) [go_sem, * ])
                    | (refine ac_block ?_)
                    | (refine ac_skip ?_; simp only [thenA])
                    | (refine ac_exit ?_; simp only [thenA, blockA, if_true, if_false, Nat.reduceEqDiff])
                    | (with_reducible show nextK _ _ _ _ _ _ _; simp (disch := omega) [go_sem, *, wrap64_id, upd_ne, mk3_true, flatten_replicate_one, stepK_if, ilt_true, ilt_false, ile_true, ile_false, encLink ])
                    | (refine wantK_split (fun hc => ?_) (fun hc => ?_) <;> (try simp only [Bool.not_eq_true', Bool.not_eq_false', Bool.not_eq_eq_eq_not, Bool.not_true, Bool.not_false, decide_eq_true_eq, decide_eq_false_iff_not, Int.not_lt, Int.not_le] at hc) <;> (try (exfalso; omega)) <;> (try simp (disch := omega) [go_sem, *, wrap64_id, upd_ne, mk3_true, flatten_replicate_one, stepK_if, ilt_true, ilt_false, ile_true, ile_false, encLink ]))
                    | (refine ac_cond_h fun Kt Kf ht hf => ?_; simp (disch := omega) [go_sem, * ]; try (refine ⟨fun hc => ?_, fun hc => ?_⟩ <;> try (exfalso; omega))))
                  refine (better_yes false _ _ B q.out (at' q.out x.fr) _ _ _ ?_ hv1 ?_ hbt.out).call ?_
                  · simp (disch := omega) only [upd_ne, hPa]
                  · simp (disch := omega) only [upd_ne, hPB]
                  repeat' (first
                    | (refine ac_seq_h fun K hK => ?_)
                    | (refine ac_region_h fun K hK => ?_; simp (disch := omega) [go_sem, *, wrap64_id])
                    | (refine ac_draw_h mixed (by kernel_rfl) fun K hK => ?_; simp (disch := omega) [go_sem, *, wrap64_id, upd_ne, mk3_true, flatten_replicate_one, stepK_if, ilt_true, ilt_false, ile_true, ile_false, encLink])
                    | (apply Hide.out hK; clear hK K; try with_reducible dsimp only [thenA])
                    | (apply Hide.out ht; clear ht hf Kt Kf)
                    | (apply Hide.out hf; clear ht hf Kt Kf)
                    | (clear hK K; apply Hide.out hK; clear hK K; try with_reducible dsimp only [thenA])
                    | (clear hK K; clear hK K; apply Hide.out hK; clear hK K; try with_reducible dsimp only [thenA])
                    | (refine ac_block ?_)
                    | (refine ac_skip ?_; simp only [thenA, blockA])
                    | (refine ac_exit ?_; simp only [thenA, blockA, if_true, if_false, Nat.reduceEqDiff])
                    | (with_reducible show nextK _ _ _ _ _ _ _; simp (disch := omega) [go_sem, *])
                    | (refine wantK_split (fun hc => ?_) (fun hc => ?_) <;> (try simp only [Bool.not_eq_true', Bool.not_eq_false', Bool.not_eq_eq_eq_not, Bool.not_true, Bool.not_false, decide_eq_true_eq, decide_eq_false_iff_not, Int.not_lt, Int.not_le] at hc) <;> (try (exfalso; omega)) <;> (try simp (disch := omega) [go_sem, *, wrap64_id, upd_ne, mk3_true, flatten_replicate_one, stepK_if, ilt_true, ilt_false, ile_true, ile_false, encLink]))
                    | (refine ac_cond_h fun Kt Kf ht hf => ?_; simp (disch := omega) [go_sem, *]; try (refine ⟨fun hc => ?_, fun hc => ?_⟩ <;> try (exfalso; omega))))
                  refine round_end (by simp [go_sem]) ?_ ⟨j + 1, _, _, by omega, by omega, hso.out, hgo, rfl⟩ (by simp [intAt, go_sem]; omega)
                  rw [← hsa2.out q.out]
                  simp only [cellsInts, List.map_set]
                  refine Sub.both ?_ _ _
                  repeat (first | exact Sub.refl _ | refine Sub.upd ?_ (hnb2.out _ _ (by omega)) _)
              · have hjl : j = N.links.length := by omega
                have hgo2 := hgo.out
                rw [hjl, List.drop_length, passQ] at hgo2
                have hokl : ∀ l ∈ N.links, LOk (st : Int) l := fun l hl => by rw [← hst.out]; exact hok.out l hl
                have hmm : q.ch = true → measL q.out < measL p.out := fun hc => by
                  have := passQ_ch (s := s) hokl hp (by rw [← hgo2]; exact hc)
                  rwa [← hgo2] at this
                have hrun' := hrun.out
                rw [runQ, ← hgo2] at hrun'
                have hfin : Hide ((q.ch = true → measL q.out < f ∧ runQ s N.links f q = lateP N s t) ∧ (q.ch = false → lateP N s t = q)) :=
                  ⟨fun hc => ⟨by have := hmm hc; omega, by rw [if_pos hc] at hrun'; exact hrun'⟩, fun hc => by rw [if_neg (by rw [hc]; simp)] at hrun'; exact hrun'.symm⟩
                replace hmm : Hide _ := hmm
                clear hrun' hgo hrun
                replace hgo2 : Hide _ := hgo2
                replace hokl : Hide _ := hokl
                repeat' (first
                  | (refine ac_seq_h fun K hK => ?_)
                  | (refine ac_region_h fun K hK => ?_; simp (disch := omega) [go_sem, *])
                  | (refine ac_draw_h mixed (by kernel_rfl) fun K hK => ?_; simp (disch := omega) [go_sem, *, wrap64_id, upd_ne, mk3_true, flatten_replicate_one, stepK_if, ilt_true, ilt_false, ile_true, ile_false])
                  | (apply Hide.out hK; clear hK K; try with_reducible dsimp only [thenA])
                  | (apply Hide.out ht; clear ht hf Kt Kf)
                  | (apply Hide.out hf; clear ht hf Kt Kf)
                  | (clear hK K; apply Hide.out hK; clear hK K; try with_reducible dsimp only [thenA])
                  | (clear hK K; clear hK K; apply Hide.out hK; clear hK K; try with_reducible dsimp only [thenA])
                  | (refine ac_block ?_)
                  | (refine ac_skip ?_; simp only [thenA, blockA])
                  | (refine ac_exit ?_; simp only [thenA, blockA, if_true, if_false, Nat.reduceEqDiff])
                  | (with_reducible show nextK _ _ _ _ _ _ _; simp (disch := omega) [go_sem, *, wrap64_id, upd_ne, mk3_true, flatten_replicate_one, stepK_if, ilt_true, ilt_false, ile_true, ile_false])
                  | (refine wantK_split (fun hc => ?_) (fun hc => ?_) <;> (try simp only [Bool.not_eq_true', Bool.not_eq_false', Bool.not_eq_eq_eq_not, Bool.not_true, Bool.not_false, decide_eq_true_eq, decide_eq_false_iff_not, Int.not_lt, Int.not_le] at hc) <;> (try (exfalso; omega)) <;> (try simp (disch := omega) [go_sem, *, wrap64_id, upd_ne, mk3_true, flatten_replicate_one, stepK_if, ilt_true, ilt_false, ile_true, ile_false]))
                  | (refine ac_cond_h fun Kt Kf ht hf => ?_; simp (disch := omega) [go_sem, *]; try (refine ⟨fun hc => ?_, fun hc => ?_⟩ <;> try (exfalso; omega))))
                refine round_end (by simp [go_sem]) (Sub.refl _) ⟨f, _, q, by omega, hq, hfin, rfl⟩ ?_
                have hmm := hmm.out
                simp only [hPa, measCL_ints, get]
                cases hqc : q.ch
                · have : measL q.out ≤ measL p.out := by
                    rcases passQ_meas (s := s) (ls := N.links) (q := { p with ch := false }) hokl.out hp0 with e | ⟨_, e⟩
                    · rw [hgo2.out, e]; exact Nat.le_refl _
                    · rw [hgo2.out]; exact Nat.le_of_lt e
                  simp; omega
                · have := hmm hqc
                  simp; omega
  · skip
    repeat' (first
      | (refine ac_seq_h fun K hK => ?_)
      | (refine ac_region_h fun K hK => ?_; simp (disch := omega) [go_sem, *, Try.ntmps20 ])
      | (refine ac_draw_h mixed (by kernel_rfl) fun K hK => ?_; simp (disch := omega) [go_sem, *, wrap64_id, upd_ne, mk3_true, flatten_replicate_one, stepK_if, ilt_true, ilt_false, ile_true, ile_false, Try.ntmps20 ])
      | (apply Hide.out hK; clear hK K; try with_reducible dsimp only [thenA])
      | (apply Hide.out ht; clear ht hf Kt Kf)
      | (apply Hide.out hf; clear ht hf Kt Kf)
      | (clear hK K; apply Hide.out hK; clear hK K; try with_reducible dsimp only [thenA])
      | (clear hK K; clear hK K; apply Hide.out hK; clear hK K; try with_reducible dsimp only [thenA])
      | (with_reducible refine APure.call (hasked) ?_; try simp (disch := omega) [go_sem, * ])
      | (refine ac_block ?_)
      | (refine ac_skip ?_; simp only [thenA, blockA])
      | (refine ac_exit ?_; simp only [thenA, blockA, if_true, if_false, Nat.reduceEqDiff])
      | (with_reducible show nextK _ _ _ _ _ _ _; simp (disch := omega) [go_sem, *, wrap64_id, upd_ne, mk3_true, flatten_replicate_one, stepK_if, ilt_true, ilt_false, ile_true, ile_false, Try.ntmps20 ])
      | (refine wantK_split (fun hc => ?_) (fun hc => ?_) <;> (try simp only [Bool.not_eq_true', Bool.not_eq_false', Bool.not_eq_eq_eq_not, Bool.not_true, Bool.not_false, decide_eq_true_eq, decide_eq_false_iff_not, Int.not_lt, Int.not_le] at hc) <;> (try (exfalso; omega)) <;> (try simp (disch := omega) [go_sem, *, wrap64_id, upd_ne, mk3_true, flatten_replicate_one, stepK_if, ilt_true, ilt_false, ile_true, ile_false, Try.ntmps20 ]))
      | (refine ac_cond_h fun Kt Kf ht hf => ?_; simp (disch := omega) [go_sem, * ]; try (refine ⟨fun hc => ?_, fun hc => ?_⟩ <;> try (exfalso; omega))))
    (refine ac_ret ?_; try dsimp only [thenA, blockA]; refine ⟨by simp, _, (by first | rfl | (simp (disch := omega) [go_sem, upd_ne] <;> rfl)), ?_⟩; refine ret_id ⟨fun k hk => (by first | rfl | (repeat rw [upd_ne _ _ _ _ (by omega)])), (by simp [go_sem, below, belowL]), (by simp [go_sem, hE] <;> omega), by simp, by simp⟩)
end Go.AM
