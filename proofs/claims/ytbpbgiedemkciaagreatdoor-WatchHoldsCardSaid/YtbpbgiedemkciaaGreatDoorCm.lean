/- Conditions: Holds, Inward, the law. Conditions: as each theorem says. -/
import Derived.Test.YtbpbgiedemkciaaGreatDoorCg
import Derived.Test.YtbpbgiedemkciaaGreatDoorCh
import Derived.Test.YtbpbgiedemkciaaGreatDoorCi
import Derived.Test.YtbpbgiedemkciaaGreatDoorCj
import Derived.Test.YtbpbgiedemkciaaGreatDoorSe
namespace Go.AM
open Go.Proofs Cw
set_option maxRecDepth 10000
set_option maxHeartbeats 4000000
theorem same_nil (k f o nn : Int) (nl fu nl' fu' : Bool) (s s' : Nat) : APure Tryz.prog 14 [encC (.mk k f o nn nl fu s []), encC (.mk k f o nn nl' fu' s' [])] (bv true) := by
  intro h n
  refine ACalls.pure (ACalls.entry (by kernel_rfl) fun hb _ => calls_of Tryz.func14 rfl (by kernel_rfl) (by simp [Tryz.ntmps14]) ?_)
  simp only [encC, encL]
  repeat' (first
    | (refine ac_seq_h fun K hK => ?_)
    | (refine ac_region_h fun K hK => ?_; simp (disch := omega) [go_sem, *, upd_ne, Tryz.ntmps14])
    | (refine ac_draw_h mixed (by kernel_rfl) fun K hK => ?_; simp (disch := omega) [go_sem, *, wrap64_id, upd_ne, mk3_true, flatten_replicate_one, stepK_if, ilt_true, ilt_false, ile_true, ile_false, Tryz.ntmps14])
    | (refine ac_quiet_h mixed (by kernel_rfl) fun K hK => ?_; simp (disch := omega) [go_sem, *, wrap64_id, upd_ne, mk3_true, flatten_replicate_one, stepK_if, ilt_true, ilt_false, ile_true, ile_false, Tryz.ntmps14])
    | (refine aQ_c (by simp [go_sem]) (by simp (disch := omega) [go_sem, *]; first | exact rfl | exact ⟨rfl, rfl, rfl⟩) ?_; try simp only [pS_some, pS_none])
    | (refine aQ_c (by simp [go_sem]) (by (try simp (disch := omega) [go_sem, *]); first | exact rfl | exact ⟨rfl, rfl, rfl⟩) ?_; try simp only [pS_some, pS_none])
    | (refine aQ_end ?_)
    | (apply Hide.out hK; clear hK K; try with_reducible dsimp only [thenA])
    | (apply Hide.out ht; clear ht hf Kt Kf)
    | (apply Hide.out hf; clear ht hf Kt Kf)
    | (clear hK K; apply Hide.out hK; clear hK K; try with_reducible dsimp only [thenA])
    | (clear hK K; clear hK K; apply Hide.out hK; clear hK K; try with_reducible dsimp only [thenA])
    | (refine ac_block ?_)
    | (refine ac_skip ?_; simp only [thenA])
    | (refine ac_exit ?_; simp only [thenA, blockA, if_true, if_false, Nat.reduceEqDiff])
    | (with_reducible show nextK _ _ _ _ _ _ _; simp (disch := omega) [go_sem, *, wrap64_id, upd_ne, mk3_true, flatten_replicate_one, stepK_if, ilt_true, ilt_false, ile_true, ile_false, Tryz.ntmps14])
    | (refine wantK_split (fun hc => ?_) (fun hc => ?_) <;> (try simp only [Bool.not_eq_true', Bool.not_eq_false', Bool.not_eq_eq_eq_not, Bool.not_true, Bool.not_false, decide_eq_true_eq, decide_eq_false_iff_not, Int.not_lt, Int.not_le] at hc) <;> (try (exfalso; omega)) <;> (try simp (disch := omega) [go_sem, *, wrap64_id, upd_ne, mk3_true, flatten_replicate_one, stepK_if, ilt_true, ilt_false, ile_true, ile_false, Tryz.ntmps14]))
    | (refine ac_cond_h fun Kt Kf ht hf => ?_; simp (disch := omega) [go_sem, *]; try (refine ⟨fun hc => ?_, fun hc => ?_⟩ <;> try (exfalso; omega))))
  refine ac_rounds 2 ?_
  unfold ACRounds
  repeat' (first
    | (refine ac_seq_h fun K hK => ?_)
    | (refine ac_region_h fun K hK => ?_; simp (disch := omega) [go_sem, *, upd_ne])
    | (refine ac_draw_h mixed (by kernel_rfl) fun K hK => ?_; simp (disch := omega) [go_sem, *, wrap64_id, upd_ne, mk3_true, flatten_replicate_one, stepK_if, ilt_true, ilt_false, ile_true, ile_false])
    | (refine ac_quiet_h mixed (by kernel_rfl) fun K hK => ?_; simp (disch := omega) [go_sem, *, wrap64_id, upd_ne, mk3_true, flatten_replicate_one, stepK_if, ilt_true, ilt_false, ile_true, ile_false])
    | (refine aQ_c (by simp [go_sem]) (by simp (disch := omega) [go_sem, *]; first | exact rfl | exact ⟨rfl, rfl, rfl⟩) ?_; try simp only [pS_some, pS_none])
    | (refine aQ_c (by simp [go_sem]) (by (try simp (disch := omega) [go_sem, *]); first | exact rfl | exact ⟨rfl, rfl, rfl⟩) ?_; try simp only [pS_some, pS_none])
    | (refine aQ_end ?_)
    | (apply Hide.out hK; clear hK K; try with_reducible dsimp only [thenA])
    | (apply Hide.out ht; clear ht hf Kt Kf)
    | (apply Hide.out hf; clear ht hf Kt Kf)
    | (clear hK K; apply Hide.out hK; clear hK K; try with_reducible dsimp only [thenA])
    | (clear hK K; clear hK K; apply Hide.out hK; clear hK K; try with_reducible dsimp only [thenA])
    | (refine ac_block ?_)
    | (refine ac_skip ?_; simp only [thenA, blockA])
    | (refine ac_exit ?_; simp only [thenA, blockA, if_true])
    | (with_reducible show nextK _ _ _ _ _ _ _; simp (disch := omega) [go_sem, *, wrap64_id, upd_ne, mk3_true, flatten_replicate_one, stepK_if, ilt_true, ilt_false, ile_true, ile_false])
    | (refine wantK_split (fun hc => ?_) (fun hc => ?_) <;> (try simp only [Bool.not_eq_true', Bool.not_eq_false', Bool.not_eq_eq_eq_not, Bool.not_true, Bool.not_false, decide_eq_true_eq, decide_eq_false_iff_not, Int.not_lt, Int.not_le] at hc) <;> (try (exfalso; omega)) <;> (try simp (disch := omega) [go_sem, *, wrap64_id, upd_ne, mk3_true, flatten_replicate_one, stepK_if, ilt_true, ilt_false, ile_true, ile_false]))
    | (refine ac_cond_h fun Kt Kf ht hf => ?_; simp (disch := omega) [go_sem, *]; try (refine ⟨fun hc => ?_, fun hc => ?_⟩ <;> try (exfalso; omega))))
  (refine ac_ret ?_; try dsimp only [thenA, blockA]; refine ⟨by simp, _, (by first | rfl | (simp (disch := omega) [go_sem, upd_ne] <;> rfl)), ?_⟩; refine ret_id ⟨fun k hk => (by first | rfl | (repeat rw [upd_ne _ _ _ _ (by omega)])), (by simp [go_sem, below]), (by simp [go_sem] <;> omega), by simp, by simp⟩)
theorem same_two (k f o nn : Int) (a b x y : Cnd) (ka : APure Tryz.prog 14 [encC a, encC x] (bv true)) (kb : APure Tryz.prog 14 [encC b, encC y] (bv true)) :
    APure Tryz.prog 14 [encC (.mk k f o nn false false 5 [a, b]), encC (.mk k f o nn false false 5 [x, y])] (bv true) := by
  intro h n
  refine ACalls.pure (ACalls.entry (by kernel_rfl) fun hb _ => calls_of Tryz.func14 rfl (by kernel_rfl) (by simp [Tryz.ntmps14]) ?_)
  obtain ⟨ak, af, ao, an, anl, afu, asz, aks⟩ := a
  obtain ⟨bk, bf, bo, bn, bnl, bfu, bsz, bks⟩ := b
  obtain ⟨xk, xf, xo, xn, xnl, xfu, xsz, xks⟩ := x
  obtain ⟨yk, yf, yo, yn, ynl, yfu, ysz, yks⟩ := y
  simp only [encC, encL] at ka kb ⊢
  repeat' (first
    | (refine ac_seq_h fun K hK => ?_)
    | (refine ac_region_h fun K hK => ?_; simp (disch := omega) [go_sem, *, upd_ne, Tryz.ntmps14])
    | (refine ac_draw_h mixed (by kernel_rfl) fun K hK => ?_; simp (disch := omega) [go_sem, *, wrap64_id, upd_ne, mk3_true, flatten_replicate_one, stepK_if, ilt_true, ilt_false, ile_true, ile_false, Tryz.ntmps14])
    | (refine ac_quiet_h mixed (by kernel_rfl) fun K hK => ?_; simp (disch := omega) [go_sem, *, wrap64_id, upd_ne, mk3_true, flatten_replicate_one, stepK_if, ilt_true, ilt_false, ile_true, ile_false, Tryz.ntmps14])
    | (refine aQ_c (by simp [go_sem]) (by simp (disch := omega) [go_sem, *]; first | exact rfl | exact ⟨rfl, rfl, rfl⟩) ?_; try simp only [pS_some, pS_none])
    | (refine aQ_c (by simp [go_sem]) (by (try simp (disch := omega) [go_sem, *]); first | exact rfl | exact ⟨rfl, rfl, rfl⟩) ?_; try simp only [pS_some, pS_none])
    | (refine aQ_end ?_)
    | (apply Hide.out hK; clear hK K; try with_reducible dsimp only [thenA])
    | (apply Hide.out ht; clear ht hf Kt Kf)
    | (apply Hide.out hf; clear ht hf Kt Kf)
    | (clear hK K; apply Hide.out hK; clear hK K; try with_reducible dsimp only [thenA])
    | (clear hK K; clear hK K; apply Hide.out hK; clear hK K; try with_reducible dsimp only [thenA])
    | (refine ac_block ?_)
    | (refine ac_skip ?_; simp only [thenA])
    | (refine ac_exit ?_; simp only [thenA, blockA, if_true, if_false, Nat.reduceEqDiff])
    | (with_reducible show nextK _ _ _ _ _ _ _; simp (disch := omega) [go_sem, *, wrap64_id, upd_ne, mk3_true, flatten_replicate_one, stepK_if, ilt_true, ilt_false, ile_true, ile_false, Tryz.ntmps14])
    | (refine wantK_split (fun hc => ?_) (fun hc => ?_) <;> (try simp only [Bool.not_eq_true', Bool.not_eq_false', Bool.not_eq_eq_eq_not, Bool.not_true, Bool.not_false, decide_eq_true_eq, decide_eq_false_iff_not, Int.not_lt, Int.not_le] at hc) <;> (try (exfalso; omega)) <;> (try simp (disch := omega) [go_sem, *, wrap64_id, upd_ne, mk3_true, flatten_replicate_one, stepK_if, ilt_true, ilt_false, ile_true, ile_false, Tryz.ntmps14]))
    | (refine ac_cond_h fun Kt Kf ht hf => ?_; simp (disch := omega) [go_sem, *]; try (refine ⟨fun hc => ?_, fun hc => ?_⟩ <;> try (exfalso; omega))))
  refine ac_rounds 4 ?_
  unfold ACRounds
  repeat' (first
    | (refine ac_seq_h fun K hK => ?_)
    | (refine ac_region_h fun K hK => ?_; simp (disch := omega) [go_sem, *, wrap64_id, upd_ne, ilt_true])
    | (refine ac_draw_h mixed (by kernel_rfl) fun K hK => ?_; simp (disch := omega) [go_sem, *, upd_ne, ile_true])
    | (refine ac_quiet_h mixed (by kernel_rfl) fun K hK => ?_; simp (disch := omega) [go_sem, *, wrap64_id, upd_ne, mk3_true, flatten_replicate_one, stepK_if, ilt_true, ilt_false, ile_true, ile_false])
    | (refine aQ_c (by simp [go_sem]) (by simp (disch := omega) [go_sem, *]; first | exact rfl | exact ⟨rfl, rfl, rfl⟩ | exact (ka).gcall ⟨rfl, rfl, rfl⟩ | exact (kb).gcall ⟨rfl, rfl, rfl⟩) ?_; try simp only [pS_some, pS_none])
    | (refine aQ_c (by simp [go_sem]) (by (try simp (disch := omega) [go_sem, *]); first | exact rfl | exact ⟨rfl, rfl, rfl⟩ | exact (ka).gcall ⟨rfl, rfl, rfl⟩ | exact (kb).gcall ⟨rfl, rfl, rfl⟩) ?_; try simp only [pS_some, pS_none])
    | (refine aQ_end ?_)
    | (apply Hide.out hK; clear hK K; try with_reducible dsimp only [thenA])
    | (apply Hide.out ht; clear ht hf Kt Kf)
    | (apply Hide.out hf; clear ht hf Kt Kf)
    | (clear hK K; apply Hide.out hK; clear hK K; try with_reducible dsimp only [thenA])
    | (clear hK K; clear hK K; apply Hide.out hK; clear hK K; try with_reducible dsimp only [thenA])
    | (with_reducible refine APure.gcall (ka) ?_; try simp (disch := omega) [go_sem, *])
    | (with_reducible refine APure.gcall (kb) ?_; try simp (disch := omega) [go_sem, *])
    | (refine ac_block ?_)
    | (refine ac_skip ?_; simp only [thenA, blockA])
    | (refine ac_exit ?_; simp only [thenA, blockA, if_true])
    | (with_reducible show nextK _ _ _ _ _ _ _; simp (disch := omega) [go_sem, *, wrap64_id, upd_ne, mk3_true, flatten_replicate_one, stepK_if, ilt_true, ilt_false, ile_true, ile_false])
    | (refine wantK_split (fun hc => ?_) (fun hc => ?_) <;> (try simp only [Bool.not_eq_true', Bool.not_eq_false', Bool.not_eq_eq_eq_not, Bool.not_true, Bool.not_false, decide_eq_true_eq, decide_eq_false_iff_not, Int.not_lt, Int.not_le] at hc) <;> (try (exfalso; omega)) <;> (try simp (disch := omega) [go_sem, *, wrap64_id, upd_ne, mk3_true, flatten_replicate_one, stepK_if, ilt_true, ilt_false, ile_true, ile_false]))
    | (refine ac_cond_h fun Kt Kf ht hf => ?_; simp (disch := omega) [go_sem, *]; try (refine ⟨fun hc => ?_, fun hc => ?_⟩ <;> try (exfalso; omega))))
  (refine ac_ret ?_; try dsimp only [thenA, blockA]; refine ⟨by simp, _, (by first | rfl | (simp (disch := omega) [go_sem, upd_ne] <;> rfl)), ?_⟩; refine ret_id ⟨fun k hk => (by first | rfl | (repeat rw [upd_ne _ _ _ _ (by omega)])), (by simp [go_sem, below]), (by simp [go_sem] <;> omega), by simp, by simp⟩)
theorem same_pair : ∀ (N : Nat) (c : Cnd), tot c ≤ N → ok c = true → ∀ t : Bool, APure Tryz.prog 14 [encC (Cw.inw c t), encC (Cw.rinw c t)] (bv true)
  | 0, c, hN, _ => by have := tot_pos c; omega
  | N + 1, .mk k f o nn nl fu s ks, hN, hok => by
    intro t
    simp only [tot] at hN
    rcases ok_cases hok with ⟨rfl, rfl, _⟩ | ⟨rfl, a, rfl, ha, _⟩ | ⟨hk, a, b, rfl, ha, hb, rfl, rfl, rfl⟩
    · simp only [Cw.inw, Cw.rinw, if_true]
      exact same_nil _ _ _ _ _ _ _ _ _ _
    · simp only [totL] at hN
      have := same_pair N a (by omega) ha (!t)
      simpa [Cw.inw, Cw.rinw, inwL, rinwL] using this
    · simp only [totL] at hN
      have ka := same_pair N a (by omega) ha t
      have kb := same_pair N b (by omega) hb t
      have e1 : Cw.inw (.mk k 0 0 0 nl fu s [a, b]) t = .mk (if t then 7 - k else k) 0 0 0 false false 5 [Cw.inw a t, Cw.inw b t] := by
        rcases hk with rfl | rfl <;> simp [Cw.inw, inwL]
      have e2 : Cw.rinw (.mk k 0 0 0 nl fu s [a, b]) t = .mk (if t then 7 - k else k) 0 0 0 false false 5 [Cw.rinw a t, Cw.rinw b t] := by
        rcases hk with rfl | rfl <;> simp [Cw.rinw, rinwL]
      rw [e1, e2]
      exact same_two _ _ _ _ _ _ _ _ ka kb
end Go.AM

namespace Go.AM
open Go.Proofs Cw
set_option maxRecDepth 10000
set_option maxHeartbeats 4000000
def outH (c : Cnd) (fs : Fs) : Bool × Int := if !(Cw.formed c) then (false, 7) else if !fs.ok then (false, 1) else (Cw.holds c fs, 0)
theorem Holds_spec (c : Cnd) (hw : wf c) (hs : tot c ≤ 900) (fs : Fs) : APure Tryz.prog 10 [encC c, encF fs] (.tup [bv (outH c fs).1, iv .i64 (outH c fs).2]) := by
  intro h n
  have k1 := formed_spec c hw hs
  have k2 := valid_spec fs
  have k3 := fun hok => holds_spec _ c (Nat.le_refl _) hw hok fs
  have hfo : Cw.formed c = true → ok c = true := fun e => by simp only [Cw.formed, Bool.and_eq_true] at e; exact e.1.1
  refine ACalls.pure (ACalls.entry (by kernel_rfl) fun hb _ => calls_of Tryz.func10 rfl (by kernel_rfl) (by simp [Tryz.ntmps10]) ?_)
  unfold outH
  by_cases hf : Cw.formed c = true
  · replace k3 := k3 (hfo hf)
    rw [hf] at k1 ⊢
    clear hfo hf hs hw
    generalize Cw.holds c fs = x at *
    obtain ⟨k, f, o, nn, nl, fu, s, ks⟩ := c
    simp only [encC] at k1 k3 ⊢
    by_cases hv : fs.ok = true
    · rw [hv] at k2 ⊢
      simp only [Bool.not_true, Bool.false_eq_true, if_false]
      repeat' (first
        | (refine ac_seq_h fun K hK => ?_)
        | (refine ac_region_h fun K hK => ?_; simp (disch := omega) [go_sem, *, upd_ne, Tryz.ntmps10 ])
        | (refine ac_draw_h mixed (by kernel_rfl) fun K hK => ?_; simp (disch := omega) [go_sem, *, wrap64_id, upd_ne, mk3_true, flatten_replicate_one, stepK_if, ilt_true, ilt_false, ile_true, ile_false, Tryz.ntmps10 ])
        | (refine ac_quiet_h mixed (by kernel_rfl) fun K hK => ?_; simp (disch := omega) [go_sem, *, wrap64_id, upd_ne, mk3_true, flatten_replicate_one, stepK_if, ilt_true, ilt_false, ile_true, ile_false, Tryz.ntmps10 ])
        | (refine aQ_c (by simp [go_sem]) (by simp (disch := omega) [go_sem, * ]; first | exact rfl | exact ⟨rfl, rfl, rfl⟩ | exact (k1).gcall ⟨rfl, rfl, rfl⟩ | exact (k2).gcall ⟨rfl, rfl, rfl⟩ | exact (k3).gcall ⟨rfl, rfl, rfl⟩) ?_; try simp only [pS_some, pS_none])
        | (refine aQ_c (by simp [go_sem]) (by (try simp (disch := omega) [go_sem, * ]); first | exact rfl | exact ⟨rfl, rfl, rfl⟩ | exact (k1).gcall ⟨rfl, rfl, rfl⟩ | exact (k2).gcall ⟨rfl, rfl, rfl⟩ | exact (k3).gcall ⟨rfl, rfl, rfl⟩) ?_; try simp only [pS_some, pS_none])
        | (refine aQ_end ?_)
        | (apply Hide.out hK; clear hK K; try with_reducible dsimp only [thenA])
        | (apply Hide.out ht; clear ht hf Kt Kf)
        | (apply Hide.out hf; clear ht hf Kt Kf)
        | (clear hK K; apply Hide.out hK; clear hK K; try with_reducible dsimp only [thenA])
        | (clear hK K; clear hK K; apply Hide.out hK; clear hK K; try with_reducible dsimp only [thenA])
        | (with_reducible refine APure.gcall (k1) ?_; try simp (disch := omega) [go_sem, * ])
        | (with_reducible refine APure.gcall (k2) ?_; try simp (disch := omega) [go_sem, * ])
        | (with_reducible refine APure.gcall (k3) ?_; try simp (disch := omega) [go_sem, * ])
        | (refine ac_block ?_)
        | (refine ac_skip ?_; simp only [thenA, blockA])
        | (refine ac_exit ?_; simp only [thenA, blockA, if_true, if_false, Nat.reduceEqDiff])
        | (with_reducible show nextK _ _ _ _ _ _ _; simp (disch := omega) [go_sem, *, wrap64_id, upd_ne, mk3_true, flatten_replicate_one, stepK_if, ilt_true, ilt_false, ile_true, ile_false, Tryz.ntmps10 ])
        | (refine wantK_split (fun hc => ?_) (fun hc => ?_) <;> (try simp only [Bool.not_eq_true', Bool.not_eq_false', Bool.not_eq_eq_eq_not, Bool.not_true, Bool.not_false, decide_eq_true_eq, decide_eq_false_iff_not, Int.not_lt, Int.not_le] at hc) <;> (try (exfalso; omega)) <;> (try simp (disch := omega) [go_sem, *, wrap64_id, upd_ne, mk3_true, flatten_replicate_one, stepK_if, ilt_true, ilt_false, ile_true, ile_false, Tryz.ntmps10 ]))
        | (refine ac_cond_h fun Kt Kf ht hf => ?_; simp (disch := omega) [go_sem, * ]; try (refine ⟨fun hc => ?_, fun hc => ?_⟩ <;> try (exfalso; omega))))
      (refine ac_ret ?_; try dsimp only [thenA, blockA]; refine ⟨by simp, _, (by first | rfl | (simp (disch := omega) [go_sem, upd_ne] <;> rfl)), ?_⟩; refine ret_id ⟨fun k hk => (by first | rfl | (repeat rw [upd_ne _ _ _ _ (by omega)])), (by simp [go_sem, below, belowL]), (by simp [go_sem] <;> omega), by simp, by simp⟩)
    · rw [Bool.not_eq_true] at hv
      rw [hv] at k2 ⊢
      simp only [Bool.not_true, Bool.not_false, Bool.false_eq_true, if_false, if_true]
      repeat' (first
        | (refine ac_seq_h fun K hK => ?_)
        | (refine ac_region_h fun K hK => ?_; simp (disch := omega) [go_sem, *, upd_ne, Tryz.ntmps10 ])
        | (refine ac_draw_h mixed (by kernel_rfl) fun K hK => ?_; simp (disch := omega) [go_sem, *, wrap64_id, upd_ne, mk3_true, flatten_replicate_one, stepK_if, ilt_true, ilt_false, ile_true, ile_false, Tryz.ntmps10 ])
        | (refine ac_quiet_h mixed (by kernel_rfl) fun K hK => ?_; simp (disch := omega) [go_sem, *, wrap64_id, upd_ne, mk3_true, flatten_replicate_one, stepK_if, ilt_true, ilt_false, ile_true, ile_false, Tryz.ntmps10 ])
        | (refine aQ_c (by simp [go_sem]) (by simp (disch := omega) [go_sem, * ]; first | exact rfl | exact ⟨rfl, rfl, rfl⟩ | exact (k1).gcall ⟨rfl, rfl, rfl⟩ | exact (k2).gcall ⟨rfl, rfl, rfl⟩ | exact (k3).gcall ⟨rfl, rfl, rfl⟩) ?_; try simp only [pS_some, pS_none])
        | (refine aQ_c (by simp [go_sem]) (by (try simp (disch := omega) [go_sem, * ]); first | exact rfl | exact ⟨rfl, rfl, rfl⟩ | exact (k1).gcall ⟨rfl, rfl, rfl⟩ | exact (k2).gcall ⟨rfl, rfl, rfl⟩ | exact (k3).gcall ⟨rfl, rfl, rfl⟩) ?_; try simp only [pS_some, pS_none])
        | (refine aQ_end ?_)
        | (apply Hide.out hK; clear hK K; try with_reducible dsimp only [thenA])
        | (apply Hide.out ht; clear ht hf Kt Kf)
        | (apply Hide.out hf; clear ht hf Kt Kf)
        | (clear hK K; apply Hide.out hK; clear hK K; try with_reducible dsimp only [thenA])
        | (clear hK K; clear hK K; apply Hide.out hK; clear hK K; try with_reducible dsimp only [thenA])
        | (with_reducible refine APure.gcall (k1) ?_; try simp (disch := omega) [go_sem, * ])
        | (with_reducible refine APure.gcall (k2) ?_; try simp (disch := omega) [go_sem, * ])
        | (with_reducible refine APure.gcall (k3) ?_; try simp (disch := omega) [go_sem, *, wrap64_id, upd_ne, mk3_true, flatten_replicate_one, stepK_if, ilt_true, ilt_false, ile_true, ile_false, Tryz.ntmps10 ])
        | (refine ac_block ?_)
        | (refine ac_skip ?_; simp only [thenA, blockA])
        | (refine ac_exit ?_; simp only [thenA, blockA, if_true, if_false, Nat.reduceEqDiff])
        | (with_reducible show nextK _ _ _ _ _ _ _; simp (disch := omega) [go_sem, *, wrap64_id, upd_ne, mk3_true, flatten_replicate_one, stepK_if, ilt_true, ilt_false, ile_true, ile_false, Tryz.ntmps10 ])
        | (refine wantK_split (fun hc => ?_) (fun hc => ?_) <;> (try simp only [Bool.not_eq_true', Bool.not_eq_false', Bool.not_eq_eq_eq_not, Bool.not_true, Bool.not_false, decide_eq_true_eq, decide_eq_false_iff_not, Int.not_lt, Int.not_le] at hc) <;> (try (exfalso; omega)) <;> (try simp (disch := omega) [go_sem, *, wrap64_id, upd_ne, mk3_true, flatten_replicate_one, stepK_if, ilt_true, ilt_false, ile_true, ile_false, Tryz.ntmps10 ]))
        | (refine ac_cond_h fun Kt Kf ht hf => ?_; simp (disch := omega) [go_sem, * ]; try (refine ⟨fun hc => ?_, fun hc => ?_⟩ <;> try (exfalso; omega))))
      (refine ac_ret ?_; try dsimp only [thenA, blockA]; refine ⟨by simp, _, (by first | rfl | (simp (disch := omega) [go_sem, upd_ne] <;> rfl)), ?_⟩; refine ret_id ⟨fun k hk => (by first | rfl | (repeat rw [upd_ne _ _ _ _ (by omega)])), (by simp [go_sem, below, belowL]), (by simp [go_sem] <;> omega), by simp, by simp⟩)
  · rw [Bool.not_eq_true] at hf
    rw [hf] at k1 ⊢
    clear hfo hf hs hw k3
    obtain ⟨k, f, o, nn, nl, fu, s, ks⟩ := c
    simp only [encC] at k1 ⊢
    simp only [Bool.not_false, if_true]
    repeat' (first
      | (refine ac_seq_h fun K hK => ?_)
      | (refine ac_region_h fun K hK => ?_; simp (disch := omega) [go_sem, *, upd_ne, Tryz.ntmps10 ])
      | (refine ac_draw_h mixed (by kernel_rfl) fun K hK => ?_; simp (disch := omega) [go_sem, *, wrap64_id, upd_ne, mk3_true, flatten_replicate_one, stepK_if, ilt_true, ilt_false, ile_true, ile_false, Tryz.ntmps10 ])
      | (refine ac_quiet_h mixed (by kernel_rfl) fun K hK => ?_; simp (disch := omega) [go_sem, *, wrap64_id, upd_ne, mk3_true, flatten_replicate_one, stepK_if, ilt_true, ilt_false, ile_true, ile_false, Tryz.ntmps10 ])
      | (refine aQ_c (by simp [go_sem]) (by simp (disch := omega) [go_sem, * ]; first | exact rfl | exact ⟨rfl, rfl, rfl⟩ | exact (k1).gcall ⟨rfl, rfl, rfl⟩ | exact (k2).gcall ⟨rfl, rfl, rfl⟩) ?_; try simp only [pS_some, pS_none])
      | (refine aQ_c (by simp [go_sem]) (by (try simp (disch := omega) [go_sem, * ]); first | exact rfl | exact ⟨rfl, rfl, rfl⟩ | exact (k1).gcall ⟨rfl, rfl, rfl⟩ | exact (k2).gcall ⟨rfl, rfl, rfl⟩) ?_; try simp only [pS_some, pS_none])
      | (refine aQ_end ?_)
      | (apply Hide.out hK; clear hK K; try with_reducible dsimp only [thenA])
      | (apply Hide.out ht; clear ht hf Kt Kf)
      | (apply Hide.out hf; clear ht hf Kt Kf)
      | (clear hK K; apply Hide.out hK; clear hK K; try with_reducible dsimp only [thenA])
      | (clear hK K; clear hK K; apply Hide.out hK; clear hK K; try with_reducible dsimp only [thenA])
      | (with_reducible refine APure.gcall (k1) ?_; try simp (disch := omega) [go_sem, * ])
      | (with_reducible refine APure.gcall (k2) ?_; try simp (disch := omega) [go_sem, *, wrap64_id, upd_ne, mk3_true, flatten_replicate_one, stepK_if, ilt_true, ilt_false, ile_true, ile_false, Tryz.ntmps10 ])
      | (refine ac_block ?_)
      | (refine ac_skip ?_; simp only [thenA, blockA])
      | (refine ac_exit ?_; simp only [thenA, blockA, if_true, if_false, Nat.reduceEqDiff])
      | (with_reducible show nextK _ _ _ _ _ _ _; simp (disch := omega) [go_sem, *, wrap64_id, upd_ne, mk3_true, flatten_replicate_one, stepK_if, ilt_true, ilt_false, ile_true, ile_false, Tryz.ntmps10 ])
      | (refine wantK_split (fun hc => ?_) (fun hc => ?_) <;> (try simp only [Bool.not_eq_true', Bool.not_eq_false', Bool.not_eq_eq_eq_not, Bool.not_true, Bool.not_false, decide_eq_true_eq, decide_eq_false_iff_not, Int.not_lt, Int.not_le] at hc) <;> (try (exfalso; omega)) <;> (try simp (disch := omega) [go_sem, *, wrap64_id, upd_ne, mk3_true, flatten_replicate_one, stepK_if, ilt_true, ilt_false, ile_true, ile_false, Tryz.ntmps10 ]))
      | (refine ac_cond_h fun Kt Kf ht hf => ?_; simp (disch := omega) [go_sem, * ]; try (refine ⟨fun hc => ?_, fun hc => ?_⟩ <;> try (exfalso; omega))))
    (refine ac_ret ?_; try dsimp only [thenA, blockA]; refine ⟨by simp, _, (by first | rfl | (simp (disch := omega) [go_sem, upd_ne] <;> rfl)), ?_⟩; refine ret_id ⟨fun k hk => (by first | rfl | (repeat rw [upd_ne _ _ _ _ (by omega)])), (by simp [go_sem, below, belowL]), (by simp [go_sem] <;> omega), by simp, by simp⟩)
theorem rHolds_spec (c : Cnd) (hw : wf c) (hs : tot c ≤ 900) (fs : Fs) : APure Tryz.prog 11 [encC c, encF fs] (.tup [bv (outH c fs).1, iv .i64 (outH c fs).2]) := by
  intro h n
  have k1 := formedC_spec c hw
  have k2 := asFacts_spec fs
  have k3 := fun hok => true_spec _ c (Nat.le_refl _) hw hok fs
  have hfo : Cw.formed c = true → ok c = true := fun e => by simp only [Cw.formed, Bool.and_eq_true] at e; exact e.1.1
  refine ACalls.pure (ACalls.entry (by kernel_rfl) fun hb _ => calls_of Tryz.func11 rfl (by kernel_rfl) (by simp [Tryz.ntmps11]) ?_)
  unfold outH
  by_cases hf : Cw.formed c = true
  · replace k3 := k3 (hfo hf)
    rw [hf] at k1 ⊢
    clear hfo hf hs hw
    generalize Cw.holds c fs = x at *
    obtain ⟨k, f, o, nn, nl, fu, s, ks⟩ := c
    simp only [encC] at k1 k3 ⊢
    by_cases hv : fs.ok = true
    · rw [hv] at k2 ⊢
      simp only [Bool.not_true, Bool.false_eq_true, if_false]
      repeat' (first
        | (refine ac_seq_h fun K hK => ?_)
        | (refine ac_region_h fun K hK => ?_; simp (disch := omega) [go_sem, *, upd_ne, Tryz.ntmps11 ])
        | (refine ac_draw_h mixed (by kernel_rfl) fun K hK => ?_; simp (disch := omega) [go_sem, *, wrap64_id, upd_ne, mk3_true, flatten_replicate_one, stepK_if, ilt_true, ilt_false, ile_true, ile_false, Tryz.ntmps11 ])
        | (refine ac_quiet_h mixed (by kernel_rfl) fun K hK => ?_; simp (disch := omega) [go_sem, *, wrap64_id, upd_ne, mk3_true, flatten_replicate_one, stepK_if, ilt_true, ilt_false, ile_true, ile_false, Tryz.ntmps11 ])
        | (refine aQ_c (by simp [go_sem]) (by simp (disch := omega) [go_sem, * ]; first | exact rfl | exact ⟨rfl, rfl, rfl⟩ | exact (k1).gcall ⟨rfl, rfl, rfl⟩ | exact (k2).gcall ⟨rfl, rfl, rfl⟩ | exact (k3).gcall ⟨rfl, rfl, rfl⟩) ?_; try simp only [pS_some, pS_none])
        | (refine aQ_c (by simp [go_sem]) (by (try simp (disch := omega) [go_sem, * ]); first | exact rfl | exact ⟨rfl, rfl, rfl⟩ | exact (k1).gcall ⟨rfl, rfl, rfl⟩ | exact (k2).gcall ⟨rfl, rfl, rfl⟩ | exact (k3).gcall ⟨rfl, rfl, rfl⟩) ?_; try simp only [pS_some, pS_none])
        | (refine aQ_end ?_)
        | (apply Hide.out hK; clear hK K; try with_reducible dsimp only [thenA])
        | (apply Hide.out ht; clear ht hf Kt Kf)
        | (apply Hide.out hf; clear ht hf Kt Kf)
        | (clear hK K; apply Hide.out hK; clear hK K; try with_reducible dsimp only [thenA])
        | (clear hK K; clear hK K; apply Hide.out hK; clear hK K; try with_reducible dsimp only [thenA])
        | (with_reducible refine APure.gcall (k1) ?_; try simp (disch := omega) [go_sem, * ])
        | (with_reducible refine APure.gcall (k2) ?_; try simp (disch := omega) [go_sem, * ])
        | (with_reducible refine APure.gcall (k3) ?_; try simp (disch := omega) [go_sem, * ])
        | (refine ac_block ?_)
        | (refine ac_skip ?_; simp only [thenA])
        | (refine ac_exit ?_; simp only [thenA, blockA, if_true, if_false, Nat.reduceEqDiff])
        | (with_reducible show nextK _ _ _ _ _ _ _; simp (disch := omega) [go_sem, *, wrap64_id, upd_ne, mk3_true, flatten_replicate_one, stepK_if, ilt_true, ilt_false, ile_true, ile_false, Tryz.ntmps11 ])
        | (refine wantK_split (fun hc => ?_) (fun hc => ?_) <;> (try simp only [Bool.not_eq_true', Bool.not_eq_false', Bool.not_eq_eq_eq_not, Bool.not_true, Bool.not_false, decide_eq_true_eq, decide_eq_false_iff_not, Int.not_lt, Int.not_le] at hc) <;> (try (exfalso; omega)) <;> (try simp (disch := omega) [go_sem, *, wrap64_id, upd_ne, mk3_true, flatten_replicate_one, stepK_if, ilt_true, ilt_false, ile_true, ile_false, Tryz.ntmps11 ]))
        | (refine ac_cond_h fun Kt Kf ht hf => ?_; simp (disch := omega) [go_sem, * ]; try (refine ⟨fun hc => ?_, fun hc => ?_⟩ <;> try (exfalso; omega))))
      (refine ac_ret ?_; try dsimp only [thenA, blockA]; refine ⟨by simp, _, (by first | rfl | (simp (disch := omega) [go_sem, upd_ne] <;> rfl)), ?_⟩; refine ret_id ⟨fun k hk => (by first | rfl | (repeat rw [upd_ne _ _ _ _ (by omega)])), (by simp [go_sem, below, belowL]), (by simp [go_sem] <;> omega), by simp, by simp⟩)
    · rw [Bool.not_eq_true] at hv
      rw [hv] at k2 ⊢
      simp only [Bool.not_true, Bool.not_false, Bool.false_eq_true, if_false, if_true]
      repeat' (first
        | (refine ac_seq_h fun K hK => ?_)
        | (refine ac_region_h fun K hK => ?_; simp (disch := omega) [go_sem, *, upd_ne, Tryz.ntmps11 ])
        | (refine ac_draw_h mixed (by kernel_rfl) fun K hK => ?_; simp (disch := omega) [go_sem, *, wrap64_id, upd_ne, mk3_true, flatten_replicate_one, stepK_if, ilt_true, ilt_false, ile_true, ile_false, Tryz.ntmps11 ])
        | (refine ac_quiet_h mixed (by kernel_rfl) fun K hK => ?_; simp (disch := omega) [go_sem, *, wrap64_id, upd_ne, mk3_true, flatten_replicate_one, stepK_if, ilt_true, ilt_false, ile_true, ile_false, Tryz.ntmps11 ])
        | (refine aQ_c (by simp [go_sem]) (by simp (disch := omega) [go_sem, * ]; first | exact rfl | exact ⟨rfl, rfl, rfl⟩ | exact (k1).gcall ⟨rfl, rfl, rfl⟩ | exact (k2).gcall ⟨rfl, rfl, rfl⟩ | exact (k3).gcall ⟨rfl, rfl, rfl⟩) ?_; try simp only [pS_some, pS_none])
        | (refine aQ_c (by simp [go_sem]) (by (try simp (disch := omega) [go_sem, * ]); first | exact rfl | exact ⟨rfl, rfl, rfl⟩ | exact (k1).gcall ⟨rfl, rfl, rfl⟩ | exact (k2).gcall ⟨rfl, rfl, rfl⟩ | exact (k3).gcall ⟨rfl, rfl, rfl⟩) ?_; try simp only [pS_some, pS_none])
        | (refine aQ_end ?_)
        | (apply Hide.out hK; clear hK K; try with_reducible dsimp only [thenA])
        | (apply Hide.out ht; clear ht hf Kt Kf)
        | (apply Hide.out hf; clear ht hf Kt Kf)
        | (clear hK K; apply Hide.out hK; clear hK K; try with_reducible dsimp only [thenA])
        | (clear hK K; clear hK K; apply Hide.out hK; clear hK K; try with_reducible dsimp only [thenA])
        | (with_reducible refine APure.gcall (k1) ?_; try simp (disch := omega) [go_sem, * ])
        | (with_reducible refine APure.gcall (k2) ?_; try simp (disch := omega) [go_sem, * ])
        | (with_reducible refine APure.gcall (k3) ?_; try simp (disch := omega) [go_sem, *, wrap64_id, upd_ne, mk3_true, flatten_replicate_one, stepK_if, ilt_true, ilt_false, ile_true, ile_false, Tryz.ntmps11 ])
        | (refine ac_block ?_)
        | (refine ac_skip ?_; simp only [thenA])
        | (refine ac_exit ?_; simp only [thenA, blockA, if_true, if_false, Nat.reduceEqDiff])
        | (with_reducible show nextK _ _ _ _ _ _ _; simp (disch := omega) [go_sem, *, wrap64_id, upd_ne, mk3_true, flatten_replicate_one, stepK_if, ilt_true, ilt_false, ile_true, ile_false, Tryz.ntmps11 ])
        | (refine wantK_split (fun hc => ?_) (fun hc => ?_) <;> (try simp only [Bool.not_eq_true', Bool.not_eq_false', Bool.not_eq_eq_eq_not, Bool.not_true, Bool.not_false, decide_eq_true_eq, decide_eq_false_iff_not, Int.not_lt, Int.not_le] at hc) <;> (try (exfalso; omega)) <;> (try simp (disch := omega) [go_sem, *, wrap64_id, upd_ne, mk3_true, flatten_replicate_one, stepK_if, ilt_true, ilt_false, ile_true, ile_false, Tryz.ntmps11 ]))
        | (refine ac_cond_h fun Kt Kf ht hf => ?_; simp (disch := omega) [go_sem, * ]; try (refine ⟨fun hc => ?_, fun hc => ?_⟩ <;> try (exfalso; omega))))
      (refine ac_ret ?_; try dsimp only [thenA, blockA]; refine ⟨by simp, _, (by first | rfl | (simp (disch := omega) [go_sem, upd_ne] <;> rfl)), ?_⟩; refine ret_id ⟨fun k hk => (by first | rfl | (repeat rw [upd_ne _ _ _ _ (by omega)])), (by simp [go_sem, below, belowL]), (by simp [go_sem] <;> omega), by simp, by simp⟩)
  · rw [Bool.not_eq_true] at hf
    rw [hf] at k1 ⊢
    clear hfo hf hs hw k3
    obtain ⟨k, f, o, nn, nl, fu, s, ks⟩ := c
    simp only [encC] at k1 ⊢
    simp only [Bool.not_false, if_true]
    repeat' (first
      | (refine ac_seq_h fun K hK => ?_)
      | (refine ac_region_h fun K hK => ?_; simp (disch := omega) [go_sem, *, upd_ne, Tryz.ntmps11 ])
      | (refine ac_draw_h mixed (by kernel_rfl) fun K hK => ?_; simp (disch := omega) [go_sem, *, wrap64_id, upd_ne, mk3_true, flatten_replicate_one, stepK_if, ilt_true, ilt_false, ile_true, ile_false, Tryz.ntmps11 ])
      | (refine ac_quiet_h mixed (by kernel_rfl) fun K hK => ?_; simp (disch := omega) [go_sem, *, wrap64_id, upd_ne, mk3_true, flatten_replicate_one, stepK_if, ilt_true, ilt_false, ile_true, ile_false, Tryz.ntmps11 ])
      | (refine aQ_c (by simp [go_sem]) (by simp (disch := omega) [go_sem, * ]; first | exact rfl | exact ⟨rfl, rfl, rfl⟩ | exact (k1).gcall ⟨rfl, rfl, rfl⟩ | exact (k2).gcall ⟨rfl, rfl, rfl⟩) ?_; try simp only [pS_some, pS_none])
      | (refine aQ_c (by simp [go_sem]) (by (try simp (disch := omega) [go_sem, * ]); first | exact rfl | exact ⟨rfl, rfl, rfl⟩ | exact (k1).gcall ⟨rfl, rfl, rfl⟩ | exact (k2).gcall ⟨rfl, rfl, rfl⟩) ?_; try simp only [pS_some, pS_none])
      | (refine aQ_end ?_)
      | (apply Hide.out hK; clear hK K; try with_reducible dsimp only [thenA])
      | (apply Hide.out ht; clear ht hf Kt Kf)
      | (apply Hide.out hf; clear ht hf Kt Kf)
      | (clear hK K; apply Hide.out hK; clear hK K; try with_reducible dsimp only [thenA])
      | (clear hK K; clear hK K; apply Hide.out hK; clear hK K; try with_reducible dsimp only [thenA])
      | (with_reducible refine APure.gcall (k1) ?_; try simp (disch := omega) [go_sem, * ])
      | (with_reducible refine APure.gcall (k2) ?_; try simp (disch := omega) [go_sem, *, wrap64_id, upd_ne, mk3_true, flatten_replicate_one, stepK_if, ilt_true, ilt_false, ile_true, ile_false, Tryz.ntmps11 ])
      | (refine ac_block ?_)
      | (refine ac_skip ?_; simp only [thenA, blockA])
      | (refine ac_exit ?_; simp only [thenA, blockA, if_true, if_false, Nat.reduceEqDiff])
      | (with_reducible show nextK _ _ _ _ _ _ _; simp (disch := omega) [go_sem, *, wrap64_id, upd_ne, mk3_true, flatten_replicate_one, stepK_if, ilt_true, ilt_false, ile_true, ile_false, Tryz.ntmps11 ])
      | (refine wantK_split (fun hc => ?_) (fun hc => ?_) <;> (try simp only [Bool.not_eq_true', Bool.not_eq_false', Bool.not_eq_eq_eq_not, Bool.not_true, Bool.not_false, decide_eq_true_eq, decide_eq_false_iff_not, Int.not_lt, Int.not_le] at hc) <;> (try (exfalso; omega)) <;> (try simp (disch := omega) [go_sem, *, wrap64_id, upd_ne, mk3_true, flatten_replicate_one, stepK_if, ilt_true, ilt_false, ile_true, ile_false, Tryz.ntmps11 ]))
      | (refine ac_cond_h fun Kt Kf ht hf => ?_; simp (disch := omega) [go_sem, * ]; try (refine ⟨fun hc => ?_, fun hc => ?_⟩ <;> try (exfalso; omega))))
    (refine ac_ret ?_; try dsimp only [thenA, blockA]; refine ⟨by simp, _, (by first | rfl | (simp (disch := omega) [go_sem, upd_ne] <;> rfl)), ?_⟩; refine ret_id ⟨fun k hk => (by first | rfl | (repeat rw [upd_ne _ _ _ _ (by omega)])), (by simp [go_sem, below, belowL]), (by simp [go_sem] <;> omega), by simp, by simp⟩)
def zC : Cnd := .mk 0 0 0 0 true true 0 []
def encT : Cnd → Int → AV
  | .mk k f o n nl fu s ks, e => .agg [iv .i64 k, iv .i64 f, iv .i64 o, iv .i64 n, .fslc nl fu s (encL ks), iv .i64 e]
theorem Inward_spec (c : Cnd) (hw : wf c) (hs : tot c ≤ 900) : APure Tryz.prog 12 [encC c] (.tup [encC (if Cw.formed c then Cw.inw c false else zC), iv .i64 (if Cw.formed c then 0 else 7)]) := by
  intro h n
  have k1 := formed_spec c hw hs
  have k3 := fun hok => winward_spec _ c (Nat.le_refl _) hw hok false
  have hfo : Cw.formed c = true → ok c = true := fun e => by simp only [Cw.formed, Bool.and_eq_true] at e; exact e.1.1
  refine ACalls.pure (ACalls.entry (by kernel_rfl) fun hb _ => calls_of Tryz.func12 rfl (by kernel_rfl) (by simp [Tryz.ntmps12]) ?_)
  by_cases hf : Cw.formed c = true
  · replace k3 := k3 (hfo hf)
    rw [hf] at k1 ⊢
    clear hfo hf hs hw
    generalize Cw.inw c false = r at *
    obtain ⟨k, f, o, nn, nl, fu, s, ks⟩ := c
    obtain ⟨rk, rf, ro, rn, rnl, rfu, rsz, rks⟩ := r
    simp only [encC, if_true] at k1 k3 ⊢
    repeat' (first
      | (refine ac_seq_h fun K hK => ?_)
      | (refine ac_region_h fun K hK => ?_; simp (disch := omega) [go_sem, *, upd_ne, Tryz.ntmps12 ])
      | (refine ac_draw_h mixed (by kernel_rfl) fun K hK => ?_; simp (disch := omega) [go_sem, *, wrap64_id, upd_ne, mk3_true, flatten_replicate_one, stepK_if, ilt_true, ilt_false, ile_true, ile_false, Tryz.ntmps12 ])
      | (refine ac_quiet_h mixed (by kernel_rfl) fun K hK => ?_; simp (disch := omega) [go_sem, *, wrap64_id, upd_ne, mk3_true, flatten_replicate_one, stepK_if, ilt_true, ilt_false, ile_true, ile_false, Tryz.ntmps12 ])
      | (refine aQ_c (by simp [go_sem]) (by simp (disch := omega) [go_sem, * ]; first | exact rfl | exact ⟨rfl, rfl, rfl⟩ | exact (k1).gcall ⟨rfl, rfl, rfl⟩ | exact (k3).gcall ⟨rfl, rfl, rfl⟩) ?_; try simp only [pS_some, pS_none])
      | (refine aQ_c (by simp [go_sem]) (by (try simp (disch := omega) [go_sem, * ]); first | exact rfl | exact ⟨rfl, rfl, rfl⟩ | exact (k1).gcall ⟨rfl, rfl, rfl⟩ | exact (k3).gcall ⟨rfl, rfl, rfl⟩) ?_; try simp only [pS_some, pS_none])
      | (refine aQ_end ?_)
      | (apply Hide.out hK; clear hK K; try with_reducible dsimp only [thenA])
      | (apply Hide.out ht; clear ht hf Kt Kf)
      | (apply Hide.out hf; clear ht hf Kt Kf)
      | (clear hK K; apply Hide.out hK; clear hK K; try with_reducible dsimp only [thenA])
      | (clear hK K; clear hK K; apply Hide.out hK; clear hK K; try with_reducible dsimp only [thenA])
      | (with_reducible refine APure.gcall (k1) ?_; try simp (disch := omega) [go_sem, * ])
      | (with_reducible refine APure.gcall (k3) ?_; try simp (disch := omega) [go_sem, * ])
      | (refine ac_block ?_)
      | (refine ac_skip ?_; simp only [thenA])
      | (refine ac_exit ?_; simp only [thenA, blockA, if_true, if_false, Nat.reduceEqDiff])
      | (with_reducible show nextK _ _ _ _ _ _ _; simp (disch := omega) [go_sem, *, wrap64_id, upd_ne, mk3_true, flatten_replicate_one, stepK_if, ilt_true, ilt_false, ile_true, ile_false, Tryz.ntmps12 ])
      | (refine wantK_split (fun hc => ?_) (fun hc => ?_) <;> (try simp only [Bool.not_eq_true', Bool.not_eq_false', Bool.not_eq_eq_eq_not, Bool.not_true, Bool.not_false, decide_eq_true_eq, decide_eq_false_iff_not, Int.not_lt, Int.not_le] at hc) <;> (try (exfalso; omega)) <;> (try simp (disch := omega) [go_sem, *, wrap64_id, upd_ne, mk3_true, flatten_replicate_one, stepK_if, ilt_true, ilt_false, ile_true, ile_false, Tryz.ntmps12 ]))
      | (refine ac_cond_h fun Kt Kf ht hf => ?_; simp (disch := omega) [go_sem, * ]; try (refine ⟨fun hc => ?_, fun hc => ?_⟩ <;> try (exfalso; omega))))
    (refine ac_ret ?_; try dsimp only [thenA, blockA]; refine ⟨by simp, _, (by first | rfl | (simp (disch := omega) [go_sem] <;> rfl)), ?_⟩; refine ret_id ⟨fun k hk => (by first | rfl | (repeat rw [upd_ne _ _ _ _ (by omega)])), (by simp [go_sem, below, belowL]), (by simp [go_sem] <;> omega), by simp, by simp⟩)
  · rw [Bool.not_eq_true] at hf
    rw [hf] at k1 ⊢
    clear hfo hf hs hw k3
    obtain ⟨k, f, o, nn, nl, fu, s, ks⟩ := c
    simp only [encC, Bool.false_eq_true, if_false, zC, encL] at k1 ⊢
    repeat' (first
      | (refine ac_seq_h fun K hK => ?_)
      | (refine ac_region_h fun K hK => ?_; simp (disch := omega) [go_sem, *, upd_ne, Tryz.ntmps12 ])
      | (refine ac_draw_h mixed (by kernel_rfl) fun K hK => ?_; simp (disch := omega) [go_sem, *, wrap64_id, upd_ne, mk3_true, flatten_replicate_one, stepK_if, ilt_true, ilt_false, ile_true, ile_false, Tryz.ntmps12 ])
      | (refine ac_quiet_h mixed (by kernel_rfl) fun K hK => ?_; simp (disch := omega) [go_sem, *, wrap64_id, upd_ne, mk3_true, flatten_replicate_one, stepK_if, ilt_true, ilt_false, ile_true, ile_false, Tryz.ntmps12 ])
      | (refine aQ_c (by simp [go_sem]) (by simp (disch := omega) [go_sem, * ]; first | exact rfl | exact ⟨rfl, rfl, rfl⟩ | exact (k1).gcall ⟨rfl, rfl, rfl⟩) ?_; try simp only [pS_some, pS_none])
      | (refine aQ_c (by simp [go_sem]) (by (try simp (disch := omega) [go_sem, * ]); first | exact rfl | exact ⟨rfl, rfl, rfl⟩ | exact (k1).gcall ⟨rfl, rfl, rfl⟩) ?_; try simp only [pS_some, pS_none])
      | (refine aQ_end ?_)
      | (apply Hide.out hK; clear hK K; try with_reducible dsimp only [thenA])
      | (apply Hide.out ht; clear ht hf Kt Kf)
      | (apply Hide.out hf; clear ht hf Kt Kf)
      | (clear hK K; apply Hide.out hK; clear hK K; try with_reducible dsimp only [thenA])
      | (clear hK K; clear hK K; apply Hide.out hK; clear hK K; try with_reducible dsimp only [thenA])
      | (with_reducible refine APure.gcall (k1) ?_; try simp (disch := omega) [go_sem, * ])
      | (refine ac_block ?_)
      | (refine ac_skip ?_; simp only [thenA, blockA])
      | (refine ac_exit ?_; simp only [thenA, blockA, if_true, if_false, Nat.reduceEqDiff])
      | (with_reducible show nextK _ _ _ _ _ _ _; simp (disch := omega) [go_sem, *, wrap64_id, upd_ne, mk3_true, flatten_replicate_one, stepK_if, ilt_true, ilt_false, ile_true, ile_false, Tryz.ntmps12 ])
      | (refine wantK_split (fun hc => ?_) (fun hc => ?_) <;> (try simp only [Bool.not_eq_true', Bool.not_eq_false', Bool.not_eq_eq_eq_not, Bool.not_true, Bool.not_false, decide_eq_true_eq, decide_eq_false_iff_not, Int.not_lt, Int.not_le] at hc) <;> (try (exfalso; omega)) <;> (try simp (disch := omega) [go_sem, *, wrap64_id, upd_ne, mk3_true, flatten_replicate_one, stepK_if, ilt_true, ilt_false, ile_true, ile_false, Tryz.ntmps12 ]))
      | (refine ac_cond_h fun Kt Kf ht hf => ?_; simp (disch := omega) [go_sem, * ]; try (refine ⟨fun hc => ?_, fun hc => ?_⟩ <;> try (exfalso; omega))))
    (refine ac_ret ?_; try dsimp only [thenA, blockA]; refine ⟨by simp, _, (by first | rfl | (simp (disch := omega) [go_sem] <;> rfl)), ?_⟩; refine ret_id ⟨fun k hk => (by first | rfl | (repeat rw [upd_ne _ _ _ _ (by omega)])), (by simp [go_sem, below, belowL]), (by simp [go_sem] <;> omega), by simp, by simp⟩)
theorem rInward_spec (c : Cnd) (hw : wf c) (hs : tot c ≤ 900) : APure Tryz.prog 13 [encC c] (encT (if Cw.formed c then Cw.rinw c false else zC) (if Cw.formed c then 0 else 7)) := by
  intro h n
  have k1 := formedC_spec c hw
  have k3 := fun hok => rinward_spec _ c (Nat.le_refl _) hw hok false
  have hfo : Cw.formed c = true → ok c = true := fun e => by simp only [Cw.formed, Bool.and_eq_true] at e; exact e.1.1
  refine ACalls.pure (ACalls.entry (by kernel_rfl) fun hb _ => calls_of Tryz.func13 rfl (by kernel_rfl) (by simp [Tryz.ntmps13]) ?_)
  by_cases hf : Cw.formed c = true
  · replace k3 := k3 (hfo hf)
    rw [hf] at k1 ⊢
    clear hfo hf hs hw
    generalize Cw.rinw c false = r at *
    obtain ⟨k, f, o, nn, nl, fu, s, ks⟩ := c
    obtain ⟨rk, rf, ro, rn, rnl, rfu, rsz, rks⟩ := r
    simp only [encC, encT, if_true] at k1 k3 ⊢
    repeat' (first
      | (refine ac_seq_h fun K hK => ?_)
      | (refine ac_region_h fun K hK => ?_; simp (disch := omega) [go_sem, *, upd_ne, Tryz.ntmps13 ])
      | (refine ac_draw_h mixed (by kernel_rfl) fun K hK => ?_; simp (disch := omega) [go_sem, *, wrap64_id, upd_ne, mk3_true, flatten_replicate_one, stepK_if, ilt_true, ilt_false, ile_true, ile_false, Tryz.ntmps13 ])
      | (refine ac_quiet_h mixed (by kernel_rfl) fun K hK => ?_; simp (disch := omega) [go_sem, *, wrap64_id, upd_ne, mk3_true, flatten_replicate_one, stepK_if, ilt_true, ilt_false, ile_true, ile_false, Tryz.ntmps13 ])
      | (refine aQ_c (by simp [go_sem]) (by simp (disch := omega) [go_sem, * ]; first | exact rfl | exact ⟨rfl, rfl, rfl⟩ | exact (k1).gcall ⟨rfl, rfl, rfl⟩ | exact (k3).gcall ⟨rfl, rfl, rfl⟩) ?_; try simp only [pS_some, pS_none])
      | (refine aQ_c (by simp [go_sem]) (by (try simp (disch := omega) [go_sem, * ]); first | exact rfl | exact ⟨rfl, rfl, rfl⟩ | exact (k1).gcall ⟨rfl, rfl, rfl⟩ | exact (k3).gcall ⟨rfl, rfl, rfl⟩) ?_; try simp only [pS_some, pS_none])
      | (refine aQ_end ?_)
      | (apply Hide.out hK; clear hK K; try with_reducible dsimp only [thenA])
      | (apply Hide.out ht; clear ht hf Kt Kf)
      | (apply Hide.out hf; clear ht hf Kt Kf)
      | (clear hK K; apply Hide.out hK; clear hK K; try with_reducible dsimp only [thenA])
      | (clear hK K; clear hK K; apply Hide.out hK; clear hK K; try with_reducible dsimp only [thenA])
      | (with_reducible refine APure.gcall (k1) ?_; try simp (disch := omega) [go_sem, * ])
      | (with_reducible refine APure.gcall (k3) ?_; try simp (disch := omega) [go_sem, * ])
      | (refine ac_block ?_)
      | (refine ac_skip ?_; simp only [thenA])
      | (refine ac_exit ?_; simp only [thenA, blockA, if_true, if_false, Nat.reduceEqDiff])
      | (with_reducible show nextK _ _ _ _ _ _ _; simp (disch := omega) [go_sem, *, wrap64_id, upd_ne, mk3_true, flatten_replicate_one, stepK_if, ilt_true, ilt_false, ile_true, ile_false, Tryz.ntmps13 ])
      | (refine wantK_split (fun hc => ?_) (fun hc => ?_) <;> (try simp only [Bool.not_eq_true', Bool.not_eq_false', Bool.not_eq_eq_eq_not, Bool.not_true, Bool.not_false, decide_eq_true_eq, decide_eq_false_iff_not, Int.not_lt, Int.not_le] at hc) <;> (try (exfalso; omega)) <;> (try simp (disch := omega) [go_sem, *, wrap64_id, upd_ne, mk3_true, flatten_replicate_one, stepK_if, ilt_true, ilt_false, ile_true, ile_false, Tryz.ntmps13 ]))
      | (refine ac_cond_h fun Kt Kf ht hf => ?_; simp (disch := omega) [go_sem, * ]; try (refine ⟨fun hc => ?_, fun hc => ?_⟩ <;> try (exfalso; omega))))
    (refine ac_ret ?_; try dsimp only [thenA, blockA]; refine ⟨by simp, _, (by first | rfl | (simp (disch := omega) [go_sem] <;> rfl)), ?_⟩; refine ret_id ⟨fun k hk => (by first | rfl | (repeat rw [upd_ne _ _ _ _ (by omega)])), (by simp [go_sem, below, belowL]), (by simp [go_sem] <;> omega), by simp, by simp⟩)
  · rw [Bool.not_eq_true] at hf
    rw [hf] at k1 ⊢
    clear hfo hf hs hw k3
    obtain ⟨k, f, o, nn, nl, fu, s, ks⟩ := c
    simp only [encC, encT, Bool.false_eq_true, if_false, zC, encL] at k1 ⊢
    repeat' (first
      | (refine ac_seq_h fun K hK => ?_)
      | (refine ac_region_h fun K hK => ?_; simp (disch := omega) [go_sem, *, upd_ne, Tryz.ntmps13 ])
      | (refine ac_draw_h mixed (by kernel_rfl) fun K hK => ?_; simp (disch := omega) [go_sem, *, wrap64_id, upd_ne, mk3_true, flatten_replicate_one, stepK_if, ilt_true, ilt_false, ile_true, ile_false, Tryz.ntmps13 ])
      | (refine ac_quiet_h mixed (by kernel_rfl) fun K hK => ?_; simp (disch := omega) [go_sem, *, wrap64_id, upd_ne, mk3_true, flatten_replicate_one, stepK_if, ilt_true, ilt_false, ile_true, ile_false, Tryz.ntmps13 ])
      | (refine aQ_c (by simp [go_sem]) (by simp (disch := omega) [go_sem, * ]; first | exact rfl | exact ⟨rfl, rfl, rfl⟩ | exact (k1).gcall ⟨rfl, rfl, rfl⟩) ?_; try simp only [pS_some, pS_none])
      | (refine aQ_c (by simp [go_sem]) (by (try simp (disch := omega) [go_sem, * ]); first | exact rfl | exact ⟨rfl, rfl, rfl⟩ | exact (k1).gcall ⟨rfl, rfl, rfl⟩) ?_; try simp only [pS_some, pS_none])
      | (refine aQ_end ?_)
      | (apply Hide.out hK; clear hK K; try with_reducible dsimp only [thenA])
      | (apply Hide.out ht; clear ht hf Kt Kf)
      | (apply Hide.out hf; clear ht hf Kt Kf)
      | (clear hK K; apply Hide.out hK; clear hK K; try with_reducible dsimp only [thenA])
      | (clear hK K; clear hK K; apply Hide.out hK; clear hK K; try with_reducible dsimp only [thenA])
      | (with_reducible refine APure.gcall (k1) ?_; try simp (disch := omega) [go_sem, * ])
      | (refine ac_block ?_)
      | (refine ac_skip ?_; simp only [thenA, blockA])
      | (refine ac_exit ?_; simp only [thenA, blockA, if_true, if_false, Nat.reduceEqDiff])
      | (with_reducible show nextK _ _ _ _ _ _ _; simp (disch := omega) [go_sem, *, wrap64_id, upd_ne, mk3_true, flatten_replicate_one, stepK_if, ilt_true, ilt_false, ile_true, ile_false, Tryz.ntmps13 ])
      | (refine wantK_split (fun hc => ?_) (fun hc => ?_) <;> (try simp only [Bool.not_eq_true', Bool.not_eq_false', Bool.not_eq_eq_eq_not, Bool.not_true, Bool.not_false, decide_eq_true_eq, decide_eq_false_iff_not, Int.not_lt, Int.not_le] at hc) <;> (try (exfalso; omega)) <;> (try simp (disch := omega) [go_sem, *, wrap64_id, upd_ne, mk3_true, flatten_replicate_one, stepK_if, ilt_true, ilt_false, ile_true, ile_false, Tryz.ntmps13 ]))
      | (refine ac_cond_h fun Kt Kf ht hf => ?_; simp (disch := omega) [go_sem, * ]; try (refine ⟨fun hc => ?_, fun hc => ?_⟩ <;> try (exfalso; omega))))
    (refine ac_ret ?_; try dsimp only [thenA, blockA]; refine ⟨by simp, _, (by first | rfl | (simp (disch := omega) [go_sem] <;> rfl)), ?_⟩; refine ret_id ⟨fun k hk => (by first | rfl | (repeat rw [upd_ne _ _ _ _ (by omega)])), (by simp [go_sem, below, belowL]), (by simp [go_sem] <;> omega), by simp, by simp⟩)
end Go.AM

namespace Go.AM
open Go.Proofs Cw
set_option maxRecDepth 10000
set_option maxHeartbeats 4000000
theorem WatchHolds_spec (c : Cnd) (hw : wf c) (fs : Fs) : APure Tryz.prog 3 [encC c, encF fs] (bv true) := by
  intro h n
  have k0 := Go.Proofs.SAN.sanity_ok
  have k1 := small_spec c hw
  refine ACalls.pure (ACalls.entry (by kernel_rfl) fun hb _ => calls_of Tryz.func3 rfl (by kernel_rfl) (by simp [Tryz.ntmps3]) ?_)
  by_cases hs : tot c ≤ 80
  · rw [decide_eq_true hs] at k1
    have k2 := Holds_spec c hw (by omega) fs
    have k3 := rHolds_spec c hw (by omega) fs
    have k4 := Inward_spec c hw (by omega)
    have k5 := rInward_spec c hw (by omega)
    have k6 : APure Tryz.prog 14 [encC (if Cw.formed c then Cw.inw c false else zC), encC (if Cw.formed c then Cw.rinw c false else zC)] (bv true) := by
      by_cases hf : Cw.formed c = true
      · rw [if_pos hf, if_pos hf]
        exact same_pair _ c (Nat.le_refl _) (by simp only [Cw.formed, Bool.and_eq_true] at hf; exact hf.1.1) false
      · rw [if_neg hf, if_neg hf]
        exact same_nil _ _ _ _ _ _ _ _ _ _
    generalize (if Cw.formed c then Cw.inw c false else zC) = r at *
    generalize (if Cw.formed c then Cw.rinw c false else zC) = q at *
    generalize (if Cw.formed c then (0 : Int) else 7) = e at *
    generalize (outH c fs).1 = x at *
    generalize (outH c fs).2 = y at *
    clear hw hs
    obtain ⟨k, f, o, nn, nl, fu, s, ks⟩ := c
    obtain ⟨rk, rf, ro, rn, rnl, rfu, rsz, rks⟩ := r
    obtain ⟨qk, qf, qo, qn, qnl, qfu, qsz, qks⟩ := q
    simp only [encC, encT] at k1 k2 k3 k4 k5 k6 ⊢
    repeat' (first
      | (refine ac_seq_h fun K hK => ?_)
      | (refine ac_region_h fun K hK => ?_; simp (disch := omega) [go_sem, *, upd_ne, Tryz.ntmps3 ])
      | (refine ac_draw_h mixed (by kernel_rfl) fun K hK => ?_; simp (disch := omega) [go_sem, *, wrap64_id, upd_ne, mk3_true, flatten_replicate_one, stepK_if, ilt_true, ilt_false, ile_true, ile_false, Tryz.ntmps3 ])
      | (refine ac_quiet_h mixed (by kernel_rfl) fun K hK => ?_; simp (disch := omega) [go_sem, *, wrap64_id, upd_ne, mk3_true, flatten_replicate_one, stepK_if, ilt_true, ilt_false, ile_true, ile_false, Tryz.ntmps3 ])
      | (refine aQ_c (by simp [go_sem]) (by simp (disch := omega) [go_sem, * ]; first | exact rfl | exact ⟨rfl, rfl, rfl⟩ | exact (k0).gcall ⟨rfl, rfl, rfl⟩ | exact (k1).gcall ⟨rfl, rfl, rfl⟩ | exact (k2).gcall ⟨rfl, rfl, rfl⟩ | exact (k3).gcall ⟨rfl, rfl, rfl⟩ | exact (k4).gcall ⟨rfl, rfl, rfl⟩ | exact (k5).gcall ⟨rfl, rfl, rfl⟩ | exact (k6).gcall ⟨rfl, rfl, rfl⟩) ?_; try simp only [pS_some, pS_none])
      | (refine aQ_c (by simp [go_sem]) (by (try simp (disch := omega) [go_sem, * ]); first | exact rfl | exact ⟨rfl, rfl, rfl⟩ | exact (k0).gcall ⟨rfl, rfl, rfl⟩ | exact (k1).gcall ⟨rfl, rfl, rfl⟩ | exact (k2).gcall ⟨rfl, rfl, rfl⟩ | exact (k3).gcall ⟨rfl, rfl, rfl⟩ | exact (k4).gcall ⟨rfl, rfl, rfl⟩ | exact (k5).gcall ⟨rfl, rfl, rfl⟩ | exact (k6).gcall ⟨rfl, rfl, rfl⟩) ?_; try simp only [pS_some, pS_none])
      | (refine aQ_end ?_)
      | (apply Hide.out hK; clear hK K; try with_reducible dsimp only [thenA])
      | (apply Hide.out ht; clear ht hf Kt Kf)
      | (apply Hide.out hf; clear ht hf Kt Kf)
      | (clear hK K; apply Hide.out hK; clear hK K; try with_reducible dsimp only [thenA])
      | (clear hK K; clear hK K; apply Hide.out hK; clear hK K; try with_reducible dsimp only [thenA])
      | (with_reducible refine APure.gcall (k0) ?_; try simp (disch := omega) [go_sem, *, upd_ne ])
      | (with_reducible refine APure.gcall (k1) ?_; try simp (disch := omega) [go_sem, * ])
      | (with_reducible refine APure.gcall (k2) ?_; try simp (disch := omega) [go_sem, * ])
      | (with_reducible refine APure.gcall (k3) ?_; try simp (disch := omega) [go_sem, * ])
      | (with_reducible refine APure.gcall (k4) ?_; try simp (disch := omega) [go_sem, * ])
      | (with_reducible refine APure.gcall (k5) ?_; try simp (disch := omega) [go_sem, * ])
      | (with_reducible refine APure.gcall (k6) ?_; try simp (disch := omega) [go_sem, * ])
      | (refine ac_block ?_)
      | (refine ac_skip ?_; simp only [thenA])
      | (refine ac_exit ?_; simp only [thenA, blockA, if_true, if_false, Nat.reduceEqDiff])
      | (with_reducible show nextK _ _ _ _ _ _ _; simp (disch := omega) [go_sem, *, wrap64_id, upd_ne, mk3_true, flatten_replicate_one, stepK_if, ilt_true, ilt_false, ile_true, ile_false, Tryz.ntmps3 ])
      | (refine wantK_split (fun hc => ?_) (fun hc => ?_) <;> (try simp only [Bool.not_eq_true', Bool.not_eq_false', Bool.not_eq_eq_eq_not, Bool.not_true, Bool.not_false, decide_eq_true_eq, decide_eq_false_iff_not, Int.not_lt, Int.not_le] at hc) <;> (try (exfalso; omega)) <;> (try simp (disch := omega) [go_sem, *, wrap64_id, upd_ne, mk3_true, flatten_replicate_one, stepK_if, ilt_true, ilt_false, ile_true, ile_false, Tryz.ntmps3 ]))
      | (refine ac_cond_h fun Kt Kf ht hf => ?_; simp (disch := omega) [go_sem, * ]; try (refine ⟨fun hc => ?_, fun hc => ?_⟩ <;> try (exfalso; omega))))
    (refine ac_ret ?_; try dsimp only [thenA, blockA]; refine ⟨by simp, _, (by first | rfl | (simp (disch := omega) [go_sem, upd_ne] <;> rfl)), ?_⟩; refine ret_id ⟨fun k hk => (by first | rfl | (repeat rw [upd_ne _ _ _ _ (by omega)])), (by simp [go_sem, below]), (by simp [go_sem] <;> omega), by simp, by simp⟩)
  · rw [decide_eq_false hs] at k1
    clear hw hs
    obtain ⟨k, f, o, nn, nl, fu, s, ks⟩ := c
    simp only [encC] at k1 ⊢
    repeat' (first
      | (refine ac_seq_h fun K hK => ?_)
      | (refine ac_region_h fun K hK => ?_; simp (disch := omega) [go_sem, *, upd_ne, Tryz.ntmps3 ])
      | (refine ac_draw_h mixed (by kernel_rfl) fun K hK => ?_; simp (disch := omega) [go_sem, *, wrap64_id, upd_ne, mk3_true, flatten_replicate_one, stepK_if, ilt_true, ilt_false, ile_true, ile_false, Tryz.ntmps3 ])
      | (refine ac_quiet_h mixed (by kernel_rfl) fun K hK => ?_; simp (disch := omega) [go_sem, *, wrap64_id, upd_ne, mk3_true, flatten_replicate_one, stepK_if, ilt_true, ilt_false, ile_true, ile_false, Tryz.ntmps3 ])
      | (refine aQ_c (by simp [go_sem]) (by simp (disch := omega) [go_sem, * ]; first | exact rfl | exact ⟨rfl, rfl, rfl⟩ | exact (k0).gcall ⟨rfl, rfl, rfl⟩ | exact (k1).gcall ⟨rfl, rfl, rfl⟩) ?_; try simp only [pS_some, pS_none])
      | (refine aQ_c (by simp [go_sem]) (by (try simp (disch := omega) [go_sem, * ]); first | exact rfl | exact ⟨rfl, rfl, rfl⟩ | exact (k0).gcall ⟨rfl, rfl, rfl⟩ | exact (k1).gcall ⟨rfl, rfl, rfl⟩) ?_; try simp only [pS_some, pS_none])
      | (refine aQ_end ?_)
      | (apply Hide.out hK; clear hK K; try with_reducible dsimp only [thenA])
      | (apply Hide.out ht; clear ht hf Kt Kf)
      | (apply Hide.out hf; clear ht hf Kt Kf)
      | (clear hK K; apply Hide.out hK; clear hK K; try with_reducible dsimp only [thenA])
      | (clear hK K; clear hK K; apply Hide.out hK; clear hK K; try with_reducible dsimp only [thenA])
      | (with_reducible refine APure.gcall (k0) ?_; try simp (disch := omega) [go_sem, * ])
      | (with_reducible refine APure.gcall (k1) ?_; try simp (disch := omega) [go_sem, * ])
      | (refine ac_block ?_)
      | (refine ac_skip ?_; simp only [thenA, blockA])
      | (refine ac_exit ?_; simp only [thenA, blockA, if_true, if_false, Nat.reduceEqDiff])
      | (with_reducible show nextK _ _ _ _ _ _ _; simp (disch := omega) [go_sem, *, wrap64_id, upd_ne, mk3_true, flatten_replicate_one, stepK_if, ilt_true, ilt_false, ile_true, ile_false, Tryz.ntmps3 ])
      | (refine wantK_split (fun hc => ?_) (fun hc => ?_) <;> (try simp only [Bool.not_eq_true', Bool.not_eq_false', Bool.not_eq_eq_eq_not, Bool.not_true, Bool.not_false, decide_eq_true_eq, decide_eq_false_iff_not, Int.not_lt, Int.not_le] at hc) <;> (try (exfalso; omega)) <;> (try simp (disch := omega) [go_sem, *, wrap64_id, upd_ne, mk3_true, flatten_replicate_one, stepK_if, ilt_true, ilt_false, ile_true, ile_false, Tryz.ntmps3 ]))
      | (refine ac_cond_h fun Kt Kf ht hf => ?_; simp (disch := omega) [go_sem, * ]; try (refine ⟨fun hc => ?_, fun hc => ?_⟩ <;> try (exfalso; omega))))
    (refine ac_ret ?_; try dsimp only [thenA, blockA]; refine ⟨by simp, _, (by first | rfl | (simp (disch := omega) [go_sem, upd_ne] <;> rfl)), ?_⟩; refine ret_id ⟨fun k hk => (by first | rfl | (repeat rw [upd_ne _ _ _ _ (by omega)])), (by simp [go_sem, below]), (by simp [go_sem] <;> omega), by simp, by simp⟩)
end Go.AM
