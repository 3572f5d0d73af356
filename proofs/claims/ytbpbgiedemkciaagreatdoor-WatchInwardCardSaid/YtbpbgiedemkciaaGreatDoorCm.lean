/- Conditions: Holds, Inward, the law. Conditions: as each theorem says. -/
import Derived.Test.YtbpbgiedemkciaaGreatDoorCg
import Derived.Test.YtbpbgiedemkciaaGreatDoorCh
import Derived.Test.YtbpbgiedemkciaaGreatDoorCi
import Derived.Test.YtbpbgiedemkciaaGreatDoorCj
import Derived.Test.YtbpbgiedemkciaaGreatDoorSe
namespace Go.AM
open Go.Proofs Cw
set_option maxRecDepth 10000
set_option maxHeartbeats 4000000
end Go.AM

namespace Go.AM
open Go.Proofs Cw
set_option maxRecDepth 10000
set_option maxHeartbeats 4000000
def outH (c : Cnd) (fs : Fs) : Bool × Int := if !(Cw.formed c) then (false, 7) else if !fs.ok then (false, 1) else (Cw.holds c fs, 0)
theorem Holds_spec (c : Cnd) (hw : wf c) (hs : tot c ≤ 900) (fs : Fs) : APure Tryz.prog 10 [encC c, encF fs] (.tup [bv (outH c fs).1, iv .i64 (outH c fs).2]) := by
  intro h n
  have k1 := formed_spec c hw hs
  have k2 := valid_spec fs
  have k3 := fun hok => holds_spec _ c (Nat.le_refl _) hw hok fs
  have hfo : Cw.formed c = true → ok c = true := fun e => by simp only [Cw.formed, Bool.and_eq_true] at e; exact e.1.1
  refine ACalls.pure (ACalls.entry (by kernel_rfl) fun hb _ => calls_of Tryz.func10 rfl (by kernel_rfl) (by simp [Tryz.ntmps10]) ?_)
  unfold outH
  by_cases hf : Cw.formed c = true
  · replace k3 := k3 (hfo hf)
    rw [hf] at k1 ⊢
    clear hfo hf hs hw
    generalize Cw.holds c fs = x at *
    obtain ⟨k, f, o, nn, nl, fu, s, ks⟩ := c
    simp only [encC] at k1 k3 ⊢
    by_cases hv : fs.ok = true
    · rw [hv] at k2 ⊢
      simp only [Bool.not_true, Bool.false_eq_true, if_false]
      repeat' (first | (refine ac_seq_h fun K hK => ?_) | (refine ac_region_h fun K hK => ?_; simp (disch := omega) [go_sem, *, upd_ne, Tryz.ntmps10 ]) | (apply Hide.out hK; clear hK K; try with_reducible dsimp only [thenA]) | (apply Hide.out hf; clear ht hf Kt Kf) | (with_reducible refine APure.gcall (k1) ?_; try simp (disch := omega) [go_sem, * ]) | (with_reducible refine APure.gcall (k2) ?_; try simp (disch := omega) [go_sem, * ]) | (with_reducible refine APure.gcall (k3) ?_; try simp (disch := omega) [go_sem, * ]) | (refine ac_block ?_) | (refine ac_skip ?_; simp only [thenA, blockA]) | (refine ac_cond_h fun Kt Kf ht hf => ?_; simp (disch := omega) [go_sem, * ]; try (refine ⟨fun hc => ?_, fun hc => ?_⟩ <;> try (exfalso; omega))))
      (refine ac_ret ?_; try dsimp only [thenA, blockA]; refine ⟨by simp, _, (by first | rfl | (simp (disch := omega) [go_sem, upd_ne] <;> rfl)), ?_⟩; refine ret_id ⟨fun k hk => (by first | rfl | (repeat rw [upd_ne _ _ _ _ (by omega)])), (by simp [go_sem, below, belowL]), (by simp [go_sem] <;> omega), by simp, by simp⟩)
    · rw [Bool.not_eq_true] at hv
      rw [hv] at k2 ⊢
      simp only [Bool.not_true, Bool.not_false, Bool.false_eq_true, if_false, if_true]
      repeat' (first | (refine ac_seq_h fun K hK => ?_) | (refine ac_region_h fun K hK => ?_; simp (disch := omega) [go_sem, *, upd_ne, Tryz.ntmps10 ]) | (apply Hide.out hK; clear hK K; try with_reducible dsimp only [thenA]) | (apply Hide.out ht; clear ht hf Kt Kf) | (apply Hide.out hf; clear ht hf Kt Kf) | (with_reducible refine APure.gcall (k1) ?_; try simp (disch := omega) [go_sem, * ]) | (with_reducible refine APure.gcall (k2) ?_; try simp (disch := omega) [go_sem, * ]) | (refine ac_block ?_) | (refine ac_cond_h fun Kt Kf ht hf => ?_; simp (disch := omega) [go_sem, * ]; try (refine ⟨fun hc => ?_, fun hc => ?_⟩ <;> try (exfalso; omega))))
      (refine ac_ret ?_; try dsimp only [thenA, blockA]; refine ⟨by simp, _, (by first | rfl | (simp (disch := omega) [go_sem, upd_ne] <;> rfl)), ?_⟩; refine ret_id ⟨fun k hk => (by first | rfl | (repeat rw [upd_ne _ _ _ _ (by omega)])), (by simp [go_sem, below, belowL]), (by simp [go_sem] <;> omega), by simp, by simp⟩)
  · rw [Bool.not_eq_true] at hf
    rw [hf] at k1 ⊢
    clear hfo hf hs hw k3
    obtain ⟨k, f, o, nn, nl, fu, s, ks⟩ := c
    simp only [encC] at k1 ⊢
    simp only [Bool.not_false, if_true]
    repeat' (first | (refine ac_seq_h fun K hK => ?_) | (refine ac_region_h fun K hK => ?_; simp (disch := omega) [go_sem, *, upd_ne, Tryz.ntmps10 ]) | (apply Hide.out hK; clear hK K; try with_reducible dsimp only [thenA]) | (apply Hide.out ht; clear ht hf Kt Kf) | (with_reducible refine APure.gcall (k1) ?_; try simp (disch := omega) [go_sem, * ]) | (refine ac_block ?_) | (refine ac_cond_h fun Kt Kf ht hf => ?_; simp (disch := omega) [go_sem, * ]; try (refine ⟨fun hc => ?_, fun hc => ?_⟩ <;> try (exfalso; omega))))
    (refine ac_ret ?_; try dsimp only [thenA, blockA]; refine ⟨by simp, _, (by first | rfl | (simp (disch := omega) [go_sem, upd_ne] <;> rfl)), ?_⟩; refine ret_id ⟨fun k hk => (by first | rfl | (repeat rw [upd_ne _ _ _ _ (by omega)])), (by simp [go_sem, below, belowL]), (by simp [go_sem] <;> omega), by simp, by simp⟩)
def zC : Cnd := .mk 0 0 0 0 true true 0 []
theorem Inward_spec (c : Cnd) (hw : wf c) (hs : tot c ≤ 900) : APure Tryz.prog 12 [encC c] (.tup [encC (if Cw.formed c then Cw.inw c false else zC), iv .i64 (if Cw.formed c then 0 else 7)]) := by
  intro h n
  have k1 := formed_spec c hw hs
  have k3 := fun hok => winward_spec _ c (Nat.le_refl _) hw hok false
  have hfo : Cw.formed c = true → ok c = true := fun e => by simp only [Cw.formed, Bool.and_eq_true] at e; exact e.1.1
  refine ACalls.pure (ACalls.entry (by kernel_rfl) fun hb _ => calls_of Tryz.func12 rfl (by kernel_rfl) (by simp [Tryz.ntmps12]) ?_)
  by_cases hf : Cw.formed c = true
  · replace k3 := k3 (hfo hf)
    rw [hf] at k1 ⊢
    clear hfo hf hs hw
    generalize Cw.inw c false = r at *
    obtain ⟨k, f, o, nn, nl, fu, s, ks⟩ := c
    obtain ⟨rk, rf, ro, rn, rnl, rfu, rsz, rks⟩ := r
    simp only [encC, if_true] at k1 k3 ⊢
    repeat' (first | (refine ac_seq_h fun K hK => ?_) | (refine ac_region_h fun K hK => ?_; simp (disch := omega) [go_sem, *, upd_ne, Tryz.ntmps12 ]) | (apply Hide.out hK; clear hK K; try with_reducible dsimp only [thenA]) | (apply Hide.out hf; clear ht hf Kt Kf) | (with_reducible refine APure.gcall (k1) ?_; try simp (disch := omega) [go_sem, * ]) | (with_reducible refine APure.gcall (k3) ?_; try simp (disch := omega) [go_sem, * ]) | (refine ac_skip ?_; simp only [thenA]) | (refine ac_cond_h fun Kt Kf ht hf => ?_; simp (disch := omega) [go_sem, * ]; try (refine ⟨fun hc => ?_, fun hc => ?_⟩ <;> try (exfalso; omega))))
    (refine ac_ret ?_; try dsimp only [thenA, blockA]; refine ⟨by simp, _, (by first | rfl | (simp (disch := omega) [go_sem] <;> rfl)), ?_⟩; refine ret_id ⟨fun k hk => (by first | rfl | (repeat rw [upd_ne _ _ _ _ (by omega)])), (by simp [go_sem, below, belowL]), (by simp [go_sem] <;> omega), by simp, by simp⟩)
  · rw [Bool.not_eq_true] at hf
    rw [hf] at k1 ⊢
    clear hfo hf hs hw k3
    obtain ⟨k, f, o, nn, nl, fu, s, ks⟩ := c
    simp only [encC, Bool.false_eq_true, if_false, zC, encL] at k1 ⊢
    repeat' (first | (refine ac_seq_h fun K hK => ?_) | (refine ac_region_h fun K hK => ?_; simp (disch := omega) [go_sem, *, upd_ne, Tryz.ntmps12 ]) | (apply Hide.out hK; clear hK K; try with_reducible dsimp only [thenA]) | (apply Hide.out ht; clear ht hf Kt Kf) | (with_reducible refine APure.gcall (k1) ?_; try simp (disch := omega) [go_sem, * ]) | (refine ac_cond_h fun Kt Kf ht hf => ?_; simp (disch := omega) [go_sem, * ]; try (refine ⟨fun hc => ?_, fun hc => ?_⟩ <;> try (exfalso; omega))))
    (refine ac_ret ?_; try dsimp only [thenA, blockA]; refine ⟨by simp, _, (by first | rfl | (simp (disch := omega) [go_sem] <;> rfl)), ?_⟩; refine ret_id ⟨fun k hk => (by first | rfl | (repeat rw [upd_ne _ _ _ _ (by omega)])), (by simp [go_sem, below, belowL]), (by simp [go_sem] <;> omega), by simp, by simp⟩)
end Go.AM

namespace Go.AM
open Go.Proofs Cw
set_option maxRecDepth 10000
set_option maxHeartbeats 4000000
end Go.AM
