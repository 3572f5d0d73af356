/- Equal and Implies; the law WatchCompares. Conditions: as each theorem says. -/
import Derived.Test.YtbpbgiedemkciaaGreatDoorDg
import Derived.Test.YtbpbgiedemkciaaGreatDoorDd
import Derived.Test.YtbpbgiedemkciaaGreatDoorCb
import Derived.Test.YtbpbgiedemkciaaGreatDoorSe
namespace Go.AM
open Go.Proofs Cw
set_option maxRecDepth 10000
set_option maxHeartbeats 4000000
theorem dif_true : dif true = fun x y => x != y := by funext x y; cases x <;> cases y <;> rfl
theorem dif_false : dif false = fun x y => x && !y := by funext x y; cases x <;> cases y <;> rfl
theorem Equal_spec (a b : Cnd) (hwa : wf a) (hwb : wf b) (hta : tot a ≤ 900) (htb : tot b ≤ 900) : APure Tryz.prog 15 [encC a, encC b] (outDP (pdiffers a b fun x y => x != y)) := by
  intro h n
  have c := differ_spec a b hwa hwb hta htb 52 (fun x y => x != y) ne52
  refine ACalls.pure (ACalls.entry (by kernel_rfl) fun hb _ => calls_of Tryz.func15 rfl (by kernel_rfl) (by simp [Tryz.ntmps15]) ?_)
  generalize pdiffers a b (fun x y => x != y) = r at *
  obtain ⟨⟨f0, f1, f2, f3, f4⟩, is, e⟩ := r
  obtain ⟨ak, af, ao, an, anl, afu, asz, aks⟩ := a
  obtain ⟨bk, bf, bo, bn, bnl, bfu, bsz, bks⟩ := b
  simp only [encC] at c ⊢
  repeat' (first | (refine ac_seq_h fun K hK => ?_) | (refine ac_region_h fun K hK => ?_; simp (disch := omega) [go_sem, *, upd_ne, Tryz.ntmps15 ]) | (apply Hide.out hK; clear hK K; try with_reducible dsimp only [thenA]) | (with_reducible refine APure.gcall (c) ?_; try simp (disch := omega) [go_sem, * ]))
  (refine ac_ret ?_; try dsimp only [thenA, blockA]; refine ⟨by simp, _, (by first | rfl | (simp (disch := omega) [go_sem] <;> rfl)), ?_⟩; refine ret_id ⟨fun k hk => (by first | rfl | (repeat rw [upd_ne _ _ _ _ (by omega)])), (by simp [go_sem, below, belowL]), (by simp [go_sem] <;> omega), by simp, by simp⟩)
theorem Implies_spec (a b : Cnd) (hwa : wf a) (hwb : wf b) (hta : tot a ≤ 900) (htb : tot b ≤ 900) : APure Tryz.prog 17 [encC a, encC b] (outDP (pdiffers a b fun x y => x && !y)) := by
  intro h n
  have c := differ_spec a b hwa hwb hta htb 54 (fun x y => x && !y) an54
  refine ACalls.pure (ACalls.entry (by kernel_rfl) fun hb _ => calls_of Tryz.func17 rfl (by kernel_rfl) (by simp [Tryz.ntmps17]) ?_)
  generalize pdiffers a b (fun x y => x && !y) = r at *
  obtain ⟨⟨f0, f1, f2, f3, f4⟩, is, e⟩ := r
  obtain ⟨ak, af, ao, an, anl, afu, asz, aks⟩ := a
  obtain ⟨bk, bf, bo, bn, bnl, bfu, bsz, bks⟩ := b
  simp only [encC] at c ⊢
  repeat' (first | (refine ac_seq_h fun K hK => ?_) | (refine ac_region_h fun K hK => ?_; simp (disch := omega) [go_sem, *, upd_ne, Tryz.ntmps17 ]) | (apply Hide.out hK; clear hK K; try with_reducible dsimp only [thenA]) | (with_reducible refine APure.gcall (c) ?_; try simp (disch := omega) [go_sem, * ]))
  (refine ac_ret ?_; try dsimp only [thenA, blockA]; refine ⟨by simp, _, (by first | rfl | (simp (disch := omega) [go_sem] <;> rfl)), ?_⟩; refine ret_id ⟨fun k hk => (by first | rfl | (repeat rw [upd_ne _ _ _ _ (by omega)])), (by simp [go_sem, below, belowL]), (by simp [go_sem] <;> omega), by simp, by simp⟩)
end Go.AM
