/- Conditions: formed. Conditions: as each theorem says. -/
import Derived.Test.YtkbgmkhdjmkpdaaGreatDoorCf
namespace Go.AM
open Go.Proofs Cw
set_option maxRecDepth 10000
set_option maxHeartbeats 4000000
theorem formed_spec (c : Cnd) (hw : wf c) (hs : tot c ≤ 900) : APure Tryz.prog 84 [encC c] (bv (Cw.formed c)) := by
  intro h n
  have hws := fun h n p hp => wsize_spec _ c (Nat.le_refl _) hw h n p 0 hp (by omega) (by omega)
  have hvis := vis_ok c
  have hd1 := dep_le c
  refine ACalls.pure (ACalls.entry (by kernel_rfl) fun hb _ => calls_of Tryz.func84 rfl (by kernel_rfl) (by simp [Tryz.ntmps84]) ?_)
  by_cases hok : ok c = true
  · have hv := hvis hok
    have e1 : Cw.formed c = (decide ((vis c : Int) ≤ 60) && decide ((dep c : Int) ≤ 12)) := by
      rw [Cw.formed, hok, hv, Bool.true_and]; congr 1 <;> (apply decide_eq_decide.2; omega)
    rw [e1]
    simp only [hok, if_true] at hws
    clear e1 hv hvis hd1
    generalize (vis c : Int) = v at *
    generalize (dep c : Int) = d at *
    obtain ⟨k, f, o, nn, nl, fu, s, ks⟩ := c
    simp only [encC] at hws ⊢
    simp only [Int.zero_add] at hws
    clear hok
    by_cases h1 : v ≤ 60
    · by_cases h2 : d ≤ 12
      · skip
        repeat' (first | (refine ac_seq_h fun K hK => ?_) | (refine ac_region_h fun K hK => ?_; simp (disch := omega) [go_sem, *, upd_ne, Tryz.ntmps84 ]) | (apply Hide.out hK; clear hK K; try with_reducible dsimp only [thenA]) | (with_reducible refine ATurn.gcall (hws _ _ _ (by simp (disch := omega) [go_sem])) ?_; try simp (disch := omega) [go_sem, * ]))
        (refine ac_ret ?_; try dsimp only [thenA, blockA]; refine ⟨by simp, _, (by first | rfl | (simp (disch := omega) [go_sem, upd_ne] <;> rfl)), ?_⟩; refine ret_id ⟨fun k hk => (by first | rfl | (repeat rw [upd_ne _ _ _ _ (by omega)])), (by simp [go_sem, below]), (by simp [go_sem] <;> omega), by simp, by simp⟩)
      · skip
        repeat' (first | (refine ac_seq_h fun K hK => ?_) | (refine ac_region_h fun K hK => ?_; simp (disch := omega) [go_sem, *, upd_ne, Tryz.ntmps84 ]) | (apply Hide.out hK; clear hK K; try with_reducible dsimp only [thenA]) | (with_reducible refine ATurn.gcall (hws _ _ _ (by simp (disch := omega) [go_sem])) ?_; try simp (disch := omega) [go_sem, * ]))
        (refine ac_ret ?_; try dsimp only [thenA, blockA]; refine ⟨by simp, _, (by first | rfl | (simp (disch := omega) [go_sem, upd_ne] <;> rfl)), ?_⟩; refine ret_id ⟨fun k hk => (by first | rfl | (repeat rw [upd_ne _ _ _ _ (by omega)])), (by simp [go_sem, below]), (by simp [go_sem] <;> omega), by simp, by simp⟩)
    · skip
      repeat' (first | (refine ac_seq_h fun K hK => ?_) | (refine ac_region_h fun K hK => ?_; simp (disch := omega) [go_sem, *, upd_ne, Tryz.ntmps84 ]) | (apply Hide.out hK; clear hK K; try with_reducible dsimp only [thenA]) | (with_reducible refine ATurn.gcall (hws _ _ _ (by simp (disch := omega) [go_sem])) ?_; try simp (disch := omega) [go_sem, * ]))
      (refine ac_ret ?_; try dsimp only [thenA, blockA]; refine ⟨by simp, _, (by first | rfl | (simp (disch := omega) [go_sem, upd_ne] <;> rfl)), ?_⟩; refine ret_id ⟨fun k hk => (by first | rfl | (repeat rw [upd_ne _ _ _ _ (by omega)])), (by simp [go_sem, below]), (by simp [go_sem] <;> omega), by simp, by simp⟩)
  · rw [Bool.not_eq_true] at hok
    have e1 : Cw.formed c = false := by simp [Cw.formed, hok]
    rw [e1]
    simp only [hok, Bool.false_eq_true, if_false] at hws
    clear e1 hvis hd1
    generalize (vis c : Int) = v at *
    obtain ⟨k, f, o, nn, nl, fu, s, ks⟩ := c
    simp only [encC] at hws ⊢
    simp only [Int.zero_add] at hws
    clear hok
    repeat' (first | (refine ac_seq_h fun K hK => ?_) | (refine ac_region_h fun K hK => ?_; simp (disch := omega) [go_sem, *, upd_ne, Tryz.ntmps84 ]) | (apply Hide.out hK; clear hK K; try with_reducible dsimp only [thenA]) | (with_reducible refine ATurn.gcall (hws _ _ _ (by simp (disch := omega) [go_sem])) ?_; try simp (disch := omega) [go_sem, * ]))
    (refine ac_ret ?_; try dsimp only [thenA, blockA]; refine ⟨by simp, _, (by first | rfl | (simp (disch := omega) [go_sem, upd_ne] <;> rfl)), ?_⟩; refine ret_id ⟨fun k hk => (by first | rfl | (repeat rw [upd_ne _ _ _ _ (by omega)])), (by simp [go_sem, below]), (by simp [go_sem] <;> omega), by simp, by simp⟩)
end Go.AM
