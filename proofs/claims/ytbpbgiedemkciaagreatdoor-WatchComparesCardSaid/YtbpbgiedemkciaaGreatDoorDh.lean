/- Equal and Implies; the law WatchCompares. Conditions: as each theorem says. -/
import Derived.Test.YtbpbgiedemkciaaGreatDoorDg
import Derived.Test.YtbpbgiedemkciaaGreatDoorDd
import Derived.Test.YtbpbgiedemkciaaGreatDoorCb
import Derived.Test.YtbpbgiedemkciaaGreatDoorSe
namespace Go.AM
open Go.Proofs Cw
set_option maxRecDepth 10000
set_option maxHeartbeats 4000000
theorem lens_step (x y : Int) (l : Nat) (hl : 1 ≤ l) (hy : 1 ≤ y) (h : (x = y ∧ y ≤ 1073741824) ∨ (20000 < x ∧ 20000 < y)) : (rmul x l = y * l ∧ y * l ≤ 1073741824) ∨ (20000 < rmul x l ∧ 20000 < y * (l : Int)) := by
  unfold rmul
  rcases h with ⟨rfl, h1⟩ | ⟨h1, h2⟩
  · by_cases h3 : x * (l : Int) ≤ 1073741824
    · left; omega
    · right; omega
  · right
    have e1 : x * 1 ≤ x * (l : Int) := Int.mul_le_mul_of_nonneg_left (by omega) (by omega)
    have e2 : y * 1 ≤ y * (l : Int) := Int.mul_le_mul_of_nonneg_left (by omega) (by omega)
    omega
theorem few_same (cs : List Cnd) (h : okL cs = true) : rfew cs = fewP cs := by
  have l0 := length_pos_numsP 0 cs
  have l1 := length_pos_numsP 1 cs
  have l2 := length_pos_numsP 2 cs
  have l3 := length_pos_numsP 3 cs
  have l4 := length_pos_numsP 4 cs
  have s1 := lens_step 1 (lensP cs 0) _ l0 (lensP_pos cs 0) (.inl ⟨rfl, by simp [lensP]⟩)
  have s2 := lens_step _ (lensP cs 1) _ l1 (lensP_pos cs 1) s1
  have s3 := lens_step _ (lensP cs 2) _ l2 (lensP_pos cs 2) s2
  have s4 := lens_step _ (lensP cs 3) _ l3 (lensP_pos cs 3) s3
  have s5 := lens_step _ (lensP cs 4) _ l4 (lensP_pos cs 4) s4
  unfold rfew fewP
  rw [nums_same 0 cs h, nums_same 1 cs h, nums_same 2 cs h, nums_same 3 cs h, nums_same 4 cs h]
  have e5 : lensP cs 5 = lensP cs 4 * ((numsP 4 cs).length : Int) := rfl
  rw [decide_eq_decide, e5]
  omega
theorem cands_same (cs : List Cnd) (h : okL cs = true) : candsR cs = candsP cs := by
  rw [candsR, candsP, nums_same 0 cs h, nums_same 1 cs h, nums_same 2 cs h, nums_same 3 cs h, nums_same 4 cs h]
theorem differs_same (a b : Cnd) (both : Bool) : rdiffers a b both = pdiffers a b (dif both) := by
  unfold rdiffers pdiffers
  by_cases hfa : Cw.formed a = true
  · by_cases hfb : Cw.formed b = true
    · have ha : ok a = true := by simp only [Cw.formed, Bool.and_eq_true] at hfa; exact hfa.1.1
      have hb : ok b = true := by simp only [Cw.formed, Bool.and_eq_true] at hfb; exact hfb.1.1
      rw [few_same [a, b] (by simp [okL, ha, hb]), cands_same [a, b] (by simp [okL, ha, hb])]
      rfl
    · simp [hfb]
  · simp [hfa]
theorem dif_true : dif true = fun x y => x != y := by funext x y; cases x <;> cases y <;> rfl
theorem dif_false : dif false = fun x y => x && !y := by funext x y; cases x <;> cases y <;> rfl
theorem Equal_spec (a b : Cnd) (hwa : wf a) (hwb : wf b) (hta : tot a ≤ 900) (htb : tot b ≤ 900) : APure Tryz.prog 15 [encC a, encC b] (outDP (pdiffers a b fun x y => x != y)) := by
  intro h n
  have c := differ_spec a b hwa hwb hta htb 52 (fun x y => x != y) ne52
  refine ACalls.pure (ACalls.entry (by kernel_rfl) fun hb _ => calls_of Tryz.func15 rfl (by kernel_rfl) (by simp [Tryz.ntmps15]) ?_)
  generalize pdiffers a b (fun x y => x != y) = r at *
  obtain ⟨⟨f0, f1, f2, f3, f4⟩, is, e⟩ := r
  obtain ⟨ak, af, ao, an, anl, afu, asz, aks⟩ := a
  obtain ⟨bk, bf, bo, bn, bnl, bfu, bsz, bks⟩ := b
  simp only [encC] at c ⊢
  repeat' (first | (refine ac_seq_h fun K hK => ?_) | (refine ac_region_h fun K hK => ?_; simp (disch := omega) [go_sem, *, upd_ne, Tryz.ntmps15 ]) | (apply Hide.out hK; clear hK K; try with_reducible dsimp only [thenA]) | (with_reducible refine APure.gcall (c) ?_; try simp (disch := omega) [go_sem, * ]))
  (refine ac_ret ?_; try dsimp only [thenA, blockA]; refine ⟨by simp, _, (by first | rfl | (simp (disch := omega) [go_sem] <;> rfl)), ?_⟩; refine ret_id ⟨fun k hk => (by first | rfl | (repeat rw [upd_ne _ _ _ _ (by omega)])), (by simp [go_sem, below, belowL]), (by simp [go_sem] <;> omega), by simp, by simp⟩)
theorem Implies_spec (a b : Cnd) (hwa : wf a) (hwb : wf b) (hta : tot a ≤ 900) (htb : tot b ≤ 900) : APure Tryz.prog 17 [encC a, encC b] (outDP (pdiffers a b fun x y => x && !y)) := by
  intro h n
  have c := differ_spec a b hwa hwb hta htb 54 (fun x y => x && !y) an54
  refine ACalls.pure (ACalls.entry (by kernel_rfl) fun hb _ => calls_of Tryz.func17 rfl (by kernel_rfl) (by simp [Tryz.ntmps17]) ?_)
  generalize pdiffers a b (fun x y => x && !y) = r at *
  obtain ⟨⟨f0, f1, f2, f3, f4⟩, is, e⟩ := r
  obtain ⟨ak, af, ao, an, anl, afu, asz, aks⟩ := a
  obtain ⟨bk, bf, bo, bn, bnl, bfu, bsz, bks⟩ := b
  simp only [encC] at c ⊢
  repeat' (first | (refine ac_seq_h fun K hK => ?_) | (refine ac_region_h fun K hK => ?_; simp (disch := omega) [go_sem, *, upd_ne, Tryz.ntmps17 ]) | (apply Hide.out hK; clear hK K; try with_reducible dsimp only [thenA]) | (with_reducible refine APure.gcall (c) ?_; try simp (disch := omega) [go_sem, * ]))
  (refine ac_ret ?_; try dsimp only [thenA, blockA]; refine ⟨by simp, _, (by first | rfl | (simp (disch := omega) [go_sem] <;> rfl)), ?_⟩; refine ret_id ⟨fun k hk => (by first | rfl | (repeat rw [upd_ne _ _ _ _ (by omega)])), (by simp [go_sem, below, belowL]), (by simp [go_sem] <;> omega), by simp, by simp⟩)
theorem rEqual_spec (a b : Cnd) (hwa : wf a) (hwb : wf b) : APure Tryz.prog 16 [encC a, encC b] (outDP (pdiffers a b fun x y => x != y)) := by
  intro h n
  have c := rdiffers_spec a b hwa hwb true
  rw [differs_same, dif_true] at c
  refine ACalls.pure (ACalls.entry (by kernel_rfl) fun hb _ => calls_of Tryz.func16 rfl (by kernel_rfl) (by simp [Tryz.ntmps16]) ?_)
  generalize pdiffers a b (fun x y => x != y) = r at *
  obtain ⟨⟨f0, f1, f2, f3, f4⟩, is, e⟩ := r
  obtain ⟨ak, af, ao, an, anl, afu, asz, aks⟩ := a
  obtain ⟨bk, bf, bo, bn, bnl, bfu, bsz, bks⟩ := b
  simp only [encC] at c ⊢
  repeat' (first | (refine ac_seq_h fun K hK => ?_) | (refine ac_region_h fun K hK => ?_; simp (disch := omega) [go_sem, *, upd_ne, Tryz.ntmps16 ]) | (apply Hide.out hK; clear hK K; try with_reducible dsimp only [thenA]) | (with_reducible refine APure.gcall (c) ?_; try simp (disch := omega) [go_sem, * ]))
  (refine ac_ret ?_; try dsimp only [thenA, blockA]; refine ⟨by simp, _, (by first | rfl | (simp (disch := omega) [go_sem] <;> rfl)), ?_⟩; refine ret_id ⟨fun k hk => (by first | rfl | (repeat rw [upd_ne _ _ _ _ (by omega)])), (by simp [go_sem, below, belowL]), (by simp [go_sem] <;> omega), by simp, by simp⟩)
theorem rImplies_spec (a b : Cnd) (hwa : wf a) (hwb : wf b) : APure Tryz.prog 18 [encC a, encC b] (outDP (pdiffers a b fun x y => x && !y)) := by
  intro h n
  have c := rdiffers_spec a b hwa hwb false
  rw [differs_same, dif_false] at c
  refine ACalls.pure (ACalls.entry (by kernel_rfl) fun hb _ => calls_of Tryz.func18 rfl (by kernel_rfl) (by simp [Tryz.ntmps18]) ?_)
  generalize pdiffers a b (fun x y => x && !y) = r at *
  obtain ⟨⟨f0, f1, f2, f3, f4⟩, is, e⟩ := r
  obtain ⟨ak, af, ao, an, anl, afu, asz, aks⟩ := a
  obtain ⟨bk, bf, bo, bn, bnl, bfu, bsz, bks⟩ := b
  simp only [encC] at c ⊢
  repeat' (first | (refine ac_seq_h fun K hK => ?_) | (refine ac_region_h fun K hK => ?_; simp (disch := omega) [go_sem, *, upd_ne, Tryz.ntmps18 ]) | (apply Hide.out hK; clear hK K; try with_reducible dsimp only [thenA]) | (with_reducible refine APure.gcall (c) ?_; try simp (disch := omega) [go_sem, * ]))
  (refine ac_ret ?_; try dsimp only [thenA, blockA]; refine ⟨by simp, _, (by first | rfl | (simp (disch := omega) [go_sem] <;> rfl)), ?_⟩; refine ret_id ⟨fun k hk => (by first | rfl | (repeat rw [upd_ne _ _ _ _ (by omega)])), (by simp [go_sem, below, belowL]), (by simp [go_sem] <;> omega), by simp, by simp⟩)
theorem WatchCompares_spec (a b : Cnd) (hwa : wf a) (hwb : wf b) : APure Tryz.prog 4 [encC a, encC b] (bv true) := by
  intro h n
  have k0 := Go.Proofs.SAN.sanity_ok
  have k1 := small_spec a hwa
  have k2 := small_spec b hwb
  refine ACalls.pure (ACalls.entry (by kernel_rfl) fun hb _ => calls_of Tryz.func4 rfl (by kernel_rfl) (by simp [Tryz.ntmps4]) ?_)
  by_cases ha : tot a ≤ 80
  · rw [decide_eq_true ha] at k1
    by_cases hb2 : tot b ≤ 80
    · rw [decide_eq_true hb2] at k2
      have k3 := Equal_spec a b hwa hwb (by omega) (by omega)
      have k4 := rEqual_spec a b hwa hwb
      have k5 := Implies_spec a b hwa hwb (by omega) (by omega)
      have k6 := rImplies_spec a b hwa hwb
      generalize pdiffers a b (fun x y => x != y) = r at *
      generalize pdiffers a b (fun x y => x && !y) = q at *
      obtain ⟨⟨f0, f1, f2, f3, f4⟩, is, e⟩ := r
      obtain ⟨⟨g0, g1, g2, g3, g4⟩, is2, e2⟩ := q
      clear ha hb2 hwa hwb
      obtain ⟨ak, af, ao, an, anl, afu, asz, aks⟩ := a
      obtain ⟨bk, bf, bo, bn, bnl, bfu, bsz, bks⟩ := b
      simp only [encC] at k1 k2 k3 k4 k5 k6 ⊢
      repeat' (first | (refine ac_seq_h fun K hK => ?_) | (refine ac_region_h fun K hK => ?_; simp (disch := omega) [go_sem, *, upd_ne, Tryz.ntmps4 ]) | (apply Hide.out hK; clear hK K; try with_reducible dsimp only [thenA]) | (apply Hide.out hf; clear ht hf Kt Kf) | (with_reducible refine APure.gcall (k0) ?_; try simp (disch := omega) [go_sem, *, upd_ne ]) | (with_reducible refine APure.gcall (k1) ?_; try simp (disch := omega) [go_sem, * ]) | (with_reducible refine APure.gcall (k2) ?_; try simp (disch := omega) [go_sem, * ]) | (with_reducible refine APure.gcall (k3) ?_; try simp (disch := omega) [go_sem, * ]) | (with_reducible refine APure.gcall (k4) ?_; try simp (disch := omega) [go_sem, * ]) | (with_reducible refine APure.gcall (k5) ?_; try simp (disch := omega) [go_sem, * ]) | (with_reducible refine APure.gcall (k6) ?_; try simp (disch := omega) [go_sem, * ]) | (refine ac_skip ?_; simp only [thenA]) | (refine ac_cond_h fun Kt Kf ht hf => ?_; simp (disch := omega) [go_sem, * ]; try (refine ⟨fun hc => ?_, fun hc => ?_⟩ <;> try (exfalso; omega))))
      (refine ac_ret ?_; try dsimp only [thenA, blockA]; refine ⟨by simp, _, (by first | rfl | (simp (disch := omega) [go_sem, upd_ne] <;> rfl)), ?_⟩; refine ret_id ⟨fun k hk => (by first | rfl | (repeat rw [upd_ne _ _ _ _ (by omega)])), (by simp [go_sem, below]), (by simp [go_sem] <;> omega), by simp, by simp⟩)
    · rw [decide_eq_false hb2] at k2
      clear ha hb2 hwa hwb
      obtain ⟨ak, af, ao, an, anl, afu, asz, aks⟩ := a
      obtain ⟨bk, bf, bo, bn, bnl, bfu, bsz, bks⟩ := b
      simp only [encC] at k1 k2 ⊢
      repeat' (first | (refine ac_seq_h fun K hK => ?_) | (refine ac_region_h fun K hK => ?_; simp (disch := omega) [go_sem, *, upd_ne, Tryz.ntmps4 ]) | (apply Hide.out hK; clear hK K; try with_reducible dsimp only [thenA]) | (apply Hide.out ht; clear ht hf Kt Kf) | (with_reducible refine APure.gcall (k0) ?_; try simp (disch := omega) [go_sem, * ]) | (with_reducible refine APure.gcall (k1) ?_; try simp (disch := omega) [go_sem, * ]) | (with_reducible refine APure.gcall (k2) ?_; try simp (disch := omega) [go_sem, * ]) | (refine ac_cond_h fun Kt Kf ht hf => ?_; simp (disch := omega) [go_sem, * ]; try (refine ⟨fun hc => ?_, fun hc => ?_⟩ <;> try (exfalso; omega))))
      (refine ac_ret ?_; try dsimp only [thenA, blockA]; refine ⟨by simp, _, (by first | rfl | (simp (disch := omega) [go_sem, upd_ne] <;> rfl)), ?_⟩; refine ret_id ⟨fun k hk => (by first | rfl | (repeat rw [upd_ne _ _ _ _ (by omega)])), (by simp [go_sem, below]), (by simp [go_sem] <;> omega), by simp, by simp⟩)
  · rw [decide_eq_false ha] at k1
    clear ha hwa hwb
    generalize decide (tot b ≤ 80) = y at *
    obtain ⟨ak, af, ao, an, anl, afu, asz, aks⟩ := a
    obtain ⟨bk, bf, bo, bn, bnl, bfu, bsz, bks⟩ := b
    simp only [encC] at k1 k2 ⊢
    repeat' (first | (refine ac_seq_h fun K hK => ?_) | (refine ac_region_h fun K hK => ?_; simp (disch := omega) [go_sem, *, upd_ne, Tryz.ntmps4 ]) | (apply Hide.out hK; clear hK K; try with_reducible dsimp only [thenA]) | (apply Hide.out ht; clear ht hf Kt Kf) | (with_reducible refine APure.gcall (k0) ?_; try simp (disch := omega) [go_sem, * ]) | (with_reducible refine APure.gcall (k1) ?_; try simp (disch := omega) [go_sem, * ]) | (refine ac_cond_h fun Kt Kf ht hf => ?_; simp (disch := omega) [go_sem, * ]; try (refine ⟨fun hc => ?_, fun hc => ?_⟩ <;> try (exfalso; omega))))
    (refine ac_ret ?_; try dsimp only [thenA, blockA]; refine ⟨by simp, _, (by first | rfl | (simp (disch := omega) [go_sem, upd_ne] <;> rfl)), ?_⟩; refine ret_id ⟨fun k hk => (by first | rfl | (repeat rw [upd_ne _ _ _ _ (by omega)])), (by simp [go_sem, below]), (by simp [go_sem] <;> omega), by simp, by simp⟩)
end Go.AM
