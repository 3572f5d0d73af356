/- Conditions: the facts are facts. Conditions: as each theorem says. -/
import Derived.Test.YtbpbgiedemkciaaGreatDoorCa
namespace Cw
def Fs.ok (f : Fs) : Bool := wi f.a 0 10000 && wi f.b 0 10000 && wi f.c 0 10000 && wi f.d 0 10000 && wi f.e 0 10000
end Cw
namespace Go.AM
open Go.Proofs Cw
set_option maxRecDepth 10000
set_option maxHeartbeats 4000000
theorem valid_spec (f : Fs) : APure Tryz.prog 44 [encF f] (bv f.ok) := by
 intro h n
 refine ACalls.pure (ACalls.entry (by kernel_rfl) fun hb _ => zO Tryz.func44 rfl (by kernel_rfl) (by simp [Tryz.ntmps44]) ?_)
 obtain ⟨a, b, c, d, e⟩ := f
 by_cases h_a : wi a 0 10000 = true
 · by_cases h_b : wi b 0 10000 = true
   · by_cases h_c : wi c 0 10000 = true
     · by_cases h_d : wi d 0 10000 = true
       · by_cases h_e : wi e 0 10000 = true
         · have : Fs.ok ⟨a, b, c, d, e⟩ = true := by simp [Fs.ok, h_a, h_b, h_c, h_d, h_e]
           rw [this]; clear this
           repeat' (first | (refine zD fun K hK => ?_) | (refine zA fun K hK => ?_; simp (disch := omega) [go_sem, *, Tryz.ntmps44 ]) | (apply Hide.out hK; clear hK K; try with_reducible dsimp only [zC]) | (refine zG ?_))
           refine zP 6 ?_
           unfold zQ
           repeat' (first | (refine zD fun K hK => ?_) | (refine zA fun K hK => ?_; simp (disch := omega) [go_sem, *, zK, zH, zL]) | (apply Hide.out hK; clear hK K; try with_reducible dsimp only [zC]) | (apply Hide.out ht; clear ht hf Kt Kf) | (apply Hide.out hf; clear ht hf Kt Kf) | (clear hK K; apply Hide.out hK; clear hK K; try with_reducible dsimp only [zC]) | (with_reducible refine APure.gcall (within_spec _ _ _) ?_; try simp (disch := omega) [go_sem, *]) | (refine zG ?_) | (refine zI ?_; simp only [zC, zF]) | (refine zS ?_; simp only [zC, zF, if_true]) | (refine zE fun Kt Kf ht hf => ?_; simp (disch := omega) [go_sem, *]; try (refine ⟨fun hc => ?_, fun hc => ?_⟩ <;> try (exfalso; omega))))
           (refine zM ?_; try dsimp only [zC, zF]; refine ⟨by simp, _, (by first | rfl | (simp (disch := omega) [go_sem, zB] <;> rfl)), ?_⟩; refine zJ ⟨fun k hk => (by first | rfl | (repeat rw [zB _ _ _ _ (by omega)])), (by simp [go_sem, below]), (by simp [go_sem] <;> omega), by simp, by simp⟩)
         · rw [Bool.not_eq_true] at h_e
           have : Fs.ok ⟨a, b, c, d, e⟩ = false := by simp [Fs.ok, h_a, h_b, h_c, h_d, h_e]
           rw [this]; clear this
           repeat' (first | (refine zD fun K hK => ?_) | (refine zA fun K hK => ?_; simp (disch := omega) [go_sem, *, Tryz.ntmps44 ]) | (apply Hide.out hK; clear hK K; try with_reducible dsimp only [zC]) | (refine zG ?_))
           refine zP 6 ?_
           unfold zQ
           repeat' (first | (refine zD fun K hK => ?_) | (refine zA fun K hK => ?_; simp (disch := omega) [go_sem, *, zK, zH, zL]) | (apply Hide.out hK; clear hK K; try with_reducible dsimp only [zC]) | (apply Hide.out ht; clear ht hf Kt Kf) | (apply Hide.out hf; clear ht hf Kt Kf) | (with_reducible refine APure.gcall (within_spec _ _ _) ?_; try simp (disch := omega) [go_sem, *]) | (refine zG ?_) | (refine zI ?_; simp only [zC, zF]) | (refine zE fun Kt Kf ht hf => ?_; simp (disch := omega) [go_sem, *]; try (refine ⟨fun hc => ?_, fun hc => ?_⟩ <;> try (exfalso; omega))))
           (refine zM ?_; try dsimp only [zC, zF]; refine ⟨by simp, _, (by first | rfl | (simp (disch := omega) [go_sem, zB] <;> rfl)), ?_⟩; refine zJ ⟨fun k hk => (by first | rfl | (repeat rw [zB _ _ _ _ (by omega)])), (by simp [go_sem, below]), (by simp [go_sem] <;> omega), by simp, by simp⟩)
       · rw [Bool.not_eq_true] at h_d
         have : Fs.ok ⟨a, b, c, d, e⟩ = false := by simp [Fs.ok, h_a, h_b, h_c, h_d]
         rw [this]; clear this
         repeat' (first | (refine zD fun K hK => ?_) | (refine zA fun K hK => ?_; simp (disch := omega) [go_sem, *, Tryz.ntmps44 ]) | (apply Hide.out hK; clear hK K; try with_reducible dsimp only [zC]) | (refine zG ?_))
         refine zP 6 ?_
         unfold zQ
         repeat' (first | (refine zD fun K hK => ?_) | (refine zA fun K hK => ?_; simp (disch := omega) [go_sem, *, zK, zH, zL]) | (apply Hide.out hK; clear hK K; try with_reducible dsimp only [zC]) | (apply Hide.out ht; clear ht hf Kt Kf) | (apply Hide.out hf; clear ht hf Kt Kf) | (with_reducible refine APure.gcall (within_spec _ _ _) ?_; try simp (disch := omega) [go_sem, *]) | (refine zG ?_) | (refine zI ?_; simp only [zC, zF]) | (refine zE fun Kt Kf ht hf => ?_; simp (disch := omega) [go_sem, *]; try (refine ⟨fun hc => ?_, fun hc => ?_⟩ <;> try (exfalso; omega))))
         (refine zM ?_; try dsimp only [zC, zF]; refine ⟨by simp, _, (by first | rfl | (simp (disch := omega) [go_sem, zB] <;> rfl)), ?_⟩; refine zJ ⟨fun k hk => (by first | rfl | (repeat rw [zB _ _ _ _ (by omega)])), (by simp [go_sem, below]), (by simp [go_sem] <;> omega), by simp, by simp⟩)
     · rw [Bool.not_eq_true] at h_c
       have : Fs.ok ⟨a, b, c, d, e⟩ = false := by simp [Fs.ok, h_a, h_b, h_c]
       rw [this]; clear this
       repeat' (first | (refine zD fun K hK => ?_) | (refine zA fun K hK => ?_; simp (disch := omega) [go_sem, *, Tryz.ntmps44 ]) | (apply Hide.out hK; clear hK K; try with_reducible dsimp only [zC]) | (refine zG ?_))
       refine zP 6 ?_
       unfold zQ
       repeat' (first | (refine zD fun K hK => ?_) | (refine zA fun K hK => ?_; simp (disch := omega) [go_sem, *, zK, zH, zL]) | (apply Hide.out hK; clear hK K; try with_reducible dsimp only [zC]) | (apply Hide.out ht; clear ht hf Kt Kf) | (apply Hide.out hf; clear ht hf Kt Kf) | (with_reducible refine APure.gcall (within_spec _ _ _) ?_; try simp (disch := omega) [go_sem, *]) | (refine zG ?_) | (refine zI ?_; simp only [zC, zF]) | (refine zE fun Kt Kf ht hf => ?_; simp (disch := omega) [go_sem, *]; try (refine ⟨fun hc => ?_, fun hc => ?_⟩ <;> try (exfalso; omega))))
       (refine zM ?_; try dsimp only [zC, zF]; refine ⟨by simp, _, (by first | rfl | (simp (disch := omega) [go_sem, zB] <;> rfl)), ?_⟩; refine zJ ⟨fun k hk => (by first | rfl | (repeat rw [zB _ _ _ _ (by omega)])), (by simp [go_sem, below]), (by simp [go_sem] <;> omega), by simp, by simp⟩)
   · rw [Bool.not_eq_true] at h_b
     have : Fs.ok ⟨a, b, c, d, e⟩ = false := by simp [Fs.ok, h_a, h_b]
     rw [this]; clear this
     repeat' (first | (refine zD fun K hK => ?_) | (refine zA fun K hK => ?_; simp (disch := omega) [go_sem, *, Tryz.ntmps44 ]) | (apply Hide.out hK; clear hK K; try with_reducible dsimp only [zC]) | (refine zG ?_))
     refine zP 6 ?_
     unfold zQ
     repeat' (first | (refine zD fun K hK => ?_) | (refine zA fun K hK => ?_; simp (disch := omega) [go_sem, *, zK, zH, zL]) | (apply Hide.out hK; clear hK K; try with_reducible dsimp only [zC]) | (apply Hide.out ht; clear ht hf Kt Kf) | (apply Hide.out hf; clear ht hf Kt Kf) | (with_reducible refine APure.gcall (within_spec _ _ _) ?_; try simp (disch := omega) [go_sem, *]) | (refine zG ?_) | (refine zI ?_; simp only [zC, zF]) | (refine zE fun Kt Kf ht hf => ?_; simp (disch := omega) [go_sem, *]; try (refine ⟨fun hc => ?_, fun hc => ?_⟩ <;> try (exfalso; omega))))
     (refine zM ?_; try dsimp only [zC, zF]; refine ⟨by simp, _, (by first | rfl | (simp (disch := omega) [go_sem, zB] <;> rfl)), ?_⟩; refine zJ ⟨fun k hk => (by first | rfl | (repeat rw [zB _ _ _ _ (by omega)])), (by simp [go_sem, below]), (by simp [go_sem] <;> omega), by simp, by simp⟩)
 · rw [Bool.not_eq_true] at h_a
   have : Fs.ok ⟨a, b, c, d, e⟩ = false := by simp [Fs.ok, h_a]
   rw [this]; clear this
   repeat' (first | (refine zD fun K hK => ?_) | (refine zA fun K hK => ?_; simp (disch := omega) [go_sem, *, Tryz.ntmps44 ]) | (apply Hide.out hK; clear hK K; try with_reducible dsimp only [zC]) | (refine zG ?_))
   refine zP 6 ?_
   unfold zQ
   repeat' (first | (refine zD fun K hK => ?_) | (refine zA fun K hK => ?_; simp (disch := omega) [go_sem, *, zH]) | (apply Hide.out hK; clear hK K; try with_reducible dsimp only [zC]) | (apply Hide.out ht; clear ht hf Kt Kf) | (with_reducible refine APure.gcall (within_spec _ _ _) ?_; try simp (disch := omega) [go_sem, *]) | (refine zG ?_) | (refine zI ?_; simp only [zC]) | (refine zE fun Kt Kf ht hf => ?_; simp (disch := omega) [go_sem, *]; try (refine ⟨fun hc => ?_, fun hc => ?_⟩ <;> try (exfalso; omega))))
   (refine zM ?_; try dsimp only [zC, zF]; refine ⟨by simp, _, (by first | rfl | (simp (disch := omega) [go_sem, zB] <;> rfl)), ?_⟩; refine zJ ⟨fun k hk => (by first | rfl | (repeat rw [zB _ _ _ _ (by omega)])), (by simp [go_sem, below]), (by simp [go_sem] <;> omega), by simp, by simp⟩)
theorem asFacts_spec (f : Fs) : APure Tryz.prog 47 [encF f] (bv f.ok) := by
 intro h n
 refine ACalls.pure (ACalls.entry (by kernel_rfl) fun hb _ => zO Tryz.func47 rfl (by kernel_rfl) (by simp [Tryz.ntmps47]) ?_)
 obtain ⟨a, b, c, d, e⟩ := f
 by_cases h_a : wi a 0 10000 = true
 · by_cases h_b : wi b 0 10000 = true
   · by_cases h_c : wi c 0 10000 = true
     · by_cases h_d : wi d 0 10000 = true
       · by_cases h_e : wi e 0 10000 = true
         · have : Fs.ok ⟨a, b, c, d, e⟩ = true := by simp [Fs.ok, h_a, h_b, h_c, h_d, h_e]
           rw [this]; clear this
           repeat' (first | (refine zD fun K hK => ?_) | (refine zA fun K hK => ?_; simp (disch := omega) [go_sem, *, Tryz.ntmps47 ]) | (apply Hide.out hK; clear hK K; try with_reducible dsimp only [zC]) | (refine zG ?_))
           refine zP 6 ?_
           unfold zQ
           repeat' (first | (refine zD fun K hK => ?_) | (refine zA fun K hK => ?_; simp (disch := omega) [go_sem, *, zK, zH, zL]) | (apply Hide.out hK; clear hK K; try with_reducible dsimp only [zC]) | (apply Hide.out ht; clear ht hf Kt Kf) | (apply Hide.out hf; clear ht hf Kt Kf) | (clear hK K; apply Hide.out hK; clear hK K; try with_reducible dsimp only [zC]) | (with_reducible refine APure.gcall (zT _ _ _) ?_; try simp (disch := omega) [go_sem, *]) | (refine zG ?_) | (refine zI ?_; simp only [zC, zF]) | (refine zS ?_; simp only [zC, zF, if_true]) | (refine zE fun Kt Kf ht hf => ?_; simp (disch := omega) [go_sem, *]; try (refine ⟨fun hc => ?_, fun hc => ?_⟩ <;> try (exfalso; omega))))
           (refine zM ?_; try dsimp only [zC, zF]; refine ⟨by simp, _, (by first | rfl | (simp (disch := omega) [go_sem, zB] <;> rfl)), ?_⟩; refine zJ ⟨fun k hk => (by first | rfl | (repeat rw [zB _ _ _ _ (by omega)])), (by simp [go_sem, below]), (by simp [go_sem] <;> omega), by simp, by simp⟩)
         · rw [Bool.not_eq_true] at h_e
           have : Fs.ok ⟨a, b, c, d, e⟩ = false := by simp [Fs.ok, h_a, h_b, h_c, h_d, h_e]
           rw [this]; clear this
           repeat' (first | (refine zD fun K hK => ?_) | (refine zA fun K hK => ?_; simp (disch := omega) [go_sem, *, Tryz.ntmps47 ]) | (apply Hide.out hK; clear hK K; try with_reducible dsimp only [zC]) | (refine zG ?_))
           refine zP 6 ?_
           unfold zQ
           repeat' (first | (refine zD fun K hK => ?_) | (refine zA fun K hK => ?_; simp (disch := omega) [go_sem, *, zK, zH, zL]) | (apply Hide.out hK; clear hK K; try with_reducible dsimp only [zC]) | (apply Hide.out ht; clear ht hf Kt Kf) | (apply Hide.out hf; clear ht hf Kt Kf) | (with_reducible refine APure.gcall (zT _ _ _) ?_; try simp (disch := omega) [go_sem, *]) | (refine zG ?_) | (refine zI ?_; simp only [zC, zF]) | (refine zE fun Kt Kf ht hf => ?_; simp (disch := omega) [go_sem, *]; try (refine ⟨fun hc => ?_, fun hc => ?_⟩ <;> try (exfalso; omega))))
           (refine zM ?_; try dsimp only [zC, zF]; refine ⟨by simp, _, (by first | rfl | (simp (disch := omega) [go_sem, zB] <;> rfl)), ?_⟩; refine zJ ⟨fun k hk => (by first | rfl | (repeat rw [zB _ _ _ _ (by omega)])), (by simp [go_sem, below]), (by simp [go_sem] <;> omega), by simp, by simp⟩)
       · rw [Bool.not_eq_true] at h_d
         have : Fs.ok ⟨a, b, c, d, e⟩ = false := by simp [Fs.ok, h_a, h_b, h_c, h_d]
         rw [this]; clear this
         repeat' (first | (refine zD fun K hK => ?_) | (refine zA fun K hK => ?_; simp (disch := omega) [go_sem, *, Tryz.ntmps47 ]) | (apply Hide.out hK; clear hK K; try with_reducible dsimp only [zC]) | (refine zG ?_))
         refine zP 6 ?_
         unfold zQ
         repeat' (first | (refine zD fun K hK => ?_) | (refine zA fun K hK => ?_; simp (disch := omega) [go_sem, *, zK, zH, zL]) | (apply Hide.out hK; clear hK K; try with_reducible dsimp only [zC]) | (apply Hide.out ht; clear ht hf Kt Kf) | (apply Hide.out hf; clear ht hf Kt Kf) | (with_reducible refine APure.gcall (zT _ _ _) ?_; try simp (disch := omega) [go_sem, *]) | (refine zG ?_) | (refine zI ?_; simp only [zC, zF]) | (refine zE fun Kt Kf ht hf => ?_; simp (disch := omega) [go_sem, *]; try (refine ⟨fun hc => ?_, fun hc => ?_⟩ <;> try (exfalso; omega))))
         (refine zM ?_; try dsimp only [zC, zF]; refine ⟨by simp, _, (by first | rfl | (simp (disch := omega) [go_sem, zB] <;> rfl)), ?_⟩; refine zJ ⟨fun k hk => (by first | rfl | (repeat rw [zB _ _ _ _ (by omega)])), (by simp [go_sem, below]), (by simp [go_sem] <;> omega), by simp, by simp⟩)
     · rw [Bool.not_eq_true] at h_c
       have : Fs.ok ⟨a, b, c, d, e⟩ = false := by simp [Fs.ok, h_a, h_b, h_c]
       rw [this]; clear this
       repeat' (first | (refine zD fun K hK => ?_) | (refine zA fun K hK => ?_; simp (disch := omega) [go_sem, *, Tryz.ntmps47 ]) | (apply Hide.out hK; clear hK K; try with_reducible dsimp only [zC]) | (refine zG ?_))
       refine zP 6 ?_
       unfold zQ
       repeat' (first | (refine zD fun K hK => ?_) | (refine zA fun K hK => ?_; simp (disch := omega) [go_sem, *, zK, zH, zL]) | (apply Hide.out hK; clear hK K; try with_reducible dsimp only [zC]) | (apply Hide.out ht; clear ht hf Kt Kf) | (apply Hide.out hf; clear ht hf Kt Kf) | (with_reducible refine APure.gcall (zT _ _ _) ?_; try simp (disch := omega) [go_sem, *]) | (refine zG ?_) | (refine zI ?_; simp only [zC, zF]) | (refine zE fun Kt Kf ht hf => ?_; simp (disch := omega) [go_sem, *]; try (refine ⟨fun hc => ?_, fun hc => ?_⟩ <;> try (exfalso; omega))))
       (refine zM ?_; try dsimp only [zC, zF]; refine ⟨by simp, _, (by first | rfl | (simp (disch := omega) [go_sem, zB] <;> rfl)), ?_⟩; refine zJ ⟨fun k hk => (by first | rfl | (repeat rw [zB _ _ _ _ (by omega)])), (by simp [go_sem, below]), (by simp [go_sem] <;> omega), by simp, by simp⟩)
   · rw [Bool.not_eq_true] at h_b
     have : Fs.ok ⟨a, b, c, d, e⟩ = false := by simp [Fs.ok, h_a, h_b]
     rw [this]; clear this
     repeat' (first | (refine zD fun K hK => ?_) | (refine zA fun K hK => ?_; simp (disch := omega) [go_sem, *, Tryz.ntmps47 ]) | (apply Hide.out hK; clear hK K; try with_reducible dsimp only [zC]) | (refine zG ?_))
     refine zP 6 ?_
     unfold zQ
     repeat' (first | (refine zD fun K hK => ?_) | (refine zA fun K hK => ?_; simp (disch := omega) [go_sem, *, zK, zH, zL]) | (apply Hide.out hK; clear hK K; try with_reducible dsimp only [zC]) | (apply Hide.out ht; clear ht hf Kt Kf) | (apply Hide.out hf; clear ht hf Kt Kf) | (with_reducible refine APure.gcall (zT _ _ _) ?_; try simp (disch := omega) [go_sem, *]) | (refine zG ?_) | (refine zI ?_; simp only [zC, zF]) | (refine zE fun Kt Kf ht hf => ?_; simp (disch := omega) [go_sem, *]; try (refine ⟨fun hc => ?_, fun hc => ?_⟩ <;> try (exfalso; omega))))
     (refine zM ?_; try dsimp only [zC, zF]; refine ⟨by simp, _, (by first | rfl | (simp (disch := omega) [go_sem, zB] <;> rfl)), ?_⟩; refine zJ ⟨fun k hk => (by first | rfl | (repeat rw [zB _ _ _ _ (by omega)])), (by simp [go_sem, below]), (by simp [go_sem] <;> omega), by simp, by simp⟩)
 · rw [Bool.not_eq_true] at h_a
   have : Fs.ok ⟨a, b, c, d, e⟩ = false := by simp [Fs.ok, h_a]
   rw [this]; clear this
   repeat' (first | (refine zD fun K hK => ?_) | (refine zA fun K hK => ?_; simp (disch := omega) [go_sem, *, Tryz.ntmps47 ]) | (apply Hide.out hK; clear hK K; try with_reducible dsimp only [zC]) | (refine zG ?_))
   refine zP 6 ?_
   unfold zQ
   repeat' (first | (refine zD fun K hK => ?_) | (refine zA fun K hK => ?_; simp (disch := omega) [go_sem, *, zH]) | (apply Hide.out hK; clear hK K; try with_reducible dsimp only [zC]) | (apply Hide.out ht; clear ht hf Kt Kf) | (with_reducible refine APure.gcall (zT _ _ _) ?_; try simp (disch := omega) [go_sem, *]) | (refine zG ?_) | (refine zI ?_; simp only [zC]) | (refine zE fun Kt Kf ht hf => ?_; simp (disch := omega) [go_sem, *]; try (refine ⟨fun hc => ?_, fun hc => ?_⟩ <;> try (exfalso; omega))))
   (refine zM ?_; try dsimp only [zC, zF]; refine ⟨by simp, _, (by first | rfl | (simp (disch := omega) [go_sem, zB] <;> rfl)), ?_⟩; refine zJ ⟨fun k hk => (by first | rfl | (repeat rw [zB _ _ _ _ (by omega)])), (by simp [go_sem, below]), (by simp [go_sem] <;> omega), by simp, by simp⟩)
end Go.AM
