/- Equal and Implies; the law WatchCompares. Conditions: as each theorem says. -/
import Derived.Test.YtbpbgiedemkciaaGreatDoorDg
import Derived.Test.YtbpbgiedemkciaaGreatDoorDd
import Derived.Test.YtbpbgiedemkciaaGreatDoorCb
import Derived.Test.YtbpbgiedemkciaaGreatDoorSe
namespace Go.AM
open Go.Proofs Cw
set_option maxRecDepth 10000
set_option maxHeartbeats 4000000
theorem lens_step (x y : Int) (l : Nat) (hl : 1 ≤ l) (hy : 1 ≤ y) (h : (x = y ∧ y ≤ 1073741824) ∨ (20000 < x ∧ 20000 < y)) : (rmul x l = y * l ∧ y * l ≤ 1073741824) ∨ (20000 < rmul x l ∧ 20000 < y * (l : Int)) := by
 unfold rmul
 rcases h with ⟨rfl, h1⟩ | ⟨h1, h2⟩
 · by_cases h3 : x * (l : Int) ≤ 1073741824
   · left; omega
   · right; omega
 · right
   have e1 : x * 1 ≤ x * (l : Int) := Int.mul_le_mul_of_nonneg_left (by omega) (by omega)
   have e2 : y * 1 ≤ y * (l : Int) := Int.mul_le_mul_of_nonneg_left (by omega) (by omega)
   omega
theorem few_same (cs : List Cnd) (h : okL cs = true) : rfew cs = fewP cs := by
 have l0 := zY 0 cs
 have l1 := zY 1 cs
 have l2 := zY 2 cs
 have l3 := zY 3 cs
 have l4 := zY 4 cs
 have s1 := lens_step 1 (lensP cs 0) _ l0 (lensP_pos cs 0) (.inl ⟨rfl, by simp [lensP]⟩)
 have s2 := lens_step _ (lensP cs 1) _ l1 (lensP_pos cs 1) s1
 have s3 := lens_step _ (lensP cs 2) _ l2 (lensP_pos cs 2) s2
 have s4 := lens_step _ (lensP cs 3) _ l3 (lensP_pos cs 3) s3
 have s5 := lens_step _ (lensP cs 4) _ l4 (lensP_pos cs 4) s4
 unfold rfew fewP
 rw [nums_same 0 cs h, nums_same 1 cs h, nums_same 2 cs h, nums_same 3 cs h, nums_same 4 cs h]
 have e5 : lensP cs 5 = lensP cs 4 * ((numsP 4 cs).length : Int) := rfl
 rw [decide_eq_decide, e5]
 omega
end Go.AM
