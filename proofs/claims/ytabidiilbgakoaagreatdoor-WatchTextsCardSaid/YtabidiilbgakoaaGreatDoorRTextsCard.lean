/- WatchTexts: the row and its tied card. Conditions: as each theorem says. -/
import Derived.Test.YtabidiilbgakoaaGreatDoorRTexts
namespace Go.Proofs.YtabidiilbgakoaaGreatDoor
open Go.ChangeShapes Go.WideShapes Go.ChangeAt Go.RowKit Go.AM
theorem jf1 : (Rows.watchTextsRow.inPlace == Tryz.prog.inPlace 7) = true := by kernel_rfl
theorem jf2 : (Rows.watchTextsRow.unfollowed == Tryz.prog.unfollowed 7) = true := by kernel_rfl
theorem jf3 : (Rows.watchTextsRow.recurses == Tryz.prog.recurses 7) = true := by kernel_rfl
theorem jf4 : (Rows.watchTextsRow.named == Tryz.prog.varsNamed 7) = true := by kernel_rfl
theorem jf5 : laidOutB Tryz.prog = true := by kernel_rfl
theorem jf6 : mapsRowed Tryz.prog = true := by kernel_rfl
theorem jf : joinedFacts Tryz.prog 7 Tryz.f7 (OpenSpec.ofChange Rows.watchTextsSpec).bare Rows.watchTextsRow = true := by
  unfold joinedFacts
  repeat' (with_reducible refine Bool.and_eq_true_iff.2 ⟨?_, ?_⟩)
  all_goals first
    | with_reducible exact jf1
    | with_reducible exact jf2
    | with_reducible exact jf3
    | with_reducible exact jf4
    | with_reducible exact jf5
    | with_reducible exact jf6
    | kernel_rfl
theorem watchTexts_holds : Rows.WatchTextsSaid :=
  OpenClaim.holds_of_cond 7 Tryz.f7 rfl rfl rfl rfl rfl rfl rfl ⟨rfl, rfl, rfl, rfl, rfl⟩ rfl rfl rfl rfl rfl (by kernel_rfl) Tryz.func7 jf
    (of_decide_eq_true (by kernel_rfl)) (by unfold Func.isWrapper; first | (rw [if_pos (by decide +kernel)]; kernel_rfl) | (rw [if_neg (by decide +kernel)]; exact ⟨rfl, rfl⟩))
    (fun os started H enc _ F => by rw [OpenClaim.pre_eq_preRow]; exact lifted os started H enc F)
theorem plain (f : FuncId) (fn : Func) (hf : Tryz.pinned.checked.prog.funcNamed "firetower/firetowerlaw08.WatchTexts" = some f) (hfn : Tryz.pinned.checked.prog.funcs[f]? = some fn) :
    true = Tryz.pinned.checked.prog.looks [] ∧ ∀ (j : Nat) t, fn.params[j]? = some t → Tryz.pinned.checked.prog.wantsStandIn t = false := by
  obtain rfl : f = 7 := Option.some.inj ((show Tryz.prog.funcNamed "firetower/firetowerlaw08.WatchTexts" = some 7 by kernel_rfl).symm.trans hf) |>.symm
  obtain rfl : fn = Tryz.f7 := (Option.some.inj (Tryz.func7.symm.trans hfn)).symm
  refine ⟨by kernel_rfl, fun j t ht => ?_⟩
  rw [Tryz.params7] at ht
  have := Array.mem_of_getElem? ht
  simp at this
  rcases this with rfl | rfl | rfl
  · exact (show Tryz.prog.wantsStandIn 26 = false by kernel_rfl)
  · exact (show Tryz.prog.wantsStandIn 54 = false by kernel_rfl)
  · exact (show Tryz.prog.wantsStandIn 9 = false by kernel_rfl)
theorem watchTexts_card : Rows.WatchTextsCardSaid :=
  Claim7.holds_tied_plain_at .later [] _ _ _ _ watchTexts_holds (fun _ h => by cases h) (by kernel_rfl) (fun _ h => by cases h) watchTexts_row_tie rfl ⟨rfl, rfl⟩ (by kernel_rfl) rfl plain (by kernel_rfl)
#print axioms watchTexts_card
end Go.Proofs.YtabidiilbgakoaaGreatDoor
