/- WatchPrints: the row and its tied card. Conditions: as each theorem says. -/
import Derived.Test.YtabidiilbgakoaaGreatDoorRPrints
namespace Go.Proofs.YtabidiilbgakoaaGreatDoor
open Go.ChangeShapes Go.WideShapes Go.ChangeAt Go.RowKit Go.AM
theorem jf1 : (Rows.watchPrintsRow.inPlace == Tryz.prog.inPlace 6) = true := by kernel_rfl
theorem jf2 : (Rows.watchPrintsRow.unfollowed == Tryz.prog.unfollowed 6) = true := by kernel_rfl
theorem jf3 : (Rows.watchPrintsRow.recurses == Tryz.prog.recurses 6) = true := by kernel_rfl
theorem jf4 : (Rows.watchPrintsRow.named == Tryz.prog.varsNamed 6) = true := by kernel_rfl
theorem jf5 : laidOutB Tryz.prog = true := by kernel_rfl
theorem jf6 : mapsRowed Tryz.prog = true := by kernel_rfl
theorem jf : joinedFacts Tryz.prog 6 Tryz.f6 (OpenSpec.ofChange Rows.watchPrintsSpec).bare Rows.watchPrintsRow = true := by
  unfold joinedFacts
  repeat' (with_reducible refine Bool.and_eq_true_iff.2 ⟨?_, ?_⟩)
  all_goals first
    | with_reducible exact jf1
    | with_reducible exact jf2
    | with_reducible exact jf3
    | with_reducible exact jf4
    | with_reducible exact jf5
    | with_reducible exact jf6
    | kernel_rfl
theorem watchPrints_holds : Rows.WatchPrintsSaid :=
  OpenClaim.holds_of_cond 6 Tryz.f6 rfl rfl rfl rfl rfl rfl rfl ⟨rfl, rfl, rfl, rfl, rfl⟩ rfl rfl rfl rfl rfl (by kernel_rfl) Tryz.func6 jf
    (of_decide_eq_true (by kernel_rfl)) (by unfold Func.isWrapper; first | (rw [if_pos (by decide +kernel)]; kernel_rfl) | (rw [if_neg (by decide +kernel)]; exact ⟨rfl, rfl⟩))
    (fun os started H enc _ F => by rw [OpenClaim.pre_eq_preRow]; exact lifted os started H enc F)
theorem plain (f : FuncId) (fn : Func) (hf : Tryz.pinned.checked.prog.funcNamed "firetower/firetowerlaw08.WatchPrints" = some f) (hfn : Tryz.pinned.checked.prog.funcs[f]? = some fn) :
    true = Tryz.pinned.checked.prog.looks [] ∧ ∀ (j : Nat) t, fn.params[j]? = some t → Tryz.pinned.checked.prog.wantsStandIn t = false := by
  obtain rfl : f = 6 := Option.some.inj ((show Tryz.prog.funcNamed "firetower/firetowerlaw08.WatchPrints" = some 6 by kernel_rfl).symm.trans hf) |>.symm
  obtain rfl : fn = Tryz.f6 := (Option.some.inj (Tryz.func6.symm.trans hfn)).symm
  refine ⟨by kernel_rfl, fun j t ht => ?_⟩
  rw [Tryz.params6] at ht
  have := Array.mem_of_getElem? ht
  simp at this
  rcases this with rfl | rfl
  · exact (show Tryz.prog.wantsStandIn 26 = false by kernel_rfl)
  · exact (show Tryz.prog.wantsStandIn 54 = false by kernel_rfl)
theorem watchPrints_card : Rows.WatchPrintsCardSaid :=
  Claim7.holds_tied_plain_at .later [] _ _ _ _ watchPrints_holds (fun _ h => by cases h) (by kernel_rfl) (fun _ h => by cases h) watchPrints_row_tie rfl ⟨rfl, rfl⟩ (by kernel_rfl) rfl plain (by kernel_rfl)
#print axioms watchPrints_card
end Go.Proofs.YtabidiilbgakoaaGreatDoor
