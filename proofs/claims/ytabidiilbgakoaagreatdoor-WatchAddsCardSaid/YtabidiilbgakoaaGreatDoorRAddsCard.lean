/- WatchAdds: the row and its tied card. Conditions: as each theorem says. -/
import Derived.Test.YtabidiilbgakoaaGreatDoorRAdds
namespace Go.Proofs.YtabidiilbgakoaaGreatDoor
open Go.ChangeShapes Go.WideShapes Go.ChangeAt Go.RowKit Go.AM
theorem jf1 : (Rows.watchAddsRow.inPlace == Tryz.prog.inPlace 4) = true := by kernel_rfl
theorem jf2 : (Rows.watchAddsRow.unfollowed == Tryz.prog.unfollowed 4) = true := by kernel_rfl
theorem jf3 : (Rows.watchAddsRow.recurses == Tryz.prog.recurses 4) = true := by kernel_rfl
theorem jf4 : (Rows.watchAddsRow.named == Tryz.prog.varsNamed 4) = true := by kernel_rfl
theorem jf5 : laidOutB Tryz.prog = true := by kernel_rfl
theorem jf6 : mapsRowed Tryz.prog = true := by kernel_rfl
theorem jf : joinedFacts Tryz.prog 4 Tryz.f4 (OpenSpec.ofChange Rows.watchAddsSpec).bare Rows.watchAddsRow = true := by
  unfold joinedFacts
  repeat' (with_reducible refine Bool.and_eq_true_iff.2 ⟨?_, ?_⟩)
  all_goals first
    | with_reducible exact jf1
    | with_reducible exact jf2
    | with_reducible exact jf3
    | with_reducible exact jf4
    | with_reducible exact jf5
    | with_reducible exact jf6
    | kernel_rfl
theorem watchAdds_holds : Rows.WatchAddsSaid :=
  OpenClaim.holds_of_cond 4 Tryz.f4 rfl rfl rfl rfl rfl rfl rfl ⟨rfl, rfl, rfl, rfl, rfl⟩ rfl rfl rfl rfl rfl (by kernel_rfl) Tryz.func4 jf
    (of_decide_eq_true (by kernel_rfl)) (by unfold Func.isWrapper; first | (rw [if_pos (by decide +kernel)]; kernel_rfl) | (rw [if_neg (by decide +kernel)]; exact ⟨rfl, rfl⟩))
    (fun os started H enc _ F => by rw [OpenClaim.pre_eq_preRow]; exact lifted os started H enc F)
theorem plain (f : FuncId) (fn : Func) (hf : Tryz.pinned.checked.prog.funcNamed "firetower/firetowerlaw08.WatchAdds" = some f) (hfn : Tryz.pinned.checked.prog.funcs[f]? = some fn) :
    true = Tryz.pinned.checked.prog.looks [] ∧ ∀ (j : Nat) t, fn.params[j]? = some t → Tryz.pinned.checked.prog.wantsStandIn t = false := by
  obtain rfl : f = 4 := Option.some.inj ((show Tryz.prog.funcNamed "firetower/firetowerlaw08.WatchAdds" = some 4 by kernel_rfl).symm.trans hf) |>.symm
  obtain rfl : fn = Tryz.f4 := (Option.some.inj (Tryz.func4.symm.trans hfn)).symm
  refine ⟨by kernel_rfl, fun j t ht => ?_⟩
  rw [Tryz.params4] at ht
  have := Array.mem_of_getElem? ht
  simp at this
  rcases this with rfl | rfl | rfl
  · exact (show Tryz.prog.wantsStandIn 22 = false by kernel_rfl)
  · exact (show Tryz.prog.wantsStandIn 28 = false by kernel_rfl)
  · exact (show Tryz.prog.wantsStandIn 3 = false by kernel_rfl)
theorem watchAdds_card : Rows.WatchAddsCardSaid :=
  Claim7.holds_tied_plain_at .later [] _ _ _ _ watchAdds_holds (fun _ h => by cases h) (by kernel_rfl) (fun _ h => by cases h) watchAdds_row_tie rfl ⟨rfl, rfl⟩ (by kernel_rfl) rfl plain (by kernel_rfl)
#print axioms watchAdds_card
end Go.Proofs.YtabidiilbgakoaaGreatDoor
