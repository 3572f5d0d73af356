/- The law RelayChecks returns true for every input. Conditions: as each theorem says. -/
import Derived.Test.YtkhdnlojgoonkaaWe
namespace Go.Proofs.Ytkhdnlojgoonkaa
open Go.ChangeShapes Go.WideShapes Go.ChangeAt Go.RowKit Go.AM
set_option maxRecDepth 100000 in
theorem relayChecks_lifted (os : Os) (started : os.Started) (H : Type) (enc : TypeId × Value → H) :
    ReturnsInHanded {} Try.checked os 3 .any (Rows.relayChecksSpec.pre6 enc Try.prog Try.f3 Rows.relayChecksRow.domain false) (Rows.relayChecksSpec.post enc Try.prog Try.f3 false true false false) := by
  refine returnsInHanded_of_change (C := Try.checked) (by kernel_rfl) started (by kernel_rfl) Try.func3
    (ChangeSpec.witness6 (enc := enc) (C := Try.checked) false ⟨#[], #[.agg #[.int .i64 0, .slice none 0 0], .agg #[.int .i64 0, .int .i64 0, .int .i64 0, .slice none 0 0], .int .i64 0], []⟩ 8 (by kernel_rfl) (by kernel_rfl) (by kernel_rfl) (by kernel_rfl)) ?_
  intro W base args ds gs before hval0 hW _ _
  have hval : ∀ (j : Nat) t v, Try.f3.params[j]? = some t → args[j]? = some v → Value.okWide Try.prog W .any base t v := hval0
  have hW' := hW
  obtain ⟨p, q, hA0, hV, rfl, _, _⟩ := hW
  have hA : DataW.TrodAll enc Try.prog W 0 (fun _ => true) true Try.f3.params.toList args.toList ds p := hA0
  have hA2 := hA
  rw [Try.params3] at hA hval
  obtain ⟨v0, v1, v2, d0, d1, d2, p0, p1, p2, rfl, rfl, rfl, h0, h1, h2⟩ := trodAll_three hA
  obtain ⟨rfl, rfl⟩ := trodVars_none hV
  obtain ⟨N, hN, _⟩ := rd_net (hval 0 24 v0 rfl rfl) h0
  obtain ⟨L, hL, _⟩ := rd_link (hval 1 27 v1 rfl rfl) h1
  obtain ⟨t, ht⟩ := rd_num Try.underlying3 (hval 2 3 v2 rfl rfl) h2
  refine (run_true (relayChecks_spec N L t) W #[v0, v1, v2] ⟨_, _, rfl, hN, _, _, rfl, hL, _, _, rfl, ht, rfl⟩).mono fun e W' ⟨he, hb⟩ => ?_
  refine ⟨_, he, [d0, d1, d2], [], _, [], _, [], hW', trodAll_mk1 (shut_bool Try.underlying4 true), trodAll_below hb ?_ (fun x hx => hW'.lt x (List.mem_append.2 (.inl hx))) hA2, rfl, hb.frame _, fun h => by cases h⟩
  rw [Try.params3]
  intro t ht
  simp at ht
  rcases ht with rfl | rfl | rfl <;> exact ⟨by kernel_rfl, of_decide_eq_true (by kernel_rfl)⟩
theorem relayChecks_holds : Rows.RelayChecksSaid :=
  OpenClaim.holds_of_wide 3 Try.f3 rfl rfl rfl rfl rfl rfl rfl ⟨rfl, rfl, rfl, rfl, rfl⟩ rfl rfl rfl rfl rfl (by kernel_rfl) Try.func3 (by kernel_rfl)
    (of_decide_eq_true (by kernel_rfl)) (by unfold Func.isWrapper; first | (rw [if_pos (by decide +kernel)]; kernel_rfl) | (rw [if_neg (by decide +kernel)]; exact ⟨rfl, rfl⟩))
    (fun os started H enc _ => relayChecks_lifted os started H enc)
end Go.Proofs.Ytkhdnlojgoonkaa
