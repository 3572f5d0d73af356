/- The law RelayWorlds returns true for every input. Conditions: as each theorem says. -/
import Derived.Test.YtjbphojecieloaaDoor
import Derived.Test.YtjbphojecieloaaXd
namespace Go.Proofs.Ytjbphojecieloaa
open Go.ChangeShapes Go.WideShapes Go.ChangeAt Go.RowKit Go.AM
set_option maxRecDepth 100000 in
theorem relayWorlds_lifted (os : Os) (started : os.Started) (H : Type) (enc : TypeId × Value → H) :
    ReturnsInHanded {} Try.checked os 5 .any (Rows.relayWorldsSpec.pre6 enc Try.prog Try.f5 Rows.relayWorldsRow.domain false) (Rows.relayWorldsSpec.post enc Try.prog Try.f5 false true false false) := by
  refine returnsInHanded_of_change (C := Try.checked) (by kernel_rfl) started (by kernel_rfl) Try.func5
    (ChangeSpec.witness6 (enc := enc) (C := Try.checked) false ⟨#[], #[.int .i64 0, .int .i64 0, .slice none 0 0, .int .i64 0, .int .i64 0], []⟩ 8 (by kernel_rfl) (by kernel_rfl) (by kernel_rfl) (by kernel_rfl)) ?_
  intro W base args ds gs before hval0 hW _ _
  have hval : ∀ (j : Nat) t v, Try.f5.params[j]? = some t → args[j]? = some v → Value.okWide Try.prog W .any base t v := hval0
  have hW' := hW
  obtain ⟨p, q, hA0, hV, rfl, _, _⟩ := hW
  have hA : DataW.TrodAll enc Try.prog W 0 (fun _ => true) true Try.f5.params.toList args.toList ds p := hA0
  have hA2 := hA
  rw [Try.params5] at hA hval
  obtain ⟨v0, vs0, d0, ds0, p0, q0, e0, rfl, rfl, h0, hA⟩ := trodAll_cons hA
  obtain ⟨v1, vs1, d1, ds1, p1, q1, rfl, rfl, rfl, h1, hA⟩ := trodAll_cons hA
  obtain ⟨v2, vs2, d2, ds2, p2, q2, rfl, rfl, rfl, h2, hA⟩ := trodAll_cons hA
  obtain ⟨v3, vs3, d3, ds3, p3, q3, rfl, rfl, rfl, h3, hA⟩ := trodAll_cons hA
  obtain ⟨v4, vs4, d4, ds4, p4, q4, rfl, rfl, rfl, h4, hA⟩ := trodAll_cons hA
  obtain ⟨rfl, rfl, rfl⟩ := trodAll_nil hA
  obtain ⟨rfl, rfl⟩ := trodVars_none hV
  obtain ⟨la⟩ := args
  have e0 : la = [v0, v1, v2, v3, v4] := e0
  subst e0
  obtain ⟨x0, g0⟩ := rd_num Try.underlying3 (hval 0 3 v0 rfl rfl) h0
  obtain ⟨x1, g1⟩ := rd_num Try.underlying3 (hval 1 3 v1 rfl rfl) h1
  obtain ⟨b2, x2, g2, _, x2l⟩ := rd_steps (hval 2 22 v2 rfl rfl) h2
  obtain ⟨x3, g3⟩ := rd_num Try.underlying3 (hval 3 3 v3 rfl rfl) h3
  obtain ⟨x4, g4⟩ := rd_num Try.underlying3 (hval 4 3 v4 rfl rfl) h4
  refine (run_true (relayWorlds_spec x0 x1 x2 b2 x2l x3 x4) W #[v0, v1, v2, v3, v4] ⟨_, _, rfl, g0, _, _, rfl, g1, _, _, rfl, g2, _, _, rfl, g3, _, _, rfl, g4, rfl⟩).mono fun e W' ⟨he, hb⟩ => ?_
  refine ⟨_, he, [d0, d1, d2, d3, d4], [], _, [], _, [], hW', trodAll_mk1 (shut_bool Try.underlying4 true), trodAll_below hb ?_ (fun x hx => hW'.lt x (List.mem_append.2 (.inl hx))) hA2, rfl, hb.frame _, fun h => by cases h⟩
  rw [Try.params5]
  intro t ht
  simp at ht
  rcases ht with rfl | rfl | rfl <;> exact ⟨by kernel_rfl, of_decide_eq_true (by kernel_rfl)⟩
theorem relayWorlds_holds : Rows.RelayWorldsSaid :=
  OpenClaim.holds_of_wide 5 Try.f5 rfl rfl rfl rfl rfl rfl rfl ⟨rfl, rfl, rfl, rfl, rfl⟩ rfl rfl rfl rfl rfl (by kernel_rfl) Try.func5 (by kernel_rfl)
    (of_decide_eq_true (by kernel_rfl)) (by unfold Func.isWrapper; first | (rw [if_pos (by decide +kernel)]; kernel_rfl) | (rw [if_neg (by decide +kernel)]; exact ⟨rfl, rfl⟩))
    (fun os started H enc _ => relayWorlds_lifted os started H enc)
end Go.Proofs.Ytjbphojecieloaa
