/- The law WatchRosters, walked. Conditions: as each theorem says. -/
import Derived.Test.YtkbgmkhdjmkpdaaGreatDoorRd
import Derived.Test.YtkbgmkhdjmkpdaaGreatDoorFx
import Derived.Test.YtkbgmkhdjmkpdaaGreatDoorSe
namespace Go.AM
open Go.Proofs Cw Du Go.RowKit
set_option maxRecDepth 10000
set_option maxHeartbeats 4000000
theorem mkLn_ok (p : Pr) (fr to : Int) (E : List Int) : j9 (ZH p fr to E) := by
  unfold j9 ZH
  by_cases h : E = []
  · exact .inl h
  · exact .inr ⟨by simp [h], by simp [h]⟩
theorem lnsP_ok (p : Pr) (L : List Int) : ∀ x ∈ qP p L, j9 x ∧ x.exc.length ≤ 1000000 := by
  intro x hx
  unfold qP at hx
  split at hx
  · rename_i h
    rw [List.mem_singleton] at hx; subst hx
    exact ⟨mkLn_ok _ _ _ _, by show (ZY L).length ≤ _; omega⟩
  · obtain ⟨q, _, rfl⟩ := List.mem_map.1 hx
    exact ⟨mkLn_ok _ _ _ _, by show ([] : List Int).length ≤ _; simp⟩
theorem plnA_ok (S : Int → List Pr) (lo : Int) (k : Nat) (A : List Pr) : ∀ x ∈ plnA S lo k A, j9 x ∧ x.exc.length ≤ 1000000 := by
  intro x hx
  unfold plnA at hx
  obtain ⟨p, _, h⟩ := List.mem_flatMap.1 hx
  exact lnsP_ok _ _ x h
theorem outP_ok (ls : List Lin) (l : List Ordr) (lo hi : Int) : (∀ x ∈ (J2 ls l lo hi).1, j9 x ∧ x.exc.length ≤ 1000000) ∧ (J2 ls l lo hi).1.length ≤ 60 := by
  unfold J2
  split
  · exact ⟨fun x hx => absurd hx (by simp), by simp⟩
  · split
    · exact ⟨fun x hx => absurd hx (by simp), by simp⟩
    · exact ⟨plnA_ok _ _ _ _, by simp only; omega⟩
theorem WatchRosters_spec (nlL nl : Bool) (ls : List Lin) (l : List Ordr) (hnlL : ls = [] ∨ nlL = false ∧ 8 = 8) (hL : ∀ x ∈ ls, j9 x ∧ x.exc.length ≤ 9223372036854775807) (hlL : ls.length ≤ 9223372036854775807) (hnl : l = [] ∨ nl = false ∧ 7 = 7) (hw : wfO l) (hl : l.length ≤ 9223372036854775807)
    (nlM nk : Bool) (ms : List Lin) (m : List Ordr) (hnlM : ms = [] ∨ nlM = false ∧ 8 = 8) (hM : ∀ x ∈ ms, j9 x ∧ x.exc.length ≤ 9223372036854775807) (hlM : ms.length ≤ 9223372036854775807) (hnk : m = [] ∨ nk = false ∧ 7 = 7) (hwm : wfO m) (hm : m.length ≤ 9223372036854775807) (lo hi : Int) :
    zL Tryz.prog 5 [.agg [.fslc nlL false 8 (ls.map zT), .fslc nl false 7 (l.map ZB)], .agg [.fslc nlM false 8 (ms.map zT), .fslc nk false 7 (m.map ZB)], .agg [iv .i64 lo, iv .i64 hi]] (bv true) := by
  intro h n
  have k0 := few_spec nlL false 8 ls hnlL hL hlL nl false 7 l hnl hw hl
  have k8 := few_spec nlM false 8 ms hnlM hM hlM nk false 7 m hnk hwm hm
  have k9 := Go.Proofs.SAN.sanity_ok
  refine zS.pure (zS.entry (by kernel_rfl) fun hb _ => zX Tryz.func5 rfl (by kernel_rfl) (by simp [Tryz.ntmps5]) ?_)
  cases hf : fewW ls l with
  | false =>
    rw [hf] at k0
    generalize List.map zT ls = LL at *
    generalize List.map ZB l = OO at *
    generalize List.map zT ms = MM at *
    generalize List.map ZB m = QQ at *
    clear hf hnlL hL hlL hnl hw hl hnlM hM hlM hnk hwm hm k8
    repeat' (first | (refine zF fun K hK => ?_) | (refine zB fun K hK => ?_; simp (disch := omega) [go_sem, *, zG, Tryz.ntmps5 ]) | (apply zC.out hK; clear hK K; try with_reducible dsimp only [zD]) | (apply zC.out ht; clear ht hf Kt Kf) | (with_reducible refine zL.gcall (k0) ?_; try simp (disch := omega) [go_sem, * ]) | (with_reducible refine zL.gcall (k9) ?_; try simp (disch := omega) [go_sem, * ]) | (refine zH fun Kt Kf ht hf => ?_; simp (disch := omega) [go_sem, * ]; try (refine ⟨fun hc => ?_, fun hc => ?_⟩ <;> try (exfalso; omega))))
    exact zR
  | true =>
    rw [hf] at k0
    cases hg : fewW ms m with
    | false =>
      rw [hg] at k8
      generalize List.map zT ls = LL at *
      generalize List.map ZB l = OO at *
      generalize List.map zT ms = MM at *
      generalize List.map ZB m = QQ at *
      clear hf hg hnlL hL hlL hnl hw hl hnlM hM hlM hnk hwm hm
      repeat' (first | (refine zF fun K hK => ?_) | (refine zB fun K hK => ?_; simp (disch := omega) [go_sem, *, zG, Tryz.ntmps5 ]) | (apply zC.out hK; clear hK K; try with_reducible dsimp only [zD]) | (apply zC.out ht; clear ht hf Kt Kf) | (with_reducible refine zL.gcall (k0) ?_; try simp (disch := omega) [go_sem, *, zG ]) | (with_reducible refine zL.gcall (k8) ?_; try simp (disch := omega) [go_sem, * ]) | (with_reducible refine zL.gcall (k9) ?_; try simp (disch := omega) [go_sem, * ]) | (refine zH fun Kt Kf ht hf => ?_; simp (disch := omega) [go_sem, * ]; try (refine ⟨fun hc => ?_, fun hc => ?_⟩ <;> try (exfalso; omega))))
      exact zR
    | true =>
      rw [hg] at k8
      obtain ⟨g1, g2, g3, g4⟩ := fewW_sm hf hL hw
      obtain ⟨m1, m2, m3, m4⟩ := fewW_sm hg hM hwm
      have k1 := SameDays_spec nlL false 8 ls hnlL g1 g3 nl false 7 l hnl hw g2 g4 nlM false 8 ms hnlM m1 m3 nk false 7 m hnk hwm m2 m4 lo hi
      have k2 := rSameDays_spec nlL false 8 ls hnlL g1 g3 nl false 7 l hnl hw g2 g4 nlM false 8 ms hnlM m1 m3 nk false 7 m hnk hwm m2 m4 lo hi
      have k3 := Plain_spec nlL false 8 ls hnlL g1 g3 nl false 7 l hnl hw g2 g4 lo hi
      have k4 := rPlain_spec nlL false 8 ls hnlL g1 g3 nl false 7 l hnl hw g2 g4 lo hi
      obtain ⟨p1, p2⟩ := outP_ok ls l lo hi
      have s1 := sameW_spec (J2 ls l lo hi).1 (J2 ls l lo hi).1 (by omega) (by omega) p1 p1
      rw [decide_eq_true rfl] at s1
      obtain ⟨a1, a2, q1, _⟩ := lnF_is (J2 ls l lo hi).1
      rw [q1] at k3 k4 s1
      generalize (J2 ls l lo hi).2 = e1 at *
      generalize (Jn ls l ms m lo hi).2.2 = e2 at *
      generalize (Jn ls l ms m lo hi).2.1 = e3 at *
      generalize (Jn ls l ms m lo hi).1 = e4 at *
      generalize List.map zT (J2 ls l lo hi).1 = PP at *
      generalize List.map zT ls = LL at *
      generalize List.map ZB l = OO at *
      generalize List.map zT ms = MM at *
      generalize List.map ZB m = QQ at *
      clear hf hg hnlL hL hlL hnl hw hl hnlM hM hlM hnk hwm hm g1 g2 g3 g4 m1 m2 m3 m4 p1 p2 q1
      repeat' (first | (refine zF fun K hK => ?_) | (refine zB fun K hK => ?_; simp (disch := omega) [go_sem, *, zG, Tryz.ntmps5 ]) | (apply zC.out hK; clear hK K; try with_reducible dsimp only [zD]) | (apply zC.out hf; clear ht hf Kt Kf) | (with_reducible refine zL.gcall (k0) ?_; try simp (disch := omega) [go_sem, *, zG ]) | (with_reducible refine zL.gcall (k8) ?_; try simp (disch := omega) [go_sem, * ]) | (with_reducible refine zL.gcall (k9) ?_; try simp (disch := omega) [go_sem, *, zG ]) | (with_reducible refine zL.gcall (k1) ?_; try simp (disch := omega) [go_sem, * ]) | (with_reducible refine zL.gcall (k2) ?_; try simp (disch := omega) [go_sem, * ]) | (with_reducible refine zL.gcall (k3) ?_; try simp (disch := omega) [go_sem, * ]) | (with_reducible refine zL.gcall (k4) ?_; try simp (disch := omega) [go_sem, * ]) | (with_reducible refine zL.gcall (s1) ?_; try simp (disch := omega) [go_sem, * ]) | (refine zK ?_; simp only [zD]) | (refine zH fun Kt Kf ht hf => ?_; simp (disch := omega) [go_sem, * ]; try (refine ⟨fun hc => ?_, fun hc => ?_⟩ <;> try (exfalso; omega))))
      exact zR
end Go.AM
