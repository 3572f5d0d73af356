/- The law WatchVersions, walked. Conditions: as each theorem says. -/
import Derived.Test.YtabidiilbgakoaaGreatDoorVg
import Derived.Test.YtabidiilbgakoaaGreatDoorVh
import Derived.Test.YtabidiilbgakoaaGreatDoorSe
namespace Go.AM
open Go.Proofs Cw Du
set_option maxRecDepth 10000
set_option maxHeartbeats 4000000
theorem fewW_smV {ls : List Lin} {l : List Ordr} (h : fewW ls l = true) (hL : ∀ x ∈ ls, wfLn x ∧ x.exc.length ≤ 9223372036854775807) (_hw : wfO l) : smL ls ∧ smO l ∧ ls.length ≤ 1000000 ∧ l.length ≤ 1000000 := by
  simp only [fewW, Bool.and_eq_true, List.all_eq_true] at h
  obtain ⟨⟨⟨h1, h2⟩, h3⟩, h4⟩ := h
  simp only [numW, Bool.or_eq_true, Bool.and_eq_true, decide_eq_true_eq] at h3 h4
  refine ⟨fun x hx => ?_, fun o ho => ?_, by omega, by omega⟩
  · have := h1 x hx
    simp only [litL, Bool.and_eq_true, decide_eq_true_eq] at this
    exact ⟨(hL x hx).1, by omega, by omega, by omega, by omega⟩
  · have := h2 o ho
    simp only [lit, Bool.and_eq_true, decide_eq_true_eq] at this
    exact ⟨by omega, by omega⟩
theorem in_wf {v : Ver} (h : fewW v.ls v.os = true) (hi : inV v) : wfV v := by
  obtain ⟨a, b, c, d⟩ := fewW_smV h hi.l2 hi.o2
  exact ⟨hi.l1, a, c, hi.o1, hi.o2, b, d⟩
theorem vsF_is (L : List Ver) : ∃ a s, vsF L = .fslc a a s (L.map encV) ∧ (L = [] ∨ a = false ∧ s = 4) := by
  unfold vsF
  split
  · rename_i e; subst e; exact ⟨true, 0, rfl, .inl rfl⟩
  · exact ⟨false, 4, rfl, .inr ⟨rfl, rfl⟩⟩
theorem addV_mem {vs : List Ver} {v x : Ver} (h : x ∈ (addV vs v).1) : x = v ∨ x ∈ vs := by
  unfold addV at h
  split at h
  · simp at h
  · split at h
    · simp at h
    · split at h
      · simp at h
      · exact mem_insV h
theorem addV_len (vs : List Ver) (v : Ver) : (addV vs v).1.length ≤ vs.length + 1 := by
  unfold addV
  split
  · simp
  · split
    · simp
    · split
      · simp
      · exact Nat.le_of_eq (insV_len vs v)
theorem inF_mem {vs : List Ver} {day : Int} {v : Ver} (h : inF vs day = some v) : v ∈ vs := by
  unfold inF at h
  exact (List.mem_filter.1 (List.mem_of_getLast? h)).1
theorem forceV_is (vs : List Ver) (day : Int) : (forceV vs day).1 = zeroV ∧ (forceV vs day).2 ≠ 0 ∨ (forceV vs day).2 = 0 ∧ (forceV vs day).1 ∈ vs := by
  unfold forceV
  split
  · rename_i h; exact .inl ⟨rfl, h⟩
  · split
    · exact .inl ⟨rfl, by simp⟩
    · split
      · rename_i v hv; exact .inr ⟨rfl, inF_mem hv⟩
      · exact .inl ⟨rfl, by simp⟩
theorem force_cp (vs : List Ver) (day : Int) (hw : ∀ v ∈ vs, wfV v) : sayV (cpz (forceV vs day).1 (forceV vs day).2) = sayV (forceV vs day).1 ∧ wfV (forceV vs day).1 ∧ wfV (cpz (forceV vs day).1 (forceV vs day).2) := by
  rcases forceV_is vs day with ⟨h1, h2⟩ | ⟨h1, h2⟩
  · rw [cpz, if_neg h2, h1]; exact ⟨rfl, wf_zeroV, wf_zeroV⟩
  · rw [cpz, if_pos h1]; exact ⟨say_cpV _, hw _ h2, wf_cpV (hw _ h2)⟩
theorem short_sm {vs : List Ver} (h : shortV vs = true) (hw : ∀ v ∈ vs, inV v) : (∀ v ∈ vs, wfV v) ∧ (vs.length ≤ 6 ∨ 20 < vs.length) ∧ vs.length ≤ 40 := by
  simp only [shortV, Bool.and_eq_true, List.all_eq_true, Bool.or_eq_true, decide_eq_true_eq] at h
  obtain ⟨h1, h2⟩ := h
  exact ⟨fun v hv => in_wf (h1 v hv) (hw v hv), by omega, by omega⟩
theorem WatchVersions_spec (nl : Bool) (vs : List Ver) (v : Ver) (hnl : vs = [] ∨ nl = false ∧ 4 = 4) (hw : ∀ v ∈ vs, inV v) (hl : vs.length ≤ 9223372036854775807) (hv : inV v) (day : Int) :
    APure Tryz.prog 3 [.fslc nl false 4 (vs.map encV), encV v, iv .i64 day] (bv true) := by
  intro h n
  have k0 := short_spec nl false 4 vs hnl hw hl
  have k8 := few_spec v.nlL v.fuL v.sL v.ls hv.l1 hv.l2 hv.l3 v.nlO v.fuO v.sO v.os hv.o1 hv.o2 hv.o4
  have k9 := Go.Proofs.SAN.sanity_ok
  refine ACalls.pure (ACalls.entry (by kernel_rfl) fun hb _ => calls_of Tryz.func3 rfl (by kernel_rfl) (by simp [Tryz.ntmps3]) ?_)
  have eV : encV v = .agg [iv .i64 v.id, iv .i64 v.fr, .fslc v.nlL v.fuL v.sL (v.ls.map encLn), .fslc v.nlO v.fuO v.sO (v.os.map encO)] := rfl
  cases hf : shortV vs with
  | false =>
    rw [hf] at k0
    rw [eV]
    clear k8 eV hf hnl hw hl hv
    generalize List.map encV vs = VV at *
    generalize List.map encLn v.ls = VL at *
    generalize List.map encO v.os = VO at *
    repeat' (first | (refine ac_seq_h fun K hK => ?_) | (refine ac_region_h fun K hK => ?_; simp (disch := omega) [go_sem, *, Tryz.ntmps3 ]) | (apply Hide.out hK; clear hK K; try with_reducible dsimp only [thenA]) | (apply Hide.out ht; clear ht hf Kt Kf) | (with_reducible refine APure.gcall (k0) ?_; try simp (disch := omega) [go_sem, * ]) | (with_reducible refine APure.gcall (k9) ?_; try simp (disch := omega) [go_sem, * ]) | (refine ac_cond_h fun Kt Kf ht hf => ?_; simp (disch := omega) [go_sem, * ]; try (refine ⟨fun hc => ?_, fun hc => ?_⟩ <;> try (exfalso; omega))))
    exact zR
  | true =>
    rw [hf] at k0
    cases hg : fewW v.ls v.os with
    | false =>
      rw [hg] at k8
      rw [eV]
      clear eV hf hnl hw hl hv hg
      generalize List.map encV vs = VV at *
      generalize List.map encLn v.ls = VL at *
      generalize List.map encO v.os = VO at *
      repeat' (first | (refine ac_seq_h fun K hK => ?_) | (refine ac_region_h fun K hK => ?_; simp (disch := omega) [go_sem, *, Tryz.ntmps3 ]) | (apply Hide.out hK; clear hK K; try with_reducible dsimp only [thenA]) | (apply Hide.out ht; clear ht hf Kt Kf) | (with_reducible refine APure.gcall (k0) ?_; try simp (disch := omega) [go_sem, * ]) | (with_reducible refine APure.gcall (k8) ?_; try simp (disch := omega) [go_sem, * ]) | (with_reducible refine APure.gcall (k9) ?_; try simp (disch := omega) [go_sem, * ]) | (refine ac_cond_h fun Kt Kf ht hf => ?_; simp (disch := omega) [go_sem, * ]; try (refine ⟨fun hc => ?_, fun hc => ?_⟩ <;> try (exfalso; omega))))
      exact zR
    | true =>
      rw [hg] at k8
      obtain ⟨w1, w2, w3⟩ := short_sm hf hw
      have w4 := in_wf hg hv
      have k1 := cv_spec nl false 4 vs hnl w1 (by omega)
      have k2 := rcv_spec nl false 4 vs hnl w1 (by omega)
      have k3 := Add_spec nl false 4 vs v hnl w1 w4 w2 (by omega)
      have k4 := rAdd_spec nl false 4 vs v hnl w1 w4 (by omega)
      have k5 := InForce_spec nl false 4 vs hnl w1 (by omega) day
      have k6 := rInForce_spec nl false 4 vs hnl w1 (by omega) day
      obtain ⟨f1, f2, f3⟩ := force_cp vs day w1
      obtain ⟨a1, s1, q1, q2⟩ := vsF_is ((addV vs v).1.map cpV)
      obtain ⟨a2, s2, q3, q4⟩ := vsF_is (addV vs v).1
      have wA : ∀ x ∈ (addV vs v).1, wfV x := fun x hx => by
        rcases addV_mem hx with rfl | hx
        · exact w4
        · exact w1 x hx
      have lA := addV_len vs v
      have r1 := rsameV_spec a1 a1 s1 ((addV vs v).1.map cpV) q2 a2 a2 s2 (addV vs v).1 q4 (fun x hx => by obtain ⟨y, hy, rfl⟩ := List.mem_map.1 hx; exact wf_cpV (wA y hy)) wA (by rw [List.length_map]; omega) (by rw [List.map_map]; exact List.map_congr_left fun x _ => say_cpV x)
      have r2 := rsameV_spec false false 4 [cpz (forceV vs day).1 (forceV vs day).2] (.inr ⟨rfl, rfl⟩) false false 4 [(forceV vs day).1] (.inr ⟨rfl, rfl⟩) (fun x hx => by rw [List.mem_singleton] at hx; subst hx; exact f3) (fun x hx => by rw [List.mem_singleton] at hx; subst hx; exact f2) (by simp) (by rw [List.map_singleton, List.map_singleton, f1])
      rw [q1] at k3
      rw [q3] at k4
      rw [eV] at k3 k4 ⊢
      rw [List.map_singleton, List.map_singleton] at r2
      generalize (addV vs v).2 = e1 at *
      generalize List.map encV ((addV vs v).1.map cpV) = A1 at *
      generalize List.map encV (addV vs v).1 = A2 at *
      generalize cpz (forceV vs day).1 (forceV vs day).2 = B1 at *
      generalize (forceV vs day).2 = e2 at *
      generalize (forceV vs day).1 = B2 at *
      generalize (chkV vs).1 = e3 at *
      generalize (chkV vs).2 = e4 at *
      clear eV hf hnl hw hl hv hg w1 w2 w3 w4 f1 f2 f3 q1 q2 q3 q4 wA lA
      generalize List.map encV vs = VV at *
      generalize List.map encLn v.ls = VL at *
      generalize List.map encO v.os = VO at *
      obtain ⟨x1, x2, x3, x4, x5, x6, x7, x8, x9, x10⟩ := B1
      obtain ⟨y1, y2, y3, y4, y5, y6, y7, y8, y9, y10⟩ := B2
      simp only [encV, cellsOf, List.cons_append, List.nil_append] at k5 k6 r2
      generalize List.map encLn x6 = X1 at *
      generalize List.map encO x10 = X2 at *
      generalize List.map encLn y6 = Y1 at *
      generalize List.map encO y10 = Y2 at *
      repeat' (first | (refine ac_seq_h fun K hK => ?_) | (refine ac_region_h fun K hK => ?_; simp (disch := omega) [go_sem, *, Tryz.ntmps3 ]) | (apply Hide.out hK; clear hK K; try with_reducible dsimp only [thenA]) | (apply Hide.out hf; clear ht hf Kt Kf) | (with_reducible refine APure.gcall (k0) ?_; try simp (disch := omega) [go_sem, * ]) | (with_reducible refine APure.gcall (k8) ?_; try simp (disch := omega) [go_sem, * ]) | (with_reducible refine APure.gcall (k9) ?_; try simp (disch := omega) [go_sem, *, upd_ne ]) | (with_reducible refine APure.gcall (k1) ?_; try simp (disch := omega) [go_sem, * ]) | (with_reducible refine APure.gcall (k2) ?_; try simp (disch := omega) [go_sem, * ]) | (with_reducible refine APure.gcall (k3) ?_; try simp (disch := omega) [go_sem, * ]) | (with_reducible refine APure.gcall (k4) ?_; try simp (disch := omega) [go_sem, * ]) | (with_reducible refine APure.gcall (k5) ?_; try simp (disch := omega) [go_sem, * ]) | (with_reducible refine APure.gcall (k6) ?_; try simp (disch := omega) [go_sem, * ]) | (with_reducible refine APure.gcall (r1) ?_; try simp (disch := omega) [go_sem, *, upd_ne ]) | (with_reducible refine APure.gcall (r2) ?_; try simp (disch := omega) [go_sem, * ]) | (refine ac_skip ?_; simp only [thenA]) | (refine ac_cond_h fun Kt Kf ht hf => ?_; simp (disch := omega) [go_sem, * ]; try (refine ⟨fun hc => ?_, fun hc => ?_⟩ <;> try (exfalso; omega))))
      exact zR
end Go.AM
