/- The law WatchPrints, walked. Conditions: as each theorem says. -/
import Derived.Test.YtabidiilbgakoaaGreatDoorPh
import Derived.Test.YtabidiilbgakoaaGreatDoorPi
import Derived.Test.YtabidiilbgakoaaGreatDoorSe
namespace Go.AM
open Go.Proofs Cw Du
set_option maxRecDepth 10000
set_option maxHeartbeats 4000000
theorem fewW_smP {ls : List Lin} {l : List Ordr} (h : fewW ls l = true) (hL : ∀ x ∈ ls, wfLn x ∧ x.exc.length ≤ 9223372036854775807) (_hw : wfO l) : smL ls ∧ smO l ∧ ls.length ≤ 1000000 ∧ l.length ≤ 1000000 := by
  simp only [fewW, Bool.and_eq_true, List.all_eq_true] at h
  obtain ⟨⟨⟨h1, h2⟩, h3⟩, h4⟩ := h
  simp only [numW, Bool.or_eq_true, Bool.and_eq_true, decide_eq_true_eq] at h3 h4
  refine ⟨fun x hx => ?_, fun o ho => ?_, by omega, by omega⟩
  · have := h1 x hx
    simp only [litL, Bool.and_eq_true, decide_eq_true_eq] at this
    exact ⟨(hL x hx).1, by omega, by omega, by omega, by omega⟩
  · have := h2 o ho
    simp only [lit, Bool.and_eq_true, decide_eq_true_eq] at this
    exact ⟨by omega, by omega⟩
theorem WatchPrints_spec (nlL nl : Bool) (ls : List Lin) (l : List Ordr) (hnlL : ls = [] ∨ nlL = false ∧ 8 = 8) (hL : ∀ x ∈ ls, wfLn x ∧ x.exc.length ≤ 9223372036854775807) (hlL : ls.length ≤ 9223372036854775807) (hnl : l = [] ∨ nl = false ∧ 7 = 7) (hw : wfO l) (hl : l.length ≤ 9223372036854775807) (c : Cnd) (hc : wf c) :
    APure Tryz.prog 6 [.agg [.fslc nlL false 8 (ls.map encLn), .fslc nl false 7 (l.map encO)], encC c] (bv true) := by
  intro h n
  have k0 := few_spec nlL false 8 ls hnlL hL hlL nl false 7 l hnl hw hl
  have k9 := Go.Proofs.SAN.sanity_ok
  have k8 := small_spec c hc
  refine ACalls.pure (ACalls.entry (by kernel_rfl) fun hb _ => calls_of Tryz.func6 rfl (by kernel_rfl) (by simp [Tryz.ntmps6]) ?_)
  cases hf : fewW ls l with
  | false =>
    rw [hf] at k0
    obtain ⟨k, f, o, nn, nl, fu, s, ks⟩ := c
    simp only [encC] at *
    generalize encL ks = EL at *
    generalize List.map encLn ls = LL at *
    generalize List.map encO l = OO at *
    clear hf hnlL hL hlL hnl hw hl hc
    generalize decide (tot _ ≤ 80) = tt at k8
    repeat' (first | (refine ac_seq_h fun K hK => ?_) | (refine ac_region_h fun K hK => ?_; simp (disch := omega) [go_sem, *, upd_ne, Tryz.ntmps6 ]) | (apply Hide.out hK; clear hK K; try with_reducible dsimp only [thenA]) | (apply Hide.out ht; clear ht hf Kt Kf) | (with_reducible refine APure.gcall (k0) ?_; try simp (disch := omega) [go_sem, * ]) | (with_reducible refine APure.gcall (k9) ?_; try simp (disch := omega) [go_sem, * ]) | (refine ac_cond_h fun Kt Kf ht hf => ?_; simp (disch := omega) [go_sem, * ]; try (refine ⟨fun hc => ?_, fun hc => ?_⟩ <;> try (exfalso; omega))))
    (refine ac_ret ?_; try dsimp only [thenA, blockA]; refine ⟨by simp, _, (by first | rfl | (simp (disch := omega) [go_sem, upd_ne] <;> rfl)), ?_⟩; refine ret_id ⟨fun k hk => (by first | rfl | (repeat rw [upd_ne _ _ _ _ (by omega)])), (by simp [go_sem, below]), (by simp [go_sem] <;> omega), by simp, by simp⟩)
  | true =>
    rw [hf] at k0
    obtain ⟨g1, g2, g3, g4⟩ := fewW_smP hf hL hw
    by_cases hs : tot c ≤ 80
    · rw [decide_eq_true hs] at k8
      have k1 := Print_spec nlL false 8 ls hnlL g1 g3 nl false 7 l hnl hw g2 g4
      have k2 := rPrint_spec nlL false 8 ls hnlL g1 g3 nl false 7 l hnl hw g2 g4
      have k3 := PrintCond_spec c hc (by omega)
      have k4 := rPrintCond_spec c hc
      have k5 := check_spec nlL false 8 ls hnlL g1 g3 nl false 7 l hnl hw g2 g4
      have k6 := rcheck_spec nlL false 8 ls hnlL g1 g3 nl false 7 l hnl hw g2 g4
      generalize pwT ls l = e1 at *
      generalize chkW ls l = e2 at *
      generalize pcT c = e3 at *
      generalize pcE c = e4 at *
      obtain ⟨k, f, o, nn, nl, fu, s, ks⟩ := c
      simp only [encC] at *
      generalize encL ks = EL at *
      generalize List.map encLn ls = LL at *
      generalize List.map encO l = OO at *
      clear hf hnlL hL hlL hnl hw hl g1 g2 g3 g4 hc hs
      repeat' (first | (refine ac_seq_h fun K hK => ?_) | (refine ac_region_h fun K hK => ?_; simp (disch := omega) [go_sem, *, upd_ne, Tryz.ntmps6 ]) | (refine ac_quiet_h mixed (by kernel_rfl) fun K hK => ?_; simp (disch := omega) [go_sem, * ]) | (refine aQ_c (by simp [go_sem]) (by simp (disch := omega) [go_sem, *, upd_ne ]; first | exact rfl | exact ⟨rfl, rfl, rfl⟩ | exact (k0).gcall ⟨rfl, rfl, rfl⟩ | exact (k9).gcall ⟨rfl, rfl, rfl⟩ | exact (k8).gcall ⟨rfl, rfl, rfl⟩ | exact (k1).gcall ⟨rfl, rfl, rfl⟩ | exact (k2).gcall ⟨rfl, rfl, rfl⟩ | exact (k3).gcall ⟨rfl, rfl, rfl⟩ | exact (k4).gcall ⟨rfl, rfl, rfl⟩ | exact (k5).gcall ⟨rfl, rfl, rfl⟩ | exact (k6).gcall ⟨rfl, rfl, rfl⟩) ?_; try simp only [pS_some]) | (refine aQ_end ?_) | (apply Hide.out hK; clear hK K; try with_reducible dsimp only [thenA]) | (apply Hide.out hf; clear ht hf Kt Kf) | (with_reducible refine APure.gcall (k0) ?_; try simp (disch := omega) [go_sem, * ]) | (with_reducible refine APure.gcall (k8) ?_; try simp (disch := omega) [go_sem, * ]) | (with_reducible refine APure.gcall (k1) ?_; try simp (disch := omega) [go_sem, * ]) | (with_reducible refine APure.gcall (k2) ?_; try simp (disch := omega) [go_sem, * ]) | (with_reducible refine APure.gcall (k3) ?_; try simp (disch := omega) [go_sem, * ]) | (with_reducible refine APure.gcall (k4) ?_; try simp (disch := omega) [go_sem, * ]) | (refine ac_skip ?_; simp only [thenA]) | (refine ac_cond_h fun Kt Kf ht hf => ?_; simp (disch := omega) [go_sem, * ]; try (refine ⟨fun hc => ?_, fun hc => ?_⟩ <;> try (exfalso; omega))))
      (refine ac_ret ?_; try dsimp only [thenA, blockA]; refine ⟨by simp, _, (by first | rfl | (simp (disch := omega) [go_sem, upd_ne] <;> rfl)), ?_⟩; refine ret_id ⟨fun k hk => (by first | rfl | (repeat rw [upd_ne _ _ _ _ (by omega)])), (by simp [go_sem, below]), (by simp [go_sem] <;> omega), by simp, by simp⟩)
    · rw [decide_eq_false hs] at k8
      obtain ⟨k, f, o, nn, nl, fu, s, ks⟩ := c
      simp only [encC] at *
      generalize encL ks = EL at *
      generalize List.map encLn ls = LL at *
      generalize List.map encO l = OO at *
      clear hf hnlL hL hlL hnl hw hl g1 g2 g3 g4 hc hs
      repeat' (first | (refine ac_seq_h fun K hK => ?_) | (refine ac_region_h fun K hK => ?_; simp (disch := omega) [go_sem, *, upd_ne, Tryz.ntmps6 ]) | (apply Hide.out hK; clear hK K; try with_reducible dsimp only [thenA]) | (apply Hide.out ht; clear ht hf Kt Kf) | (with_reducible refine APure.gcall (k0) ?_; try simp (disch := omega) [go_sem, * ]) | (with_reducible refine APure.gcall (k9) ?_; try simp (disch := omega) [go_sem, * ]) | (with_reducible refine APure.gcall (k8) ?_; try simp (disch := omega) [go_sem, * ]) | (refine ac_cond_h fun Kt Kf ht hf => ?_; simp (disch := omega) [go_sem, * ]; try (refine ⟨fun hc => ?_, fun hc => ?_⟩ <;> try (exfalso; omega))))
      (refine ac_ret ?_; try dsimp only [thenA, blockA]; refine ⟨by simp, _, (by first | rfl | (simp (disch := omega) [go_sem, upd_ne] <;> rfl)), ?_⟩; refine ret_id ⟨fun k hk => (by first | rfl | (repeat rw [upd_ne _ _ _ _ (by omega)])), (by simp [go_sem, below]), (by simp [go_sem] <;> omega), by simp, by simp⟩)
end Go.AM
