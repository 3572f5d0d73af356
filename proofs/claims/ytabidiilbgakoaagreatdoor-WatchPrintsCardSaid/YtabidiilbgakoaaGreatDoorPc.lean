/- A line printed, by the specification. Conditions: as each theorem says. -/
import Derived.Test.YtabidiilbgakoaaGreatDoorDa
namespace Go.AM
open Go.Proofs Cw Du
set_option maxRecDepth 10000
set_option maxHeartbeats 4000000
theorem frT_size {l : Lin} (h : PrOk l) : (frT l ++ eachT l).size ≤ 200 := by
  obtain ⟨_, t1, t2, t3, ⟨f0, f1⟩, ⟨o0, o1⟩, ⟨e0, e1⟩, _⟩ := h
  have a1 := dec_size f0 (by omega)
  have a2 := dec_size o0 (by omega)
  have a3 := dec_size e0 (by omega)
  have e6 : (⟨#[32, 111, 110, 32]⟩ : ByteArray).size = 4 := rfl
  have e7 : (⟨#[32, 102, 114, 111, 109, 32]⟩ : ByteArray).size = 6 := rfl
  have e8 : (⟨#[32, 116, 111, 32]⟩ : ByteArray).size = 4 := rfl
  have e9 : (⟨#[32, 101, 118, 101, 114, 121, 32]⟩ : ByteArray).size = 7 := rfl
  have e11 : (⟨#[]⟩ : ByteArray).size = 0 := rfl
  have h2 : (frT l).size ≤ 100 := by unfold frT; split <;> simp only [ByteArray.size_append] <;> omega
  have h3 : (eachT l).size ≤ 100 := by unfold eachT; split <;> (try simp only [ByteArray.size_append]) <;> omega
  simp only [ByteArray.size_append]
  omega
theorem daysText_spec (l : Lin) (hw : wfLn l) (hp : PrOk l) : APure Tryz.prog 138 [encLn l] (sv (dayT l)) ∧ Sz (dayT l) 30000 := by
  have hfr : (frT l ++ eachT l).size ≤ 200 := frT_size hp
  have hexs := exT_size hp.2.2.2.2.2.2.2.2 l.exc.length
  have hln := hp.2.2.2.2.2.2.2.1
  refine ⟨?_, ⟨by simp only [dayT, ByteArray.size_append, endT] at *; have e2 : (⟨#[59, 10]⟩ : ByteArray).size = 2 := rfl; omega⟩⟩
  intro h n
  refine ACalls.pure (ACalls.entry (by kernel_rfl) fun hb _ => calls_of Tryz.func138 rfl (by kernel_rfl) (by simp [Tryz.ntmps138]) ?_)
  obtain ⟨B, hB⟩ : ∃ B, frT l ++ eachT l = B := ⟨_, rfl⟩
  have hR : dayT l = B ++ exT l.exc l.exc.length ++ ⟨#[59, 10]⟩ := by rw [← hB]; rfl
  rw [hB] at hfr
  haveI z4 : Sz B 200 := ⟨hfr⟩
  rw [hR]
  clear hR hexs hln hfr
  obtain ⟨kd, tw, pe, ot, fr, to, ev, nl, fu, s, exc⟩ := l
  obtain ⟨hk, t1, t2, t3, ⟨f0, f1⟩, ⟨o0, o1⟩, ⟨e0, e1⟩, hl, hx⟩ := hp
  simp only [wfLn] at *
  have k1 := number_spec (fr.toNat + 1) fr f0 (by omega) (by omega)
  have k2 := number_spec (to.toNat + 1) to o0 (by omega) (by omega)
  have k3 := number_spec (ev.toNat + 1) ev e0 (by omega) (by omega)
  haveI y1 : Sz (dec fr) 21 := ⟨dec_size f0 (by omega)⟩
  haveI y2 : Sz (dec to) 21 := ⟨dec_size o0 (by omega)⟩
  haveI y3 : Sz (dec ev) 21 := ⟨dec_size e0 (by omega)⟩
  simp only [frT, eachT] at hB
  simp only [encLn]
  have kd0 : ∀ d, d ∈ exc → APure Tryz.prog 72 [iv .i64 d] (sv (dec d)) ∧ Sz (dec d) 21 := fun d hd => ⟨number_spec (d.toNat + 1) d (hx d hd).1 (by have := (hx d hd).2; omega) (by omega), ⟨dec_size (hx d hd).1 (by have := (hx d hd).2; omega)⟩⟩
  have hex : ∀ i, i ≤ exc.length → Sz (exT exc i) 29000 := fun i hi => ⟨by have := exT_size hx i; omega⟩
  replace kd0 : Hide _ := kd0
  replace hex : Hide _ := hex
  replace hx : Hide _ := trivial
  replace hw : Hide _ := hw
  clear hk
  rcases Decidable.em (fr = to ∧ ev = 1) with ⟨rfl, rfl⟩ | hon
  · rw [if_pos ⟨rfl, rfl⟩, if_pos rfl, app_nil] at hB
    generalize dec fr = DF at *
    replace hB : Hide _ := hB
    repeat' (first | (refine ac_seq_h fun K hK => ?_) | (refine ac_region_h fun K hK => ?_; simp (disch := omega) [go_sem, *]) | (refine ac_quiet_h mixed (by kernel_rfl) fun K hK => ?_; simp (disch := omega) [go_sem, *]) | (refine aQ_c (by simp [go_sem]) (by simp (disch := omega) [go_sem, *]; first | exact rfl | exact ⟨rfl, rfl, rfl⟩ | exact (k1).gcall ⟨rfl, rfl, rfl⟩ | exact (k2).gcall ⟨rfl, rfl, rfl⟩ | exact (k3).gcall ⟨rfl, rfl, rfl⟩) ?_; try simp only [pS_some]) | (refine aQ_end ?_) | (apply Hide.out hK; clear hK K; try with_reducible dsimp only [thenA]) | (apply Hide.out ht; clear ht hf Kt Kf) | (apply Hide.out hf; clear ht hf Kt Kf) | (with_reducible refine APure.gcall (k1) ?_; try simp (disch := omega) [go_sem, *]) | (refine ac_block ?_) | (refine ac_skip ?_; simp only [thenA]) | (refine ac_cond_h fun Kt Kf ht hf => ?_; simp (disch := omega) [go_sem, *]; try (refine ⟨fun hc => ?_, fun hc => ?_⟩ <;> try (exfalso; omega))))
    rw [hB.out]
    clear hB
    refine ac_loop_wk (fun s2 => ∃ (i n' : Nat) (H : AHeap), n + 1 ≤ n' ∧ i ≤ exc.length ∧ H n = some (.cells [iv .i64 kd, sv tw, sv pe, sv ot, iv .i64 fr, iv .i64 fr, iv .i64 1, .fslc nl fu s (exc.map (iv .i64))]) ∧ (∀ x, x < n → H x = h x) ∧ s2 = ⟨60, [(1, .ptr n 0), (3, sv (B ++ exT exc i)), (4, iv .i64 i)], H, n'⟩) (fun s2 => exc.length - (intAt s2 4).toNat) ?_ ?_
    · exact loop_start (by simp [go_sem, exT, app_nil]) (Sub.refl _) ⟨0, _, _, by (try simp only); omega, by omega, by simp (disch := omega) only [upd_same], fun x hx => by simp (disch := omega) only [upd_ne], rfl⟩
    · rintro s2 ⟨i, n', H, hn', hi, g0, g2, rfl⟩
      replace g2 : Hide _ := g2
      have hxl : exc.length ≤ 1000 := hl
      by_cases hlt : i < exc.length
      · obtain ⟨kx, zx⟩ := kd0.out _ (List.getElem_mem hlt)
        haveI zi := hex.out i hi
        have hne : exc ≠ [] := fun e => by rw [e] at hlt; simp at hlt
        obtain ⟨rfl, rfl⟩ := hw.out.resolve_left hne
        clear hne
        have hstep : exT exc i ++ (sepT i ++ dec exc[i]) = exT exc (i + 1) := by rw [exT, List.getD_eq_getElem?_getD, List.getElem?_eq_getElem hlt]; rfl
        replace kd0 : Hide _ := trivial
        replace hex : Hide _ := trivial
        by_cases hi0 : i = 0
        · subst hi0
          rw [sepT, if_pos rfl] at hstep
          replace hstep : Hide _ := hstep
          repeat' (first | (refine ac_seq_h fun K hK => ?_) | (refine ac_region_h fun K hK => ?_; simp (disch := omega) [go_sem, *, wrap64_id]) | (apply Hide.out hK; clear hK K; try with_reducible dsimp only [thenA]) | (apply Hide.out ht; clear ht hf Kt Kf) | (with_reducible refine APure.gcall (kx) ?_; try simp (disch := omega) [go_sem, *]) | (refine ac_block ?_) | (refine ac_skip ?_; simp only [thenA]) | (refine ac_cond_h fun Kt Kf ht hf => ?_; simp (disch := omega) [go_sem, *]; try (refine ⟨fun hc => ?_, fun hc => ?_⟩ <;> try (exfalso; omega))))
          rw [app_assoc, app_assoc, hstep.out]
          exact round_end (by simp (disch := omega) [go_sem]) (Sub.refl _) ⟨0 + 1, _, _, by (try simp only); omega, by omega, g0, g2.out, rfl⟩ (by simp [intAt, go_sem]; omega)
        · rw [sepT, if_neg hi0] at hstep
          replace hstep : Hide _ := hstep
          have hib : ((i : Int) == 0) = false := by simpa using hi0
          repeat' (first | (refine ac_seq_h fun K hK => ?_) | (refine ac_region_h fun K hK => ?_; simp (disch := omega) [go_sem, *, wrap64_id, ilt_true, ile_true]) | (apply Hide.out hK; clear hK K; try with_reducible dsimp only [thenA]) | (apply Hide.out ht; clear ht hf Kt Kf) | (apply Hide.out hf; clear ht hf Kt Kf) | (with_reducible refine APure.gcall (kx) ?_; try simp (disch := omega) [go_sem, *]) | (refine ac_block ?_) | (refine ac_skip ?_; simp only [thenA]) | (refine ac_cond_h fun Kt Kf ht hf => ?_; simp (disch := omega) [go_sem, *]; try (refine ⟨fun hc => ?_, fun hc => ?_⟩ <;> try (exfalso; omega))))
          rw [app_assoc, app_assoc, hstep.out]
          exact round_end (by simp (disch := omega) [go_sem]) (Sub.refl _) ⟨i + 1, _, _, by (try simp only); omega, by omega, g0, g2.out, rfl⟩ (by simp [intAt, go_sem]; omega)
      · have hii : i = exc.length := by omega
        subst hii
        haveI zi := hex.out _ (Nat.le_refl exc.length)
        repeat' (first | (refine ac_seq_h fun K hK => ?_) | (refine ac_region_h fun K hK => ?_; simp (disch := omega) [go_sem, *]) | (apply Hide.out hK; clear hK K; try with_reducible dsimp only [thenA]) | (apply Hide.out hf; clear ht hf Kt Kf) | (clear hK K; apply Hide.out hK; clear hK K; try with_reducible dsimp only [thenA]) | (refine ac_exit ?_; simp only [thenA, blockA, if_true]) | (refine ac_cond_h fun Kt Kf ht hf => ?_; simp (disch := omega) [go_sem, *]; try (refine ⟨fun hc => ?_, fun hc => ?_⟩ <;> try (exfalso; omega))))
        refine ac_ret ?_
        try dsimp only [thenA, blockA]
        refine ⟨by simp, _, (by first | rfl | (simp (disch := omega) [go_sem, upd_ne] <;> rfl)), ?_⟩
        exact ret_id ⟨fun x hx => g2.out x hx, by simp [go_sem, below, resVal], by first | rfl | simp [go_sem], by simp, by simp⟩
  rcases Decidable.em (ev = 1) with rfl | hev
  · have hb1 : (fr == to) = false := by simpa using hon
    rw [if_neg hon, if_pos rfl, app_nil] at hB
    generalize dec fr = DF at *
    generalize dec to = DT at *
    replace hB : Hide _ := hB
    repeat' (first | (refine ac_seq_h fun K hK => ?_) | (refine ac_region_h fun K hK => ?_; simp (disch := omega) [go_sem, *]) | (refine ac_quiet_h mixed (by kernel_rfl) fun K hK => ?_; simp (disch := omega) [go_sem, *]) | (refine aQ_c (by simp [go_sem]) (by simp (disch := omega) [go_sem, *]; first | exact rfl | exact ⟨rfl, rfl, rfl⟩ | exact (k1).gcall ⟨rfl, rfl, rfl⟩ | exact (k2).gcall ⟨rfl, rfl, rfl⟩ | exact (k3).gcall ⟨rfl, rfl, rfl⟩) ?_; try simp only [pS_some]) | (refine aQ_end ?_) | (apply Hide.out hK; clear hK K; try with_reducible dsimp only [thenA]) | (apply Hide.out hf; clear ht hf Kt Kf) | (refine ac_block ?_) | (refine ac_skip ?_; simp only [thenA]) | (refine ac_cond_h fun Kt Kf ht hf => ?_; simp (disch := omega) [go_sem, *]; try (refine ⟨fun hc => ?_, fun hc => ?_⟩ <;> try (exfalso; omega))))
    rw [hB.out]
    clear hB
    refine ac_loop_wk (fun s2 => ∃ (i n' : Nat) (H : AHeap), n + 1 ≤ n' ∧ i ≤ exc.length ∧ H n = some (.cells [iv .i64 kd, sv tw, sv pe, sv ot, iv .i64 fr, iv .i64 to, iv .i64 1, .fslc nl fu s (exc.map (iv .i64))]) ∧ (∀ x, x < n → H x = h x) ∧ s2 = ⟨60, [(1, .ptr n 0), (3, sv (B ++ exT exc i)), (4, iv .i64 i)], H, n'⟩) (fun s2 => exc.length - (intAt s2 4).toNat) ?_ ?_
    · exact loop_start (by simp [go_sem, exT, app_nil]) (Sub.refl _) ⟨0, _, _, by (try simp only); omega, by omega, by simp (disch := omega) only [upd_same], fun x hx => by simp (disch := omega) only [upd_ne], rfl⟩
    · rintro s2 ⟨i, n', H, hn', hi, g0, g2, rfl⟩
      replace g2 : Hide _ := g2
      have hxl : exc.length ≤ 1000 := hl
      by_cases hlt : i < exc.length
      · obtain ⟨kx, zx⟩ := kd0.out _ (List.getElem_mem hlt)
        haveI zi := hex.out i hi
        have hne : exc ≠ [] := fun e => by rw [e] at hlt; simp at hlt
        obtain ⟨rfl, rfl⟩ := hw.out.resolve_left hne
        clear hne
        have hstep : exT exc i ++ (sepT i ++ dec exc[i]) = exT exc (i + 1) := by rw [exT, List.getD_eq_getElem?_getD, List.getElem?_eq_getElem hlt]; rfl
        replace kd0 : Hide _ := trivial
        replace hex : Hide _ := trivial
        by_cases hi0 : i = 0
        · subst hi0
          rw [sepT, if_pos rfl] at hstep
          replace hstep : Hide _ := hstep
          repeat' (first | (refine ac_seq_h fun K hK => ?_) | (refine ac_region_h fun K hK => ?_; simp (disch := omega) [go_sem, *, wrap64_id]) | (apply Hide.out hK; clear hK K; try with_reducible dsimp only [thenA]) | (apply Hide.out ht; clear ht hf Kt Kf) | (with_reducible refine APure.gcall (kx) ?_; try simp (disch := omega) [go_sem, *]) | (refine ac_block ?_) | (refine ac_skip ?_; simp only [thenA]) | (refine ac_cond_h fun Kt Kf ht hf => ?_; simp (disch := omega) [go_sem, *]; try (refine ⟨fun hc => ?_, fun hc => ?_⟩ <;> try (exfalso; omega))))
          rw [app_assoc, app_assoc, hstep.out]
          exact round_end (by simp (disch := omega) [go_sem]) (Sub.refl _) ⟨0 + 1, _, _, by (try simp only); omega, by omega, g0, g2.out, rfl⟩ (by simp [intAt, go_sem]; omega)
        · rw [sepT, if_neg hi0] at hstep
          replace hstep : Hide _ := hstep
          have hib : ((i : Int) == 0) = false := by simpa using hi0
          repeat' (first | (refine ac_seq_h fun K hK => ?_) | (refine ac_region_h fun K hK => ?_; simp (disch := omega) [go_sem, *, wrap64_id, ilt_true, ile_true]) | (apply Hide.out hK; clear hK K; try with_reducible dsimp only [thenA]) | (apply Hide.out ht; clear ht hf Kt Kf) | (apply Hide.out hf; clear ht hf Kt Kf) | (with_reducible refine APure.gcall (kx) ?_; try simp (disch := omega) [go_sem, *]) | (refine ac_block ?_) | (refine ac_skip ?_; simp only [thenA]) | (refine ac_cond_h fun Kt Kf ht hf => ?_; simp (disch := omega) [go_sem, *]; try (refine ⟨fun hc => ?_, fun hc => ?_⟩ <;> try (exfalso; omega))))
          rw [app_assoc, app_assoc, hstep.out]
          exact round_end (by simp (disch := omega) [go_sem]) (Sub.refl _) ⟨i + 1, _, _, by (try simp only); omega, by omega, g0, g2.out, rfl⟩ (by simp [intAt, go_sem]; omega)
      · have hii : i = exc.length := by omega
        subst hii
        haveI zi := hex.out _ (Nat.le_refl exc.length)
        repeat' (first | (refine ac_seq_h fun K hK => ?_) | (refine ac_region_h fun K hK => ?_; simp (disch := omega) [go_sem, *]) | (apply Hide.out hK; clear hK K; try with_reducible dsimp only [thenA]) | (apply Hide.out hf; clear ht hf Kt Kf) | (clear hK K; apply Hide.out hK; clear hK K; try with_reducible dsimp only [thenA]) | (refine ac_exit ?_; simp only [thenA, blockA, if_true]) | (refine ac_cond_h fun Kt Kf ht hf => ?_; simp (disch := omega) [go_sem, *]; try (refine ⟨fun hc => ?_, fun hc => ?_⟩ <;> try (exfalso; omega))))
        refine ac_ret ?_
        try dsimp only [thenA, blockA]
        refine ⟨by simp, _, (by first | rfl | (simp (disch := omega) [go_sem, upd_ne] <;> rfl)), ?_⟩
        exact ret_id ⟨fun x hx => g2.out x hx, by simp [go_sem, below, resVal], by first | rfl | simp [go_sem], by simp, by simp⟩
  have hb2 : (ev == 1) = false := by simpa using hev
  have hb3 : (ev != 1) = true := by simpa using hev
  rw [if_neg hon, if_neg hev, ← app_assoc] at hB
  generalize dec ev = DE at *
  rcases Decidable.em (fr = to) with rfl | heq
  · generalize dec fr = DF at *
    replace hB : Hide _ := hB
    repeat' (first | (refine ac_seq_h fun K hK => ?_) | (refine ac_region_h fun K hK => ?_; simp (disch := omega) [go_sem, *]) | (refine ac_quiet_h mixed (by kernel_rfl) fun K hK => ?_; simp (disch := omega) [go_sem, *]) | (refine aQ_c (by simp [go_sem]) (by simp (disch := omega) [go_sem, *]; first | exact rfl | exact ⟨rfl, rfl, rfl⟩ | exact (k1).gcall ⟨rfl, rfl, rfl⟩ | exact (k2).gcall ⟨rfl, rfl, rfl⟩ | exact (k3).gcall ⟨rfl, rfl, rfl⟩) ?_; try simp only [pS_some]) | (refine aQ_end ?_) | (apply Hide.out hK; clear hK K; try with_reducible dsimp only [thenA]) | (apply Hide.out ht; clear ht hf Kt Kf) | (apply Hide.out hf; clear ht hf Kt Kf) | (with_reducible refine APure.gcall (k3) ?_; try simp (disch := omega) [go_sem, *]) | (refine ac_block ?_) | (refine ac_skip ?_; simp only [thenA]) | (refine ac_cond_h fun Kt Kf ht hf => ?_; simp (disch := omega) [go_sem, *]; try (refine ⟨fun hc => ?_, fun hc => ?_⟩ <;> try (exfalso; omega))))
    rw [hB.out]
    clear hB
    refine ac_loop_wk (fun s2 => ∃ (i n' : Nat) (H : AHeap), n + 1 ≤ n' ∧ i ≤ exc.length ∧ H n = some (.cells [iv .i64 kd, sv tw, sv pe, sv ot, iv .i64 fr, iv .i64 fr, iv .i64 ev, .fslc nl fu s (exc.map (iv .i64))]) ∧ (∀ x, x < n → H x = h x) ∧ s2 = ⟨60, [(1, .ptr n 0), (3, sv (B ++ exT exc i)), (4, iv .i64 i)], H, n'⟩) (fun s2 => exc.length - (intAt s2 4).toNat) ?_ ?_
    · exact loop_start (by simp [go_sem, exT, app_nil]) (Sub.refl _) ⟨0, _, _, by (try simp only); omega, by omega, by simp (disch := omega) only [upd_same], fun x hx => by simp (disch := omega) only [upd_ne], rfl⟩
    · rintro s2 ⟨i, n', H, hn', hi, g0, g2, rfl⟩
      replace g2 : Hide _ := g2
      have hxl : exc.length ≤ 1000 := hl
      by_cases hlt : i < exc.length
      · obtain ⟨kx, zx⟩ := kd0.out _ (List.getElem_mem hlt)
        haveI zi := hex.out i hi
        have hne : exc ≠ [] := fun e => by rw [e] at hlt; simp at hlt
        obtain ⟨rfl, rfl⟩ := hw.out.resolve_left hne
        clear hne
        have hstep : exT exc i ++ (sepT i ++ dec exc[i]) = exT exc (i + 1) := by rw [exT, List.getD_eq_getElem?_getD, List.getElem?_eq_getElem hlt]; rfl
        replace kd0 : Hide _ := trivial
        replace hex : Hide _ := trivial
        by_cases hi0 : i = 0
        · subst hi0
          rw [sepT, if_pos rfl] at hstep
          replace hstep : Hide _ := hstep
          repeat' (first | (refine ac_seq_h fun K hK => ?_) | (refine ac_region_h fun K hK => ?_; simp (disch := omega) [go_sem, *, wrap64_id]) | (apply Hide.out hK; clear hK K; try with_reducible dsimp only [thenA]) | (apply Hide.out ht; clear ht hf Kt Kf) | (with_reducible refine APure.gcall (kx) ?_; try simp (disch := omega) [go_sem, *]) | (refine ac_block ?_) | (refine ac_skip ?_; simp only [thenA]) | (refine ac_cond_h fun Kt Kf ht hf => ?_; simp (disch := omega) [go_sem, *]; try (refine ⟨fun hc => ?_, fun hc => ?_⟩ <;> try (exfalso; omega))))
          rw [app_assoc, app_assoc, hstep.out]
          exact round_end (by simp (disch := omega) [go_sem]) (Sub.refl _) ⟨0 + 1, _, _, by (try simp only); omega, by omega, g0, g2.out, rfl⟩ (by simp [intAt, go_sem]; omega)
        · rw [sepT, if_neg hi0] at hstep
          replace hstep : Hide _ := hstep
          have hib : ((i : Int) == 0) = false := by simpa using hi0
          repeat' (first | (refine ac_seq_h fun K hK => ?_) | (refine ac_region_h fun K hK => ?_; simp (disch := omega) [go_sem, *, wrap64_id, ilt_true, ile_true]) | (apply Hide.out hK; clear hK K; try with_reducible dsimp only [thenA]) | (apply Hide.out ht; clear ht hf Kt Kf) | (apply Hide.out hf; clear ht hf Kt Kf) | (with_reducible refine APure.gcall (kx) ?_; try simp (disch := omega) [go_sem, *]) | (refine ac_block ?_) | (refine ac_skip ?_; simp only [thenA]) | (refine ac_cond_h fun Kt Kf ht hf => ?_; simp (disch := omega) [go_sem, *]; try (refine ⟨fun hc => ?_, fun hc => ?_⟩ <;> try (exfalso; omega))))
          rw [app_assoc, app_assoc, hstep.out]
          exact round_end (by simp (disch := omega) [go_sem]) (Sub.refl _) ⟨i + 1, _, _, by (try simp only); omega, by omega, g0, g2.out, rfl⟩ (by simp [intAt, go_sem]; omega)
      · have hii : i = exc.length := by omega
        subst hii
        haveI zi := hex.out _ (Nat.le_refl exc.length)
        repeat' (first | (refine ac_seq_h fun K hK => ?_) | (refine ac_region_h fun K hK => ?_; simp (disch := omega) [go_sem, *]) | (apply Hide.out hK; clear hK K; try with_reducible dsimp only [thenA]) | (apply Hide.out hf; clear ht hf Kt Kf) | (clear hK K; apply Hide.out hK; clear hK K; try with_reducible dsimp only [thenA]) | (refine ac_exit ?_; simp only [thenA, blockA, if_true]) | (refine ac_cond_h fun Kt Kf ht hf => ?_; simp (disch := omega) [go_sem, *]; try (refine ⟨fun hc => ?_, fun hc => ?_⟩ <;> try (exfalso; omega))))
        refine ac_ret ?_
        try dsimp only [thenA, blockA]
        refine ⟨by simp, _, (by first | rfl | (simp (disch := omega) [go_sem, upd_ne] <;> rfl)), ?_⟩
        exact ret_id ⟨fun x hx => g2.out x hx, by simp [go_sem, below, resVal], by first | rfl | simp [go_sem], by simp, by simp⟩
  · have hb1 : (fr == to) = false := by simpa using heq
    generalize dec fr = DF at *
    generalize dec to = DT at *
    replace hB : Hide _ := hB
    repeat' (first | (refine ac_seq_h fun K hK => ?_) | (refine ac_region_h fun K hK => ?_; simp (disch := omega) [go_sem, *]) | (refine ac_quiet_h mixed (by kernel_rfl) fun K hK => ?_; simp (disch := omega) [go_sem, *]) | (refine aQ_c (by simp [go_sem]) (by simp (disch := omega) [go_sem, *]; first | exact rfl | exact ⟨rfl, rfl, rfl⟩ | exact (k1).gcall ⟨rfl, rfl, rfl⟩ | exact (k2).gcall ⟨rfl, rfl, rfl⟩ | exact (k3).gcall ⟨rfl, rfl, rfl⟩) ?_; try simp only [pS_some]) | (refine aQ_end ?_) | (apply Hide.out hK; clear hK K; try with_reducible dsimp only [thenA]) | (apply Hide.out ht; clear ht hf Kt Kf) | (apply Hide.out hf; clear ht hf Kt Kf) | (with_reducible refine APure.gcall (k3) ?_; try simp (disch := omega) [go_sem, *]) | (refine ac_block ?_) | (refine ac_skip ?_; simp only [thenA]) | (refine ac_cond_h fun Kt Kf ht hf => ?_; simp (disch := omega) [go_sem, *]; try (refine ⟨fun hc => ?_, fun hc => ?_⟩ <;> try (exfalso; omega))))
    rw [hB.out]
    clear hB
    refine ac_loop_wk (fun s2 => ∃ (i n' : Nat) (H : AHeap), n + 1 ≤ n' ∧ i ≤ exc.length ∧ H n = some (.cells [iv .i64 kd, sv tw, sv pe, sv ot, iv .i64 fr, iv .i64 to, iv .i64 ev, .fslc nl fu s (exc.map (iv .i64))]) ∧ (∀ x, x < n → H x = h x) ∧ s2 = ⟨60, [(1, .ptr n 0), (3, sv (B ++ exT exc i)), (4, iv .i64 i)], H, n'⟩) (fun s2 => exc.length - (intAt s2 4).toNat) ?_ ?_
    · exact loop_start (by simp [go_sem, exT, app_nil]) (Sub.refl _) ⟨0, _, _, by (try simp only); omega, by omega, by simp (disch := omega) only [upd_same], fun x hx => by simp (disch := omega) only [upd_ne], rfl⟩
    · rintro s2 ⟨i, n', H, hn', hi, g0, g2, rfl⟩
      replace g2 : Hide _ := g2
      have hxl : exc.length ≤ 1000 := hl
      by_cases hlt : i < exc.length
      · obtain ⟨kx, zx⟩ := kd0.out _ (List.getElem_mem hlt)
        haveI zi := hex.out i hi
        have hne : exc ≠ [] := fun e => by rw [e] at hlt; simp at hlt
        obtain ⟨rfl, rfl⟩ := hw.out.resolve_left hne
        clear hne
        have hstep : exT exc i ++ (sepT i ++ dec exc[i]) = exT exc (i + 1) := by rw [exT, List.getD_eq_getElem?_getD, List.getElem?_eq_getElem hlt]; rfl
        replace kd0 : Hide _ := trivial
        replace hex : Hide _ := trivial
        by_cases hi0 : i = 0
        · subst hi0
          rw [sepT, if_pos rfl] at hstep
          replace hstep : Hide _ := hstep
          repeat' (first | (refine ac_seq_h fun K hK => ?_) | (refine ac_region_h fun K hK => ?_; simp (disch := omega) [go_sem, *, wrap64_id]) | (apply Hide.out hK; clear hK K; try with_reducible dsimp only [thenA]) | (apply Hide.out ht; clear ht hf Kt Kf) | (with_reducible refine APure.gcall (kx) ?_; try simp (disch := omega) [go_sem, *]) | (refine ac_block ?_) | (refine ac_skip ?_; simp only [thenA]) | (refine ac_cond_h fun Kt Kf ht hf => ?_; simp (disch := omega) [go_sem, *]; try (refine ⟨fun hc => ?_, fun hc => ?_⟩ <;> try (exfalso; omega))))
          rw [app_assoc, app_assoc, hstep.out]
          exact round_end (by simp (disch := omega) [go_sem]) (Sub.refl _) ⟨0 + 1, _, _, by (try simp only); omega, by omega, g0, g2.out, rfl⟩ (by simp [intAt, go_sem]; omega)
        · rw [sepT, if_neg hi0] at hstep
          replace hstep : Hide _ := hstep
          have hib : ((i : Int) == 0) = false := by simpa using hi0
          repeat' (first | (refine ac_seq_h fun K hK => ?_) | (refine ac_region_h fun K hK => ?_; simp (disch := omega) [go_sem, *, wrap64_id, ilt_true, ile_true]) | (apply Hide.out hK; clear hK K; try with_reducible dsimp only [thenA]) | (apply Hide.out ht; clear ht hf Kt Kf) | (apply Hide.out hf; clear ht hf Kt Kf) | (with_reducible refine APure.gcall (kx) ?_; try simp (disch := omega) [go_sem, *]) | (refine ac_block ?_) | (refine ac_skip ?_; simp only [thenA]) | (refine ac_cond_h fun Kt Kf ht hf => ?_; simp (disch := omega) [go_sem, *]; try (refine ⟨fun hc => ?_, fun hc => ?_⟩ <;> try (exfalso; omega))))
          rw [app_assoc, app_assoc, hstep.out]
          exact round_end (by simp (disch := omega) [go_sem]) (Sub.refl _) ⟨i + 1, _, _, by (try simp only); omega, by omega, g0, g2.out, rfl⟩ (by simp [intAt, go_sem]; omega)
      · have hii : i = exc.length := by omega
        subst hii
        haveI zi := hex.out _ (Nat.le_refl exc.length)
        repeat' (first | (refine ac_seq_h fun K hK => ?_) | (refine ac_region_h fun K hK => ?_; simp (disch := omega) [go_sem, *]) | (apply Hide.out hK; clear hK K; try with_reducible dsimp only [thenA]) | (apply Hide.out hf; clear ht hf Kt Kf) | (clear hK K; apply Hide.out hK; clear hK K; try with_reducible dsimp only [thenA]) | (refine ac_exit ?_; simp only [thenA, blockA, if_true]) | (refine ac_cond_h fun Kt Kf ht hf => ?_; simp (disch := omega) [go_sem, *]; try (refine ⟨fun hc => ?_, fun hc => ?_⟩ <;> try (exfalso; omega))))
        refine ac_ret ?_
        try dsimp only [thenA, blockA]
        refine ⟨by simp, _, (by first | rfl | (simp (disch := omega) [go_sem, upd_ne] <;> rfl)), ?_⟩
        exact ret_id ⟨fun x hx => g2.out x hx, by simp [go_sem, below, resVal], by first | rfl | simp [go_sem], by simp, by simp⟩
theorem lineText_spec (l : Lin) (hw : wfLn l) (hp : PrOk l) : APure Tryz.prog 71 [encLn l] (sv (linT l)) := by
  intro h n
  obtain ⟨kx, zx⟩ := daysText_spec l hw hp
  refine ACalls.pure (ACalls.entry (by kernel_rfl) fun hb _ => calls_of Tryz.func71 rfl (by kernel_rfl) (by simp [Tryz.ntmps71]) ?_)
  obtain ⟨kd, tw, pe, ot, fr, to, ev, nl, fu, s, exc⟩ := l
  obtain ⟨hk, t1, t2, t3, _⟩ := hp
  simp only [linT, encLn] at *
  haveI z1 : Sz tw 1000000 := ⟨t1⟩
  haveI z2 : Sz pe 1000000 := ⟨t2⟩
  haveI z3 : Sz ot 1000000 := ⟨t3⟩
  generalize dayT ⟨kd, tw, pe, ot, fr, to, ev, nl, fu, s, exc⟩ = DT at *
  rcases hk with rfl | rfl | rfl | rfl
  · simp only [hdT, spT, if_true, if_false, Int.reduceEq]
    repeat' (first | (refine ac_seq_h fun K hK => ?_) | (refine ac_region_h fun K hK => ?_; simp (disch := omega) [go_sem, *]) | (refine ac_quiet_h mixed (by kernel_rfl) fun K hK => ?_; simp (disch := omega) [go_sem, *]) | (refine aQ_c (by simp [go_sem]) (by simp (disch := omega) [go_sem, *]; first | exact rfl | exact ⟨rfl, rfl, rfl⟩ | exact (kx).gcall ⟨rfl, rfl, rfl⟩) ?_; try simp only [pS_some]) | (refine aQ_end ?_) | (apply Hide.out hK; clear hK K; try with_reducible dsimp only [thenA]) | (apply Hide.out ht; clear ht hf Kt Kf) | (refine ac_block ?_) | (refine ac_cond_h fun Kt Kf ht hf => ?_; simp (disch := omega) [go_sem, *]; try (refine ⟨fun hc => ?_, fun hc => ?_⟩ <;> try (exfalso; omega))))
    (refine ac_ret ?_; try dsimp only [thenA, blockA]; refine ⟨by simp, _, (by first | rfl | (simp (disch := omega) [go_sem, upd_ne] <;> rfl)), ?_⟩; refine ret_id ⟨fun k hk => (by first | rfl | (repeat rw [upd_ne _ _ _ _ (by omega)])), (by simp [go_sem, below]), (by simp [go_sem] <;> omega), by simp, by simp⟩)
  · simp only [hdT, spT, if_true, if_false, Int.reduceEq]
    repeat' (first | (refine ac_seq_h fun K hK => ?_) | (refine ac_region_h fun K hK => ?_; simp (disch := omega) [go_sem, *]) | (refine ac_quiet_h mixed (by kernel_rfl) fun K hK => ?_; simp (disch := omega) [go_sem, *]) | (refine aQ_c (by simp [go_sem]) (by simp (disch := omega) [go_sem, *]; first | exact rfl | exact ⟨rfl, rfl, rfl⟩ | exact (kx).gcall ⟨rfl, rfl, rfl⟩) ?_; try simp only [pS_some]) | (refine aQ_end ?_) | (apply Hide.out hK; clear hK K; try with_reducible dsimp only [thenA]) | (apply Hide.out ht; clear ht hf Kt Kf) | (apply Hide.out hf; clear ht hf Kt Kf) | (refine ac_block ?_) | (refine ac_cond_h fun Kt Kf ht hf => ?_; simp (disch := omega) [go_sem, *]; try (refine ⟨fun hc => ?_, fun hc => ?_⟩ <;> try (exfalso; omega))))
    (refine ac_ret ?_; try dsimp only [thenA, blockA]; refine ⟨by simp, _, (by first | rfl | (simp (disch := omega) [go_sem, upd_ne] <;> rfl)), ?_⟩; refine ret_id ⟨fun k hk => (by first | rfl | (repeat rw [upd_ne _ _ _ _ (by omega)])), (by simp [go_sem, below]), (by simp [go_sem] <;> omega), by simp, by simp⟩)
  · simp only [hdT, spT, if_true, if_false, Int.reduceEq]
    repeat' (first | (refine ac_seq_h fun K hK => ?_) | (refine ac_region_h fun K hK => ?_; simp (disch := omega) [go_sem, *]) | (refine ac_quiet_h mixed (by kernel_rfl) fun K hK => ?_; simp (disch := omega) [go_sem, *]) | (refine aQ_c (by simp [go_sem]) (by simp (disch := omega) [go_sem, *]; first | exact rfl | exact ⟨rfl, rfl, rfl⟩ | exact (kx).gcall ⟨rfl, rfl, rfl⟩) ?_; try simp only [pS_some]) | (refine aQ_end ?_) | (apply Hide.out hK; clear hK K; try with_reducible dsimp only [thenA]) | (apply Hide.out ht; clear ht hf Kt Kf) | (apply Hide.out hf; clear ht hf Kt Kf) | (refine ac_block ?_) | (refine ac_cond_h fun Kt Kf ht hf => ?_; simp (disch := omega) [go_sem, *]; try (refine ⟨fun hc => ?_, fun hc => ?_⟩ <;> try (exfalso; omega))))
    (refine ac_ret ?_; try dsimp only [thenA, blockA]; refine ⟨by simp, _, (by first | rfl | (simp (disch := omega) [go_sem, upd_ne] <;> rfl)), ?_⟩; refine ret_id ⟨fun k hk => (by first | rfl | (repeat rw [upd_ne _ _ _ _ (by omega)])), (by simp [go_sem, below]), (by simp [go_sem] <;> omega), by simp, by simp⟩)
  · simp only [hdT, spT, if_false, Int.reduceEq]
    repeat' (first | (refine ac_seq_h fun K hK => ?_) | (refine ac_region_h fun K hK => ?_; simp (disch := omega) [go_sem, *]) | (refine ac_quiet_h mixed (by kernel_rfl) fun K hK => ?_; simp (disch := omega) [go_sem, *]) | (refine aQ_c (by simp [go_sem]) (by simp (disch := omega) [go_sem, *]; first | exact rfl | exact ⟨rfl, rfl, rfl⟩ | exact (kx).gcall ⟨rfl, rfl, rfl⟩) ?_; try simp only [pS_some]) | (refine aQ_end ?_) | (apply Hide.out hK; clear hK K; try with_reducible dsimp only [thenA]) | (apply Hide.out hf; clear ht hf Kt Kf) | (refine ac_block ?_) | (refine ac_skip ?_; simp only [thenA, blockA]) | (refine ac_cond_h fun Kt Kf ht hf => ?_; simp (disch := omega) [go_sem, *]; try (refine ⟨fun hc => ?_, fun hc => ?_⟩ <;> try (exfalso; omega))))
    (refine ac_ret ?_; try dsimp only [thenA, blockA]; refine ⟨by simp, _, (by first | rfl | (simp (disch := omega) [go_sem, upd_ne] <;> rfl)), ?_⟩; refine ret_id ⟨fun k hk => (by first | rfl | (repeat rw [upd_ne _ _ _ _ (by omega)])), (by simp [go_sem, below]), (by simp [go_sem] <;> omega), by simp, by simp⟩)
end Go.AM
