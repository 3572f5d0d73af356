/- A line printed, by the program. Conditions: as each theorem says. -/
import Derived.Test.YtabidiilbgakoaaGreatDoorDe
namespace Go.AM
open Cw Du
end Go.AM

namespace Go.AM
open Go.Proofs Cw Du
set_option maxRecDepth 10000
set_option maxHeartbeats 4000000
theorem ac_midV {P : Program} {fl : Nat} {c : Code} {K : St → Prop} {Q : Exit → St → Prop} {st : St} (Mid : St → Prop) (h2 : ∀ s, Mid s → K s) (h1 : ACode P fl c (thenA (fun s => ∃ s', Wk s s' ∧ Mid s') Q) st) : ACode P fl c (thenA K Q) st :=
  ac_post h1 fun e s hq => by
    cases e with
    | normal => obtain ⟨s', k, m⟩ := hq; exact ⟨s', k, h2 s' m⟩
    | _ => exact ⟨s, ⟨rfl, rfl, fun _ => .inr rfl, fun _ _ e => e⟩, hq⟩
end Go.AM

namespace Go.AM
open Go.Proofs Cw Du
set_option maxRecDepth 10000
set_option maxHeartbeats 4000000
theorem showLine_spec (l : Lin) (hw : wfLn l) (hp : PrOk l) : APure Tryz.prog 67 [encLn l] (sv (linT l)) := by
  intro h n
  refine ACalls.pure (ACalls.entry (by kernel_rfl) fun hb _ => calls_of Tryz.func67 rfl (by kernel_rfl) (by simp [Tryz.ntmps67]) ?_)
  obtain ⟨kd, tw, pe, ot, fr, to, ev, nl, fu, s, exc⟩ := l
  have hp0 := hp
  obtain ⟨hk, t1, t2, t3, ⟨f0, f1⟩, ⟨o0, o1⟩, ⟨e0, e1⟩, hl, hx⟩ := hp
  simp only [wfLn] at *
  haveI z1 : Sz tw 1000000 := ⟨t1⟩
  haveI z2 : Sz pe 1000000 := ⟨t2⟩
  haveI z3 : Sz ot 1000000 := ⟨t3⟩
  have k1 := itoa_spec (n := fr) (by omega) (by omega)
  have k2 := itoa_spec (n := to) (by omega) (by omega)
  have k3 := itoa_spec (n := ev) (by omega) (by omega)
  haveI y1 : Sz (dec fr) 21 := ⟨dec_size f0 (by omega)⟩
  haveI y2 : Sz (dec to) 21 := ⟨dec_size o0 (by omega)⟩
  haveI y3 : Sz (dec ev) 21 := ⟨dec_size e0 (by omega)⟩
  obtain ⟨A, hA⟩ : ∃ A, hdT ⟨kd, tw, pe, ot, fr, to, ev, nl, fu, s, exc⟩ = A := ⟨_, rfl⟩
  obtain ⟨B, hB⟩ : ∃ B, hdT ⟨kd, tw, pe, ot, fr, to, ev, nl, fu, s, exc⟩ ++ frT ⟨kd, tw, pe, ot, fr, to, ev, nl, fu, s, exc⟩ ++ eachT ⟨kd, tw, pe, ot, fr, to, ev, nl, fu, s, exc⟩ = B := ⟨_, rfl⟩
  have hR : linT ⟨kd, tw, pe, ot, fr, to, ev, nl, fu, s, exc⟩ = B ++ exT exc exc.length ++ ⟨#[59, 10]⟩ := by
    simp only [linT, dayT, ← hB, endT, app_assoc]
  have hz : B.size ≤ 3001000 := by rw [← hB]; exact base_size hp0
  haveI z4 : Sz B 3001000 := ⟨hz⟩
  rw [hR]
  have hzA : A.size ≤ 3001000 := by
    have e := congrArg ByteArray.size hB
    simp only [ByteArray.size_append, hA] at e
    omega
  rw [hA] at hB
  haveI z5 : Sz A 3001000 := ⟨hzA⟩
  simp only [frT, eachT] at hB
  simp only [hdT, spT] at hA
  clear hzA
  simp only [encLn]
  clear hz hp0 hR
  have kd0 : ∀ d, d ∈ exc → APure Tryz.prog 68 [iv .i64 d] (sv (dec d)) ∧ Sz (dec d) 21 := fun d hd => ⟨itoa_spec (by have := (hx d hd).1; omega) (by have := (hx d hd).2; omega), ⟨dec_size (hx d hd).1 (by have := (hx d hd).2; omega)⟩⟩
  have hex : ∀ i, i ≤ exc.length → Sz (exT exc i) 29000 := fun i hi => ⟨by have := exT_size hx i; omega⟩
  replace kd0 : Hide _ := kd0
  replace hex : Hide _ := hex
  replace hx : Hide _ := trivial
  replace hw : Hide _ := hw
  iterate 9 (first | (refine ac_seq_h fun K hK => ?_) | (refine ac_region_h fun K hK => ?_; simp (disch := omega) [go_sem, *, Tryz.ntmps67]) | (apply Hide.out hK; clear hK K; try with_reducible dsimp only [thenA]))
  refine ac_midV (fun s' => ∃ n', n < n' ∧ s' = ⟨92, [(1, .ptr n 0), (3, sv A)], h.upd n (some (.cells [iv .i64 kd, sv tw, sv pe, sv ot, iv .i64 fr, iv .i64 to, iv .i64 ev, .fslc nl fu s (exc.map (iv .i64))])), n'⟩) ?_ ?_
  · rintro s' ⟨n', hn', rfl⟩
    clear hA
    refine hK.out _ ?_
    clear hK K
    refine ac_seq_h fun K hK => ?_
    refine ac_midV (fun s' => ∃ n', n < n' ∧ s' = ⟨92, [(1, .ptr n 0), (3, sv B)], h.upd n (some (.cells [iv .i64 kd, sv tw, sv pe, sv ot, iv .i64 fr, iv .i64 to, iv .i64 ev, .fslc nl fu s (exc.map (iv .i64))])), n'⟩) ?_ ?_
    · rintro s' ⟨n2, hn2, rfl⟩
      clear hB k1 k2 k3
      refine hK.out _ ?_
      clear hK K
      repeat' (first | (refine ac_seq_h fun K hK => ?_) | (refine ac_region_h fun K hK => ?_; simp (disch := omega) [go_sem, *]) | (apply Hide.out hK; clear hK K; try with_reducible dsimp only [thenA]) | (refine ac_block ?_))
      refine ac_loop_wk (fun s2 => ∃ (i n' : Nat) (H : AHeap), n ≤ n' ∧ i ≤ exc.length ∧ (∀ x, x < n → H x = h x) ∧ s2 = ⟨92, [(3, sv (B ++ exT exc i)), (73, .fslc nl fu s (exc.map (iv .i64))), (74, iv .i64 exc.length), (75, iv .i64 i)], H, n'⟩) (fun s2 => exc.length - (intAt s2 75).toNat) ?_ ?_
      · exact loop_start (by simp [go_sem, exT, app_nil]) (Sub.refl _) ⟨0, _, _, by (try simp only); omega, by omega, fun x hx => by simp (disch := omega) only [upd_ne], rfl⟩
      · rintro s2 ⟨i, n', H, hn', hi, g2, rfl⟩
        replace g2 : Hide _ := g2
        by_cases hlt : i < exc.length
        · obtain ⟨kx, zx⟩ := kd0.out _ (List.getElem_mem hlt)
          haveI zi := hex.out i hi
          have hne : exc ≠ [] := fun e => by rw [e] at hlt; simp at hlt
          obtain ⟨rfl, rfl⟩ := hw.out.resolve_left hne
          clear hne
          have hstep : exT exc i ++ (sepT i ++ dec exc[i]) = exT exc (i + 1) := by rw [exT, List.getD_eq_getElem?_getD, List.getElem?_eq_getElem hlt]; rfl
          replace kd0 : Hide _ := trivial
          replace hex : Hide _ := trivial
          have hxl : exc.length ≤ 1000 := hl
          by_cases hi0 : i = 0
          · subst hi0
            rw [sepT, if_pos rfl] at hstep
            replace hstep : Hide _ := hstep
            repeat' (first | (refine ac_seq_h fun K hK => ?_) | (refine ac_region_h fun K hK => ?_; simp (disch := omega) [go_sem, *, wrap64_id]) | (refine ac_quiet_h mixed (by kernel_rfl) fun K hK => ?_; simp (disch := omega) [go_sem, *]) | (refine aQ_c (by simp [go_sem]) (by simp (disch := omega) [go_sem, *, ilt_false]; first | exact rfl | exact ⟨rfl, rfl, rfl⟩ | exact (kx).gcall ⟨rfl, rfl, rfl⟩) ?_; try simp only [pS_some]) | (refine aQ_end ?_) | (apply Hide.out hK; clear hK K; try with_reducible dsimp only [thenA]) | (apply Hide.out ht; clear ht hf Kt Kf) | (refine ac_block ?_) | (refine ac_skip ?_; simp only [thenA]) | (refine ac_cond_h fun Kt Kf ht hf => ?_; simp (disch := omega) [go_sem, *]; try (refine ⟨fun hc => ?_, fun hc => ?_⟩ <;> try (exfalso; omega))))
            rw [app_assoc, hstep.out]
            exact round_end (by simp (disch := omega) [go_sem]) (Sub.refl _) ⟨0 + 1, _, _, by (try simp only); omega, by omega, g2.out, rfl⟩ (by simp [intAt, go_sem]; omega)
          · rw [sepT, if_neg hi0] at hstep
            replace hstep : Hide _ := hstep
            have hlt1 : (1 : Int) < i ∨ (i : Int) = 1 := by omega
            have hmin : ¬ ((i : Int) < 1) := by omega
            have hmin2 : (if (1 : Int) < i then (1 : Int) else i) = 1 := by split <;> omega
            repeat' (first | (refine ac_seq_h fun K hK => ?_) | (refine ac_region_h fun K hK => ?_; simp (disch := omega) [go_sem, *, wrap64_id, ilt_true, ile_true]) | (refine ac_quiet_h mixed (by kernel_rfl) fun K hK => ?_; simp (disch := omega) [go_sem, *]) | (refine aQ_c (by simp [go_sem]) (by simp (disch := omega) [go_sem, *]; first | exact rfl | exact ⟨rfl, rfl, rfl⟩ | exact (kx).gcall ⟨rfl, rfl, rfl⟩) ?_; try simp only [pS_some]) | (refine aQ_end ?_) | (apply Hide.out hK; clear hK K; try with_reducible dsimp only [thenA]) | (apply Hide.out ht; clear ht hf Kt Kf) | (refine ac_block ?_) | (refine ac_skip ?_; simp only [thenA]) | (refine ac_cond_h fun Kt Kf ht hf => ?_; simp (disch := omega) [go_sem, *]; try (refine ⟨fun hc => ?_, fun hc => ?_⟩ <;> try (exfalso; omega))))
            rw [app_assoc, hstep.out]
            exact round_end (by simp (disch := omega) [go_sem]) (Sub.refl _) ⟨i + 1, _, _, by (try simp only); omega, by omega, g2.out, rfl⟩ (by simp [intAt, go_sem]; omega)
        · have hii : i = exc.length := by omega
          subst hii
          haveI zi := hex.out _ (Nat.le_refl exc.length)
          repeat' (first | (refine ac_seq_h fun K hK => ?_) | (refine ac_region_h fun K hK => ?_; simp (disch := omega) [go_sem, *]) | (apply Hide.out hK; clear hK K; try with_reducible dsimp only [thenA]) | (apply Hide.out hf; clear ht hf Kt Kf) | (clear hK K; apply Hide.out hK; clear hK K; try with_reducible dsimp only [thenA]) | (refine ac_exit ?_; simp only [thenA, blockA, if_true]) | (refine ac_cond_h fun Kt Kf ht hf => ?_; simp (disch := omega) [go_sem, *]; try (refine ⟨fun hc => ?_, fun hc => ?_⟩ <;> try (exfalso; omega))))
          refine ac_ret ?_
          try dsimp only [thenA, blockA]
          refine ⟨by simp, _, (by first | rfl | (simp (disch := omega) [go_sem, upd_ne] <;> rfl)), ?_⟩
          exact ret_id ⟨fun x hx => g2.out x hx, by simp [go_sem, below, resVal], by first | rfl | simp [go_sem], by simp, by simp⟩
    · clear kd0 hex hw
      by_cases hev : ev = 1
      · subst hev
        rw [if_pos rfl, app_nil] at hB
        by_cases heq : fr = to
        · subst heq
          rw [if_pos ⟨rfl, rfl⟩] at hB
          try simp only [← app_assoc] at hB
          generalize dec fr = DF at *
          try generalize dec to = DT at *
          try generalize dec ev = DE at *
          replace hB : Hide _ := hB
          repeat' (first | (refine ac_seq_h fun K hK => ?_) | (refine ac_region_h fun K hK => ?_; simp (disch := omega) [go_sem, *]) | (apply Hide.out hK; clear hK K; try with_reducible dsimp only [thenA]) | (apply Hide.out ht; clear ht hf Kt Kf) | (with_reducible refine APure.gcall (k1) ?_; try simp (disch := omega) [go_sem, *]) | (refine ac_cond_h fun Kt Kf ht hf => ?_; simp (disch := omega) [go_sem, *]; try (refine ⟨fun hc => ?_, fun hc => ?_⟩ <;> try (exfalso; omega))))
          simp only [← app_assoc]
          rw [hB.out]
          exact loop_start (by simp [go_sem]) (Sub.refl _) ⟨_, by omega, rfl⟩
        · have hb1 : (fr == to) = false := by simpa using heq
          rw [if_neg (fun e => heq e.1)] at hB
          try simp only [← app_assoc] at hB
          generalize dec fr = DF at *
          try generalize dec to = DT at *
          try generalize dec ev = DE at *
          replace hB : Hide _ := hB
          repeat' (first | (refine ac_seq_h fun K hK => ?_) | (refine ac_region_h fun K hK => ?_; simp (disch := omega) [go_sem, *]) | (refine ac_quiet_h mixed (by kernel_rfl) fun K hK => ?_; simp (disch := omega) [go_sem, *]) | (refine aQ_c (by simp [go_sem]) (by simp (disch := omega) [go_sem, *]; first | exact rfl | exact ⟨rfl, rfl, rfl⟩ | exact (k1).gcall ⟨rfl, rfl, rfl⟩ | exact (k2).gcall ⟨rfl, rfl, rfl⟩ | exact (k3).gcall ⟨rfl, rfl, rfl⟩) ?_; try simp only [pS_some]) | (refine aQ_end ?_) | (apply Hide.out hK; clear hK K; try with_reducible dsimp only [thenA]) | (apply Hide.out hf; clear ht hf Kt Kf) | (refine ac_skip ?_; simp only [thenA]) | (refine ac_cond_h fun Kt Kf ht hf => ?_; simp (disch := omega) [go_sem, *]; try (refine ⟨fun hc => ?_, fun hc => ?_⟩ <;> try (exfalso; omega))))
          simp only [← app_assoc]
          rw [hB.out]
          exact loop_start (by simp [go_sem]) (Sub.refl _) ⟨_, by omega, rfl⟩
      · have hb2 : (ev == 1) = false := by simpa using hev
        have hb3 : (ev != 1) = true := by simpa using hev
        rw [if_neg hev, if_neg (fun e => hev e.2)] at hB
        by_cases heq : fr = to
        · subst heq
          try simp only [← app_assoc] at hB
          generalize dec fr = DF at *
          try generalize dec to = DT at *
          try generalize dec ev = DE at *
          replace hB : Hide _ := hB
          repeat' (first | (refine ac_seq_h fun K hK => ?_) | (refine ac_region_h fun K hK => ?_; simp (disch := omega) [go_sem, *]) | (refine ac_quiet_h mixed (by kernel_rfl) fun K hK => ?_; simp (disch := omega) [go_sem, *]) | (refine aQ_c (by simp [go_sem]) (by simp (disch := omega) [go_sem, *]; first | exact rfl | exact ⟨rfl, rfl, rfl⟩ | exact (k1).gcall ⟨rfl, rfl, rfl⟩ | exact (k2).gcall ⟨rfl, rfl, rfl⟩ | exact (k3).gcall ⟨rfl, rfl, rfl⟩) ?_; try simp only [pS_some]) | (refine aQ_end ?_) | (apply Hide.out hK; clear hK K; try with_reducible dsimp only [thenA]) | (apply Hide.out ht; clear ht hf Kt Kf) | (apply Hide.out hf; clear ht hf Kt Kf) | (with_reducible refine APure.gcall (k3) ?_; try simp (disch := omega) [go_sem, *]) | (refine ac_cond_h fun Kt Kf ht hf => ?_; simp (disch := omega) [go_sem, *]; try (refine ⟨fun hc => ?_, fun hc => ?_⟩ <;> try (exfalso; omega))))
          simp only [← app_assoc]
          rw [hB.out]
          exact loop_start (by simp [go_sem]) (Sub.refl _) ⟨_, by omega, rfl⟩
        · have hb1 : (fr == to) = false := by simpa using heq
          try simp only [← app_assoc] at hB
          generalize dec fr = DF at *
          try generalize dec to = DT at *
          try generalize dec ev = DE at *
          replace hB : Hide _ := hB
          repeat' (first | (refine ac_seq_h fun K hK => ?_) | (refine ac_region_h fun K hK => ?_; simp (disch := omega) [go_sem, *]) | (refine ac_quiet_h mixed (by kernel_rfl) fun K hK => ?_; simp (disch := omega) [go_sem, *]) | (refine aQ_c (by simp [go_sem]) (by simp (disch := omega) [go_sem, *]; first | exact rfl | exact ⟨rfl, rfl, rfl⟩ | exact (k1).gcall ⟨rfl, rfl, rfl⟩ | exact (k2).gcall ⟨rfl, rfl, rfl⟩ | exact (k3).gcall ⟨rfl, rfl, rfl⟩) ?_; try simp only [pS_some]) | (refine aQ_end ?_) | (apply Hide.out hK; clear hK K; try with_reducible dsimp only [thenA]) | (apply Hide.out ht; clear ht hf Kt Kf) | (apply Hide.out hf; clear ht hf Kt Kf) | (with_reducible refine APure.gcall (k3) ?_; try simp (disch := omega) [go_sem, *]) | (refine ac_cond_h fun Kt Kf ht hf => ?_; simp (disch := omega) [go_sem, *]; try (refine ⟨fun hc => ?_, fun hc => ?_⟩ <;> try (exfalso; omega))))
          simp only [← app_assoc]
          rw [hB.out]
          exact loop_start (by simp [go_sem]) (Sub.refl _) ⟨_, by omega, rfl⟩
  · clear hB k1 k2 k3 kd0 hex hw
    rcases hk with rfl | rfl | rfl | rfl
    · simp only [if_true, if_false, Int.reduceEq] at hA
      replace hA : Hide _ := hA
      repeat' (first | (refine ac_seq_h fun K hK => ?_) | (refine ac_region_h fun K hK => ?_; simp (disch := omega) [go_sem, *]) | (apply Hide.out hK; clear hK K; try with_reducible dsimp only [thenA]) | (apply Hide.out ht; clear ht hf Kt Kf) | (refine ac_block ?_) | (refine ac_cond_h fun Kt Kf ht hf => ?_; simp (disch := omega) [go_sem, *]; try (refine ⟨fun hc => ?_, fun hc => ?_⟩ <;> try (exfalso; omega))))
      rw [hA.out]
      exact loop_start (by simp [go_sem]) (Sub.refl _) ⟨_, by omega, rfl⟩
    · simp only [if_true, if_false, Int.reduceEq] at hA
      replace hA : Hide _ := hA
      repeat' (first | (refine ac_seq_h fun K hK => ?_) | (refine ac_region_h fun K hK => ?_; simp (disch := omega) [go_sem, *]) | (apply Hide.out hK; clear hK K; try with_reducible dsimp only [thenA]) | (apply Hide.out ht; clear ht hf Kt Kf) | (apply Hide.out hf; clear ht hf Kt Kf) | (refine ac_block ?_) | (refine ac_cond_h fun Kt Kf ht hf => ?_; simp (disch := omega) [go_sem, *]; try (refine ⟨fun hc => ?_, fun hc => ?_⟩ <;> try (exfalso; omega))))
      rw [hA.out]
      exact loop_start (by simp [go_sem]) (Sub.refl _) ⟨_, by omega, rfl⟩
    · simp only [if_true, if_false, Int.reduceEq] at hA
      replace hA : Hide _ := hA
      repeat' (first | (refine ac_seq_h fun K hK => ?_) | (refine ac_region_h fun K hK => ?_; simp (disch := omega) [go_sem, *]) | (apply Hide.out hK; clear hK K; try with_reducible dsimp only [thenA]) | (apply Hide.out ht; clear ht hf Kt Kf) | (apply Hide.out hf; clear ht hf Kt Kf) | (refine ac_block ?_) | (refine ac_cond_h fun Kt Kf ht hf => ?_; simp (disch := omega) [go_sem, *]; try (refine ⟨fun hc => ?_, fun hc => ?_⟩ <;> try (exfalso; omega))))
      rw [hA.out]
      exact loop_start (by simp [go_sem]) (Sub.refl _) ⟨_, by omega, rfl⟩
    · simp only [if_false, Int.reduceEq] at hA
      replace hA : Hide _ := hA
      repeat' (first | (refine ac_seq_h fun K hK => ?_) | (refine ac_region_h fun K hK => ?_; simp (disch := omega) [go_sem, *]) | (apply Hide.out hK; clear hK K; try with_reducible dsimp only [thenA]) | (apply Hide.out ht; clear ht hf Kt Kf) | (apply Hide.out hf; clear ht hf Kt Kf) | (refine ac_block ?_) | (refine ac_cond_h fun Kt Kf ht hf => ?_; simp (disch := omega) [go_sem, *]; try (refine ⟨fun hc => ?_, fun hc => ?_⟩ <;> try (exfalso; omega))))
      rw [hA.out]
      exact loop_start (by simp [go_sem]) (Sub.refl _) ⟨_, by omega, rfl⟩
end Go.AM
