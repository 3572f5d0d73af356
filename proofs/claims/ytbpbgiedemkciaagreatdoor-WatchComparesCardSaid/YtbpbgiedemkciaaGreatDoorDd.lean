/- The specification's first difference. Conditions: as each theorem says. -/
import Derived.Test.YtbpbgiedemkciaaGreatDoorDc
import Derived.Test.YtbpbgiedemkciaaGreatDoorCi
import Derived.Test.YtbpbgiedemkciaaGreatDoorCg
namespace Go.AM
open Go.Proofs Cw
set_option maxRecDepth 10000
set_option maxHeartbeats 4000000
theorem next_spec (a b c d e : List Int) (ka kb kc kd ke : Nat) (ha : ka < a.length) (hb : kb < b.length) (hc : kc < c.length) (hd : kd < d.length) (he : ke < e.length)
    (la : a.length ≤ 100000) (lb : b.length ≤ 100000) (lc : c.length ≤ 100000) (ld : d.length ≤ 100000) (le : e.length ≤ 100000) :
    ∃ (ja jb jc jd je : Nat) (more : Bool), APure Tryz.prog 66 [encN a b c d e, .agg [iv .i64 ka, iv .i64 kb, iv .i64 kc, iv .i64 kd, iv .i64 ke]] (.tup [.agg [iv .i64 ja, iv .i64 jb, iv .i64 jc, iv .i64 jd, iv .i64 je], bv more]) ∧
      ja < a.length ∧ jb < b.length ∧ jc < c.length ∧ jd < d.length ∧ je < e.length ∧ (more = true → nextI [a, b, c, d, e] [ka, kb, kc, kd, ke] = some [ja, jb, jc, jd, je]) ∧ (more = false → nextI [a, b, c, d, e] [ka, kb, kc, kd, ke] = none) := by
  by_cases h4 : ke + 1 < e.length
  · exact ⟨ka, kb, kc, kd, ke + 1, true, next_e a b c d e ka kb kc kd ke (by omega) (by omega) (by omega) (by omega) (by omega) h4, ha, hb, hc, hd, h4, fun _ => by simp [nextI, zeros, h4], fun h => by cases h⟩
  by_cases h3 : kd + 1 < d.length
  · exact ⟨ka, kb, kc, kd + 1, 0, true, next_d a b c d e ka kb kc kd ke (by omega) (by omega) (by omega) (by omega) (by omega) h4 h3, ha, hb, hc, h3, by omega, fun _ => by simp [nextI, zeros, h4, h3], fun h => by cases h⟩
  by_cases h2 : kc + 1 < c.length
  · exact ⟨ka, kb, kc + 1, 0, 0, true, next_c a b c d e ka kb kc kd ke (by omega) (by omega) (by omega) (by omega) (by omega) h4 h3 h2, ha, hb, h2, by omega, by omega, fun _ => by simp [nextI, zeros, h4, h3, h2], fun h => by cases h⟩
  by_cases h1 : kb + 1 < b.length
  · exact ⟨ka, kb + 1, 0, 0, 0, true, next_b a b c d e ka kb kc kd ke (by omega) (by omega) (by omega) (by omega) (by omega) h4 h3 h2 h1, ha, h1, by omega, by omega, by omega, fun _ => by simp [nextI, zeros, h4, h3, h2, h1], fun h => by cases h⟩
  by_cases h0 : ka + 1 < a.length
  · exact ⟨ka + 1, 0, 0, 0, 0, true, next_a a b c d e ka kb kc kd ke (by omega) (by omega) (by omega) (by omega) (by omega) h4 h3 h2 h1 h0, h0, by omega, by omega, by omega, by omega, fun _ => by simp [nextI, zeros, h4, h3, h2, h1, h0], fun h => by cases h⟩
  · exact ⟨ka, kb, kc, kd, ke, false, next_end a b c d e ka kb kc kd ke (by omega) (by omega) (by omega) (by omega) (by omega) h4 h3 h2 h1 h0, ha, hb, hc, hd, he, fun h => by (cases h), fun _ => by simp [nextI, h4, h3, h2, h1, h0]⟩
/-- the two ways to differ -/
def dif (both x y : Bool) : Bool := (x && !y) || (both && y && !x)
def candsR (cs : List Cnd) : List (List Int) := [numsR 0 cs, numsR 1 cs, numsR 2 cs, numsR 3 cs, numsR 4 cs]
abbrev outD (r : Fs × Bool × Int) : AV := .tup [encF r.1, bv r.2.1, iv .i64 r.2.2]
def rdiffers (a b : Cnd) (both : Bool) : Fs × Bool × Int :=
  if Cw.formed a && Cw.formed b then
    if rfew [a, b] then match (tup (candsR [a, b])).find? (fun t => dif both (Cw.holds a (toFs t)) (Cw.holds b (toFs t))) with
      | some t => (toFs t, false, 0)
      | none => (⟨0, 0, 0, 0, 0⟩, true, 0)
    else (⟨0, 0, 0, 0, 0⟩, false, 80)
  else (⟨0, 0, 0, 0, 0⟩, false, 7)
theorem numsR_ne (j : Int) (cs : List Cnd) (h : okL cs = true) : 0 < (numsR j cs).length := by rw [nums_same j cs h]; exact length_pos_numsP j cs
/-- how many choices are left -/
def leftD (L : List (List Int)) (k : Nat) (s : St) : Nat :=
  match get s.s 14, s.h k with
  | .c (.bool true), some (.cells [.c (.int _ a), .c (.int _ b), .c (.int _ c), .c (.int _ d), .c (.int _ e)]) => (rest L [a.toNat, b.toNat, c.toNat, d.toNat, e.toNat]).length
  | _, _ => 0
theorem rdiffers_spec (a b : Cnd) (hwa : wf a) (hwb : wf b) (both : Bool) : APure Tryz.prog 53 [encC a, encC b, bv both] (outD (rdiffers a b both)) := by
  intro h n
  have c1 := formedC_spec a hwa
  have c2 := formedC_spec b hwb
  refine ACalls.pure (ACalls.entry (by kernel_rfl) fun hb _ => calls_of Tryz.func53 rfl (by kernel_rfl) (by simp [Tryz.ntmps53]) ?_)
  obtain ⟨R, hR⟩ : ∃ R, R = outD (rdiffers a b both) := ⟨_, rfl⟩
  rw [← hR]
  unfold rdiffers at hR
  by_cases hfa : Cw.formed a = true
  · rw [hfa] at c1 hR
    by_cases hfb : Cw.formed b = true
    · rw [hfb] at c2 hR
      simp only [Bool.and_true, if_true] at hR
      have ta : tot a ≤ 60 ∧ ok a = true := by simp only [Cw.formed, Bool.and_eq_true, decide_eq_true_eq] at hfa; exact ⟨hfa.1.2, hfa.1.1⟩
      have tb : tot b ≤ 60 ∧ ok b = true := by simp only [Cw.formed, Bool.and_eq_true, decide_eq_true_eq] at hfb; exact ⟨hfb.1.2, hfb.1.1⟩
      have c3 := numbers_spec [a, b] false false 5 (.inr ⟨rfl, rfl⟩) ⟨hwa, hwb, trivial⟩ (by simp [okL, ta.2, tb.2]) (by simp only [totL]; omega)
      have c4 := fun fs => true_spec _ a (Nat.le_refl _) hwa ta.2 fs
      have c5 := fun fs => true_spec _ b (Nat.le_refl _) hwb tb.2 fs
      by_cases hfw : rfew [a, b] = true
      · rw [hfw] at c3 hR
        simp only [if_true] at hR
        have hokL : okL [a, b] = true := by simp [okL, ta.2, tb.2]
        have tt : totL [a, b] ≤ 120 := by simp only [totL]; omega
        obtain ⟨A, hA⟩ : ∃ A, Hide (A = numsR 0 [a, b]) := ⟨_, rfl⟩
        obtain ⟨B, hB⟩ : ∃ A, Hide (A = numsR 1 [a, b]) := ⟨_, rfl⟩
        obtain ⟨C, hC⟩ : ∃ A, Hide (A = numsR 2 [a, b]) := ⟨_, rfl⟩
        obtain ⟨D, hD⟩ : ∃ A, Hide (A = numsR 3 [a, b]) := ⟨_, rfl⟩
        obtain ⟨E, hE⟩ : ∃ A, Hide (A = numsR 4 [a, b]) := ⟨_, rfl⟩
        have lA : 0 < A.length ∧ A.length ≤ 1000 := by have := numsR_ne 0 _ hokL; have h2 := length_collL 0 [a, b] [0]; rw [List.length_singleton] at h2; rw [hA.out]; exact ⟨this, by rw [numsR]; omega⟩
        have lB : 0 < B.length ∧ B.length ≤ 1000 := by have := numsR_ne 1 _ hokL; have h2 := length_collL 1 [a, b] [0]; rw [List.length_singleton] at h2; rw [hB.out]; exact ⟨this, by rw [numsR]; omega⟩
        have lC : 0 < C.length ∧ C.length ≤ 1000 := by have := numsR_ne 2 _ hokL; have h2 := length_collL 2 [a, b] [0]; rw [List.length_singleton] at h2; rw [hC.out]; exact ⟨this, by rw [numsR]; omega⟩
        have lD : 0 < D.length ∧ D.length ≤ 1000 := by have := numsR_ne 3 _ hokL; have h2 := length_collL 3 [a, b] [0]; rw [List.length_singleton] at h2; rw [hD.out]; exact ⟨this, by rw [numsR]; omega⟩
        have lE : 0 < E.length ∧ E.length ≤ 1000 := by have := numsR_ne 4 _ hokL; have h2 := length_collL 4 [a, b] [0]; rw [List.length_singleton] at h2; rw [hE.out]; exact ⟨this, by rw [numsR]; omega⟩
        rw [← hA.out, ← hB.out, ← hC.out, ← hD.out, ← hE.out] at c3
        have hcr : candsR [a, b] = [A, B, C, D, E] := by rw [candsR, ← hA.out, ← hB.out, ← hC.out, ← hD.out, ← hE.out]
        rw [hcr] at hR
        obtain ⟨p, hp⟩ : ∃ p : List Int → Bool, Hide (p = fun t => dif both (Cw.holds a (toFs t)) (Cw.holds b (toFs t))) := ⟨_, rfl⟩
        rw [← hp.out] at hR
        obtain ⟨X, hX⟩ : ∃ X, Hide (X = (tup [A, B, C, D, E]).find? p) := ⟨_, rfl⟩
        rw [← hX.out] at hR
        have hpos : ∀ l ∈ [A, B, C, D, E], 0 < l.length := by
          intro l hl
          simp only [List.mem_cons, List.not_mem_nil, or_false] at hl
          rcases hl with rfl | rfl | rfl | rfl | rfl <;> omega
        replace hpos : Hide _ := hpos
        replace hR : Hide _ := hR
        replace hA : Hide _ := trivial
        replace hB : Hide _ := trivial
        replace hC : Hide _ := trivial
        replace hD : Hide _ := trivial
        replace hE : Hide _ := trivial
        have hpv : ∀ xa xb xc xd xe, p [xa, xb, xc, xd, xe] = dif both (Cw.holds a ⟨xa, xb, xc, xd, xe⟩) (Cw.holds b ⟨xa, xb, xc, xd, xe⟩) := fun _ _ _ _ _ => by rw [hp.out]; rfl
        replace hpv : Hide _ := hpv
        replace c4 : Hide _ := c4
        replace c5 : Hide _ := c5
        clear hcr hokL hfa hfb hfw ta tb tt hwa hwb
        obtain ⟨CA, hCA⟩ : ∃ x, Hide (x = encC a) := ⟨_, rfl⟩
        obtain ⟨CB, hCB⟩ : ∃ x, Hide (x = encC b) := ⟨_, rfl⟩
        have hcA : ∃ cs, CA = .agg cs ∧ cs.length = 5 ∧ cs.all AV.scalar = true ∧ CA = encC a := by rw [hCA.out]; cases a; exact ⟨_, rfl, rfl, rfl, rfl⟩
        have hcB : ∃ cs, CB = .agg cs ∧ cs.length = 5 ∧ cs.all AV.scalar = true ∧ CB = encC b := by rw [hCB.out]; cases b; exact ⟨_, rfl, rfl, rfl, rfl⟩
        obtain ⟨ak, af, ao, an, anl, afu, asz, aks⟩ := a
        obtain ⟨bk, bf, bo, bn, bnl, bfu, bsz, bks⟩ := b
        clear hcA hcB hCA hCB CA CB
        simp only [encC, encL] at c1 c2 c3 ⊢
        repeat' (first | (refine ac_seq_h fun K hK => ?_) | (refine ac_region_h fun K hK => ?_; simp (disch := omega) [go_sem, *, upd_ne, Tryz.ntmps53 ]) | (apply Hide.out hK; clear hK K; try with_reducible dsimp only [thenA]) | (apply Hide.out hf; clear ht hf Kt Kf) | (with_reducible refine APure.gcall (c1) ?_; try simp (disch := omega) [go_sem, * ]) | (with_reducible refine APure.gcall (c2) ?_; try simp (disch := omega) [go_sem, * ]) | (with_reducible refine APure.gcall (c3) ?_; try simp (disch := omega) [go_sem, * ]) | (refine ac_block ?_) | (refine ac_skip ?_; simp only [thenA]) | (refine ac_cond_h fun Kt Kf ht hf => ?_; simp (disch := omega) [go_sem, * ]; try (refine ⟨fun hc => ?_, fun hc => ?_⟩ <;> try (exfalso; omega))))
        refine ac_loop_wk (fun s' => ∃ (ka kb kc kd ke n' : Nat) (more : Bool), n + 30 < n' ∧ ka < A.length ∧ kb < B.length ∧ kc < C.length ∧ kd < D.length ∧ ke < E.length ∧ (more = true → (rest [A, B, C, D, E] [ka, kb, kc, kd, ke]).find? p = X) ∧ (more = false → X = none) ∧
            s' = ⟨73, [(2, bv both), (3, .ptr n 0), (4, .ptr (n + 1) 0), (6, .ptr (n + 2) 0), (11, .ptr (n + 5 + 3 + 3 + 6 + 7) 0), (13, .ptr (n + 5 + 3 + 3 + 6 + 10 + 2 + 1) 0), (14, bv more)], ((((h.upd n (some (.cells [iv .i64 ak, iv .i64 af, iv .i64 ao, iv .i64 an, .fslc anl afu asz (encL aks)]))).upd (n + 1) (some (.cells [iv .i64 bk, iv .i64 bf, iv .i64 bo, iv .i64 bn, .fslc bnl bfu bsz (encL bks)]))).upd (n + 2) (some (.cells [iv .i64 0, iv .i64 0, iv .i64 0, iv .i64 0, iv .i64 0]))).upd (n + 5 + 3 + 3 + 6 + 7) (some (.cells [encI A, encI B, encI C, encI D, encI E]))).upd (n + 5 + 3 + 3 + 6 + 10 + 2 + 1) (some (.cells [iv .i64 ka, iv .i64 kb, iv .i64 kc, iv .i64 kd, iv .i64 ke])), n'⟩)
          (leftD [A, B, C, D, E] (n + 5 + 3 + 3 + 6 + 10 + 2 + 1)) ?_ ?_
        · refine loop_start (by simp [go_sem, *]) (fun k o e => by
            by_cases h1 : k = (n + 5 + 3 + 3 + 6 + 10 + 2 + 1)
            · subst h1; simpa [upd_same] using e
            · rw [upd_ne _ _ _ _ h1] at e
              by_cases h2 : k = (n + 5 + 3 + 3 + 6 + 7)
              · subst h2; simpa (disch := omega) [upd_same, upd_ne] using e
              · rw [upd_ne _ _ _ _ h2] at e
                simp only [upd_ne _ _ _ _ h1, upd_ne _ _ _ _ h2]; exact e) ⟨0, 0, 0, 0, 0, _, true, by omega, by omega, by omega, by omega, by omega, by omega, fun _ => ?_, (by simp), rfl⟩
          rw [hX.out, ← rest_zero _ hpos.out]; rfl
        · rintro s' ⟨ka, kb, kc, kd, ke, n', more, hn', ga, gb, gc, gd, ge, hm1, hm2, rfl⟩
          cases more
          · have hx0 := hm2 rfl
            have hR0 : R = outD (⟨0, 0, 0, 0, 0⟩, true, 0) := by rw [hR.out, hx0]
            subst hR0
            clear hm1 hm2
            repeat' (first | (refine ac_seq_h fun K hK => ?_) | (refine ac_region_h fun K hK => ?_; simp (disch := omega) [go_sem, *, upd_ne]) | (apply Hide.out hK; clear hK K; try with_reducible dsimp only [thenA]) | (apply Hide.out hf; clear ht hf Kt Kf) | (clear hK K; apply Hide.out hK; clear hK K; try with_reducible dsimp only [thenA]) | (refine ac_exit ?_; simp only [thenA, blockA, if_true]) | (refine ac_cond_h fun Kt Kf ht hf => ?_; simp (disch := omega) [go_sem, *]; try (refine ⟨fun hc => ?_, fun hc => ?_⟩ <;> try (exfalso; omega))))
            (refine ac_ret ?_; try dsimp only [thenA, blockA]; refine ⟨by simp, _, (by first | rfl | (simp (disch := omega) [go_sem] <;> rfl)), ?_⟩; refine ret_id ⟨fun k hk => (by first | rfl | (repeat rw [upd_ne _ _ _ _ (by omega)])), (by simp [go_sem, below, belowL]), (by simp [go_sem] <;> omega), by simp, by simp⟩)
          · replace hm1 := hm1 rfl
            clear hm2
            rw [find_rest p [A, B, C, D, E] [ka, kb, kc, kd, ke] hpos.out rfl] at hm1
            obtain ⟨ja, jb, jc, jd, je, more, c6, ra, rb, rc, rd, re, hnx1, hnx2⟩ := next_spec A B C D E ka kb kc kd ke ga gb gc gd ge (by omega) (by omega) (by omega) (by omega) (by omega)
            obtain ⟨xa, ya⟩ : ∃ x, A[ka]? = some x := ⟨A[ka], List.getElem?_eq_getElem ga⟩
            obtain ⟨xb, yb⟩ : ∃ x, B[kb]? = some x := ⟨B[kb], List.getElem?_eq_getElem gb⟩
            obtain ⟨xc, yc⟩ : ∃ x, C[kc]? = some x := ⟨C[kc], List.getElem?_eq_getElem gc⟩
            obtain ⟨xd, yd⟩ : ∃ x, D[kd]? = some x := ⟨D[kd], List.getElem?_eq_getElem gd⟩
            obtain ⟨xe, ye⟩ : ∃ x, E[ke]? = some x := ⟨E[ke], List.getElem?_eq_getElem ge⟩
            have c7 := choice_spec A B C D E ka kb kc kd ke xa xb xc xd xe ya yb yc yd ye
            have hpk : pickI [A, B, C, D, E] [ka, kb, kc, kd, ke] = [xa, xb, xc, xd, xe] := by simp [pickI, List.getD, ya, yb, yc, yd, ye]
            rw [hpk, hpv.out] at hm1
            have c8 := c4.out ⟨xa, xb, xc, xd, xe⟩
            have c9 := c5.out ⟨xa, xb, xc, xd, xe⟩
            have hlft : (rest [A, B, C, D, E] [ka, kb, kc, kd, ke]).length = (match nextI [A, B, C, D, E] [ka, kb, kc, kd, ke] with | some js => (rest [A, B, C, D, E] js).length | none => 0) + 1 := by
              rw [rest_next [A, B, C, D, E] [ka, kb, kc, kd, ke] hpos.out rfl]
              cases nextI [A, B, C, D, E] [ka, kb, kc, kd, ke] <;> simp
            generalize Cw.holds (.mk ak af ao an anl afu asz aks) ⟨xa, xb, xc, xd, xe⟩ = x at *
            generalize Cw.holds (.mk bk bf bo bn bnl bfu bsz bks) ⟨xa, xb, xc, xd, xe⟩ = y at *
            simp only [encC] at c8 c9
            clear ya yb yc yd ye hpk ga gb gc gd ge lA lB lC lD lE c1 c2 c3
            replace hlft : Hide _ := hlft
            replace hm1 : Hide _ := hm1
            replace hnx1 : Hide _ := hnx1
            replace hnx2 : Hide _ := hnx2
            replace hX : Hide _ := trivial
            replace hp : Hide _ := trivial
            cases both <;> cases x <;> cases y
            · have hX1 : (match nextI [A, B, C, D, E] [ka, kb, kc, kd, ke] with | some js => (rest [A, B, C, D, E] js).find? p | none => none) = X := by have := hm1.out; simp [dif] at this; exact this
              replace hX1 : Hide _ := hX1
              repeat' (first | (refine ac_seq_h fun K hK => ?_) | (refine ac_region_h fun K hK => ?_; simp (disch := omega) [go_sem, *, upd_ne]) | (apply Hide.out hK; clear hK K; try with_reducible dsimp only [thenA]) | (apply Hide.out ht; clear ht hf Kt Kf) | (apply Hide.out hf; clear ht hf Kt Kf) | (with_reducible refine APure.gcall (c7) ?_; try simp (disch := omega) [go_sem, *]) | (with_reducible refine APure.gcall (c8) ?_; try simp (disch := omega) [go_sem, *]) | (with_reducible refine APure.gcall (c9) ?_; try simp (disch := omega) [go_sem, *]) | (with_reducible refine APure.gcall (c6) ?_; try simp (disch := omega) [go_sem, *, upd_ne]) | (refine ac_block ?_) | (refine ac_skip ?_; simp only [thenA]) | (refine ac_cond_h fun Kt Kf ht hf => ?_; simp (disch := omega) [go_sem, *]; try (refine ⟨fun hc => ?_, fun hc => ?_⟩ <;> try (exfalso; omega))))
              exact round_end (by simp [go_sem]) (fun k o e => by
                by_cases h1 : k = (n + 5 + 3 + 3 + 6 + 10 + 2 + 1)
                · subst h1; simpa (disch := omega) [upd_same, upd_ne] using e
                · rw [upd_ne _ _ _ _ h1] at e ⊢
                  by_cases h2 : k = n' + 1 + 3
                  · subst h2; simp (disch := omega) only [upd_ne] at e; rw [hb.none (by omega)] at e; cases e
                  · rw [upd_ne _ _ _ _ h2, upd_ne _ _ _ _ h2, upd_ne _ _ _ _ h1]; exact e) ⟨ja, jb, jc, jd, je, _, more, by omega, ra, rb, rc, rd, re, fun hh => by have := hX1.out; rw [hnx1.out hh] at this; exact this, fun hh => by have := hX1.out; rw [hnx2.out hh] at this; exact this.symm, rfl⟩ (by
                  have hl := hlft.out
                  cases more with
                  | false => simp (disch := omega) [leftD, go_sem, upd_same]; omega
                  | true => rw [hnx1.out rfl] at hl; simp (disch := omega) [leftD, go_sem, upd_same]; simp only at hl; omega)
            · have hX1 : (match nextI [A, B, C, D, E] [ka, kb, kc, kd, ke] with | some js => (rest [A, B, C, D, E] js).find? p | none => none) = X := by have := hm1.out; simp [dif] at this; exact this
              replace hX1 : Hide _ := hX1
              repeat' (first | (refine ac_seq_h fun K hK => ?_) | (refine ac_region_h fun K hK => ?_; simp (disch := omega) [go_sem, *, upd_ne]) | (apply Hide.out hK; clear hK K; try with_reducible dsimp only [thenA]) | (apply Hide.out ht; clear ht hf Kt Kf) | (apply Hide.out hf; clear ht hf Kt Kf) | (with_reducible refine APure.gcall (c7) ?_; try simp (disch := omega) [go_sem, *]) | (with_reducible refine APure.gcall (c8) ?_; try simp (disch := omega) [go_sem, *]) | (with_reducible refine APure.gcall (c9) ?_; try simp (disch := omega) [go_sem, *]) | (with_reducible refine APure.gcall (c6) ?_; try simp (disch := omega) [go_sem, *, upd_ne]) | (refine ac_block ?_) | (refine ac_skip ?_; simp only [thenA]) | (refine ac_cond_h fun Kt Kf ht hf => ?_; simp (disch := omega) [go_sem, *]; try (refine ⟨fun hc => ?_, fun hc => ?_⟩ <;> try (exfalso; omega))))
              exact round_end (by simp [go_sem]) (fun k o e => by
                by_cases h1 : k = (n + 5 + 3 + 3 + 6 + 10 + 2 + 1)
                · subst h1; simpa (disch := omega) [upd_same, upd_ne] using e
                · rw [upd_ne _ _ _ _ h1] at e ⊢
                  by_cases h2 : k = n' + 1 + 3
                  · subst h2; simp (disch := omega) only [upd_ne] at e; rw [hb.none (by omega)] at e; cases e
                  · rw [upd_ne _ _ _ _ h2, upd_ne _ _ _ _ h2, upd_ne _ _ _ _ h1]; exact e) ⟨ja, jb, jc, jd, je, _, more, by omega, ra, rb, rc, rd, re, fun hh => by have := hX1.out; rw [hnx1.out hh] at this; exact this, fun hh => by have := hX1.out; rw [hnx2.out hh] at this; exact this.symm, rfl⟩ (by
                  have hl := hlft.out
                  cases more with
                  | false => simp (disch := omega) [leftD, go_sem, upd_same]; omega
                  | true => rw [hnx1.out rfl] at hl; simp (disch := omega) [leftD, go_sem, upd_same]; simp only at hl; omega)
            · have hX1 : X = some [xa, xb, xc, xd, xe] := by have := hm1.out; simp [dif] at this; exact this.symm
              have hR0 : R = outD (⟨xa, xb, xc, xd, xe⟩, false, 0) := by rw [hR.out, hX1]; rfl
              subst hR0
              clear hX1 c6
              repeat' (first | (refine ac_seq_h fun K hK => ?_) | (refine ac_region_h fun K hK => ?_; simp (disch := omega) [go_sem, *, upd_ne]) | (apply Hide.out hK; clear hK K; try with_reducible dsimp only [thenA]) | (apply Hide.out ht; clear ht hf Kt Kf) | (with_reducible refine APure.gcall (c7) ?_; try simp (disch := omega) [go_sem, *]) | (with_reducible refine APure.gcall (c8) ?_; try simp (disch := omega) [go_sem, *]) | (with_reducible refine APure.gcall (c9) ?_; try simp (disch := omega) [go_sem, *]) | (refine ac_block ?_) | (refine ac_skip ?_; simp only [thenA]) | (refine ac_cond_h fun Kt Kf ht hf => ?_; simp (disch := omega) [go_sem, *]; try (refine ⟨fun hc => ?_, fun hc => ?_⟩ <;> try (exfalso; omega))))
              (refine ac_ret ?_; try dsimp only [thenA, blockA]; refine ⟨by simp, _, (by first | rfl | (simp (disch := omega) [go_sem] <;> rfl)), ?_⟩; refine ret_id ⟨fun k hk => (by first | rfl | (repeat rw [upd_ne _ _ _ _ (by omega)])), (by simp [go_sem, below, belowL]), (by simp [go_sem] <;> omega), by simp, by simp⟩)
            · have hX1 : (match nextI [A, B, C, D, E] [ka, kb, kc, kd, ke] with | some js => (rest [A, B, C, D, E] js).find? p | none => none) = X := by have := hm1.out; simp [dif] at this; exact this
              replace hX1 : Hide _ := hX1
              repeat' (first | (refine ac_seq_h fun K hK => ?_) | (refine ac_region_h fun K hK => ?_; simp (disch := omega) [go_sem, *, upd_ne]) | (apply Hide.out hK; clear hK K; try with_reducible dsimp only [thenA]) | (apply Hide.out ht; clear ht hf Kt Kf) | (apply Hide.out hf; clear ht hf Kt Kf) | (with_reducible refine APure.gcall (c7) ?_; try simp (disch := omega) [go_sem, *]) | (with_reducible refine APure.gcall (c8) ?_; try simp (disch := omega) [go_sem, *]) | (with_reducible refine APure.gcall (c9) ?_; try simp (disch := omega) [go_sem, *]) | (with_reducible refine APure.gcall (c6) ?_; try simp (disch := omega) [go_sem, *, upd_ne]) | (refine ac_block ?_) | (refine ac_skip ?_; simp only [thenA]) | (refine ac_cond_h fun Kt Kf ht hf => ?_; simp (disch := omega) [go_sem, *]; try (refine ⟨fun hc => ?_, fun hc => ?_⟩ <;> try (exfalso; omega))))
              exact round_end (by simp [go_sem]) (fun k o e => by
                by_cases h1 : k = (n + 5 + 3 + 3 + 6 + 10 + 2 + 1)
                · subst h1; simpa (disch := omega) [upd_same, upd_ne] using e
                · rw [upd_ne _ _ _ _ h1] at e ⊢
                  by_cases h2 : k = n' + 1 + 3
                  · subst h2; simp (disch := omega) only [upd_ne] at e; rw [hb.none (by omega)] at e; cases e
                  · rw [upd_ne _ _ _ _ h2, upd_ne _ _ _ _ h2, upd_ne _ _ _ _ h1]; exact e) ⟨ja, jb, jc, jd, je, _, more, by omega, ra, rb, rc, rd, re, fun hh => by have := hX1.out; rw [hnx1.out hh] at this; exact this, fun hh => by have := hX1.out; rw [hnx2.out hh] at this; exact this.symm, rfl⟩ (by
                  have hl := hlft.out
                  cases more with
                  | false => simp (disch := omega) [leftD, go_sem, upd_same]; omega
                  | true => rw [hnx1.out rfl] at hl; simp (disch := omega) [leftD, go_sem, upd_same]; simp only at hl; omega)
            · have hX1 : (match nextI [A, B, C, D, E] [ka, kb, kc, kd, ke] with | some js => (rest [A, B, C, D, E] js).find? p | none => none) = X := by have := hm1.out; simp [dif] at this; exact this
              replace hX1 : Hide _ := hX1
              repeat' (first | (refine ac_seq_h fun K hK => ?_) | (refine ac_region_h fun K hK => ?_; simp (disch := omega) [go_sem, *, upd_ne]) | (apply Hide.out hK; clear hK K; try with_reducible dsimp only [thenA]) | (apply Hide.out ht; clear ht hf Kt Kf) | (apply Hide.out hf; clear ht hf Kt Kf) | (with_reducible refine APure.gcall (c7) ?_; try simp (disch := omega) [go_sem, *]) | (with_reducible refine APure.gcall (c8) ?_; try simp (disch := omega) [go_sem, *]) | (with_reducible refine APure.gcall (c9) ?_; try simp (disch := omega) [go_sem, *]) | (with_reducible refine APure.gcall (c6) ?_; try simp (disch := omega) [go_sem, *, upd_ne]) | (refine ac_block ?_) | (refine ac_skip ?_; simp only [thenA]) | (refine ac_cond_h fun Kt Kf ht hf => ?_; simp (disch := omega) [go_sem, *]; try (refine ⟨fun hc => ?_, fun hc => ?_⟩ <;> try (exfalso; omega))))
              exact round_end (by simp [go_sem]) (fun k o e => by
                by_cases h1 : k = (n + 5 + 3 + 3 + 6 + 10 + 2 + 1)
                · subst h1; simpa (disch := omega) [upd_same, upd_ne] using e
                · rw [upd_ne _ _ _ _ h1] at e ⊢
                  by_cases h2 : k = n' + 1 + 3
                  · subst h2; simp (disch := omega) only [upd_ne] at e; rw [hb.none (by omega)] at e; cases e
                  · rw [upd_ne _ _ _ _ h2, upd_ne _ _ _ _ h2, upd_ne _ _ _ _ h1]; exact e) ⟨ja, jb, jc, jd, je, _, more, by omega, ra, rb, rc, rd, re, fun hh => by have := hX1.out; rw [hnx1.out hh] at this; exact this, fun hh => by have := hX1.out; rw [hnx2.out hh] at this; exact this.symm, rfl⟩ (by
                  have hl := hlft.out
                  cases more with
                  | false => simp (disch := omega) [leftD, go_sem, upd_same]; omega
                  | true => rw [hnx1.out rfl] at hl; simp (disch := omega) [leftD, go_sem, upd_same]; simp only at hl; omega)
            · have hX1 : X = some [xa, xb, xc, xd, xe] := by have := hm1.out; simp [dif] at this; exact this.symm
              have hR0 : R = outD (⟨xa, xb, xc, xd, xe⟩, false, 0) := by rw [hR.out, hX1]; rfl
              subst hR0
              clear hX1 c6
              repeat' (first | (refine ac_seq_h fun K hK => ?_) | (refine ac_region_h fun K hK => ?_; simp (disch := omega) [go_sem, *, upd_ne]) | (apply Hide.out hK; clear hK K; try with_reducible dsimp only [thenA]) | (apply Hide.out ht; clear ht hf Kt Kf) | (with_reducible refine APure.gcall (c7) ?_; try simp (disch := omega) [go_sem, *]) | (with_reducible refine APure.gcall (c8) ?_; try simp (disch := omega) [go_sem, *]) | (with_reducible refine APure.gcall (c9) ?_; try simp (disch := omega) [go_sem, *]) | (refine ac_block ?_) | (refine ac_skip ?_; simp only [thenA]) | (refine ac_cond_h fun Kt Kf ht hf => ?_; simp (disch := omega) [go_sem, *]; try (refine ⟨fun hc => ?_, fun hc => ?_⟩ <;> try (exfalso; omega))))
              (refine ac_ret ?_; try dsimp only [thenA, blockA]; refine ⟨by simp, _, (by first | rfl | (simp (disch := omega) [go_sem] <;> rfl)), ?_⟩; refine ret_id ⟨fun k hk => (by first | rfl | (repeat rw [upd_ne _ _ _ _ (by omega)])), (by simp [go_sem, below, belowL]), (by simp [go_sem] <;> omega), by simp, by simp⟩)
            · have hX1 : X = some [xa, xb, xc, xd, xe] := by have := hm1.out; simp [dif] at this; exact this.symm
              have hR0 : R = outD (⟨xa, xb, xc, xd, xe⟩, false, 0) := by rw [hR.out, hX1]; rfl
              subst hR0
              clear hX1 c6
              repeat' (first | (refine ac_seq_h fun K hK => ?_) | (refine ac_region_h fun K hK => ?_; simp (disch := omega) [go_sem, *, upd_ne]) | (apply Hide.out hK; clear hK K; try with_reducible dsimp only [thenA]) | (apply Hide.out ht; clear ht hf Kt Kf) | (with_reducible refine APure.gcall (c7) ?_; try simp (disch := omega) [go_sem, *]) | (with_reducible refine APure.gcall (c8) ?_; try simp (disch := omega) [go_sem, *]) | (with_reducible refine APure.gcall (c9) ?_; try simp (disch := omega) [go_sem, *]) | (refine ac_block ?_) | (refine ac_skip ?_; simp only [thenA]) | (refine ac_cond_h fun Kt Kf ht hf => ?_; simp (disch := omega) [go_sem, *]; try (refine ⟨fun hc => ?_, fun hc => ?_⟩ <;> try (exfalso; omega))))
              (refine ac_ret ?_; try dsimp only [thenA, blockA]; refine ⟨by simp, _, (by first | rfl | (simp (disch := omega) [go_sem] <;> rfl)), ?_⟩; refine ret_id ⟨fun k hk => (by first | rfl | (repeat rw [upd_ne _ _ _ _ (by omega)])), (by simp [go_sem, below, belowL]), (by simp [go_sem] <;> omega), by simp, by simp⟩)
            · have hX1 : (match nextI [A, B, C, D, E] [ka, kb, kc, kd, ke] with | some js => (rest [A, B, C, D, E] js).find? p | none => none) = X := by have := hm1.out; simp [dif] at this; exact this
              replace hX1 : Hide _ := hX1
              repeat' (first | (refine ac_seq_h fun K hK => ?_) | (refine ac_region_h fun K hK => ?_; simp (disch := omega) [go_sem, *, upd_ne]) | (apply Hide.out hK; clear hK K; try with_reducible dsimp only [thenA]) | (apply Hide.out ht; clear ht hf Kt Kf) | (apply Hide.out hf; clear ht hf Kt Kf) | (with_reducible refine APure.gcall (c7) ?_; try simp (disch := omega) [go_sem, *]) | (with_reducible refine APure.gcall (c8) ?_; try simp (disch := omega) [go_sem, *]) | (with_reducible refine APure.gcall (c9) ?_; try simp (disch := omega) [go_sem, *]) | (with_reducible refine APure.gcall (c6) ?_; try simp (disch := omega) [go_sem, *, upd_ne]) | (refine ac_block ?_) | (refine ac_skip ?_; simp only [thenA]) | (refine ac_cond_h fun Kt Kf ht hf => ?_; simp (disch := omega) [go_sem, *]; try (refine ⟨fun hc => ?_, fun hc => ?_⟩ <;> try (exfalso; omega))))
              exact round_end (by simp [go_sem]) (fun k o e => by
                by_cases h1 : k = (n + 5 + 3 + 3 + 6 + 10 + 2 + 1)
                · subst h1; simpa (disch := omega) [upd_same, upd_ne] using e
                · rw [upd_ne _ _ _ _ h1] at e ⊢
                  by_cases h2 : k = n' + 1 + 3
                  · subst h2; simp (disch := omega) only [upd_ne] at e; rw [hb.none (by omega)] at e; cases e
                  · rw [upd_ne _ _ _ _ h2, upd_ne _ _ _ _ h2, upd_ne _ _ _ _ h1]; exact e) ⟨ja, jb, jc, jd, je, _, more, by omega, ra, rb, rc, rd, re, fun hh => by have := hX1.out; rw [hnx1.out hh] at this; exact this, fun hh => by have := hX1.out; rw [hnx2.out hh] at this; exact this.symm, rfl⟩ (by
                  have hl := hlft.out
                  cases more with
                  | false => simp (disch := omega) [leftD, go_sem, upd_same]; omega
                  | true => rw [hnx1.out rfl] at hl; simp (disch := omega) [leftD, go_sem, upd_same]; simp only at hl; omega)
      · have hfw2 : rfew [a, b] = false := by simpa using hfw
        rw [hfw2] at c3 hR
        simp only [Bool.false_eq_true, if_false] at hR
        subst hR
        clear c4 c5 hfa hfb ta tb hfw hfw2 hwa hwb
        obtain ⟨ak, af, ao, an, anl, afu, asz, aks⟩ := a
        obtain ⟨bk, bf, bo, bn, bnl, bfu, bsz, bks⟩ := b
        simp only [encC, encL] at c1 c2 c3 ⊢
        repeat' (first | (refine ac_seq_h fun K hK => ?_) | (refine ac_region_h fun K hK => ?_; simp (disch := omega) [go_sem, *, upd_ne, Tryz.ntmps53 ]) | (apply Hide.out hK; clear hK K; try with_reducible dsimp only [thenA]) | (apply Hide.out ht; clear ht hf Kt Kf) | (apply Hide.out hf; clear ht hf Kt Kf) | (with_reducible refine APure.gcall (c1) ?_; try simp (disch := omega) [go_sem, * ]) | (with_reducible refine APure.gcall (c2) ?_; try simp (disch := omega) [go_sem, * ]) | (with_reducible refine APure.gcall (c3) ?_; try simp (disch := omega) [go_sem, * ]) | (refine ac_skip ?_; simp only [thenA]) | (refine ac_cond_h fun Kt Kf ht hf => ?_; simp (disch := omega) [go_sem, * ]; try (refine ⟨fun hc => ?_, fun hc => ?_⟩ <;> try (exfalso; omega))))
        (refine ac_ret ?_; try dsimp only [thenA, blockA]; refine ⟨by simp, _, (by first | rfl | (simp (disch := omega) [go_sem] <;> rfl)), ?_⟩; refine ret_id ⟨fun k hk => (by first | rfl | (repeat rw [upd_ne _ _ _ _ (by omega)])), (by simp [go_sem, below, belowL]), (by simp [go_sem] <;> omega), by simp, by simp⟩)
    · have hfb2 : Cw.formed b = false := by simpa using hfb
      rw [hfb2] at c2 hR
      simp only [Bool.and_false, Bool.false_eq_true, if_false] at hR
      subst hR
      clear hfa hfb hfb2 hwa hwb
      obtain ⟨ak, af, ao, an, anl, afu, asz, aks⟩ := a
      obtain ⟨bk, bf, bo, bn, bnl, bfu, bsz, bks⟩ := b
      simp only [encC] at c1 c2 ⊢
      repeat' (first | (refine ac_seq_h fun K hK => ?_) | (refine ac_region_h fun K hK => ?_; simp (disch := omega) [go_sem, *, upd_ne, Tryz.ntmps53 ]) | (apply Hide.out hK; clear hK K; try with_reducible dsimp only [thenA]) | (apply Hide.out ht; clear ht hf Kt Kf) | (with_reducible refine APure.gcall (c1) ?_; try simp (disch := omega) [go_sem, * ]) | (with_reducible refine APure.gcall (c2) ?_; try simp (disch := omega) [go_sem, * ]) | (refine ac_cond_h fun Kt Kf ht hf => ?_; simp (disch := omega) [go_sem, * ]; try (refine ⟨fun hc => ?_, fun hc => ?_⟩ <;> try (exfalso; omega))))
      (refine ac_ret ?_; try dsimp only [thenA, blockA]; refine ⟨by simp, _, (by first | rfl | (simp (disch := omega) [go_sem] <;> rfl)), ?_⟩; refine ret_id ⟨fun k hk => (by first | rfl | (repeat rw [upd_ne _ _ _ _ (by omega)])), (by simp [go_sem, below, belowL]), (by simp [go_sem] <;> omega), by simp, by simp⟩)
  · have hfa2 : Cw.formed a = false := by simpa using hfa
    rw [hfa2] at c1 hR
    simp only [Bool.false_and, Bool.false_eq_true, if_false] at hR
    subst hR
    clear hfa hfa2 hwa hwb
    generalize Cw.formed b = fb at *
    obtain ⟨ak, af, ao, an, anl, afu, asz, aks⟩ := a
    obtain ⟨bk, bf, bo, bn, bnl, bfu, bsz, bks⟩ := b
    simp only [encC] at c1 c2 ⊢
    repeat' (first | (refine ac_seq_h fun K hK => ?_) | (refine ac_region_h fun K hK => ?_; simp (disch := omega) [go_sem, *, upd_ne, Tryz.ntmps53 ]) | (apply Hide.out hK; clear hK K; try with_reducible dsimp only [thenA]) | (apply Hide.out ht; clear ht hf Kt Kf) | (with_reducible refine APure.gcall (c1) ?_; try simp (disch := omega) [go_sem, * ]) | (with_reducible refine APure.gcall (c2) ?_; try simp (disch := omega) [go_sem, * ]) | (refine ac_cond_h fun Kt Kf ht hf => ?_; simp (disch := omega) [go_sem, * ]; try (refine ⟨fun hc => ?_, fun hc => ?_⟩ <;> try (exfalso; omega))))
    (refine ac_ret ?_; try dsimp only [thenA, blockA]; refine ⟨by simp, _, (by first | rfl | (simp (disch := omega) [go_sem] <;> rfl)), ?_⟩; refine ret_id ⟨fun k hk => (by first | rfl | (repeat rw [upd_ne _ _ _ _ (by omega)])), (by simp [go_sem, below, belowL]), (by simp [go_sem] <;> omega), by simp, by simp⟩)
end Go.AM
