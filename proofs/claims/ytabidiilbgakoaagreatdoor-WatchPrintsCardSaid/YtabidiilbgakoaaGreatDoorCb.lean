/- Conditions: the facts are facts; how many nodes. Conditions: as each theorem says. -/
import Derived.Test.YtabidiilbgakoaaGreatDoorCa
namespace Go.AM
open Go.Proofs Cw
set_option maxRecDepth 10000
set_option maxHeartbeats 4000000
end Go.AM

namespace Go.AM
open Go.Proofs Cw
set_option maxRecDepth 10000
set_option maxHeartbeats 4000000
theorem size_spec : ∀ (N : Nat) (c : Cnd), tot c ≤ N → wf c → ∀ m : Int, 1 ≤ m → m ≤ 1000 → APure Tryz.prog 65 [encC c, iv .i64 m] (iv .i64 (cnt c m))
  | 0, c, hN, _ => by have := tot_pos c; omega
  | N + 1, .mk k f o nn nl fu s ks, hN, hw => by
    intro m hm1 hm2 h n
    have IH := size_spec N
    simp only [tot] at hN
    simp only [encC, cnt]
    have hwf := hw.1
    have hwl := hw.2
    clear hw
    refine ACalls.pure (ACalls.entry (by kernel_rfl) fun hb _ => calls_of Tryz.func65 rfl (by kernel_rfl) (by simp [Tryz.ntmps65]) ?_)
    obtain ⟨T, hT⟩ : ∃ T, T = cntL ks 1 m := ⟨_, rfl⟩
    rw [← hT]
    replace hT : Hide _ := hT
    replace IH : Hide _ := IH
    replace hwf : Hide _ := hwf
    repeat' (first | (refine ac_seq_h fun K hK => ?_) | (refine ac_region_h fun K hK => ?_; simp (disch := omega) [go_sem, *, Tryz.ntmps65]) | (apply Hide.out hK; clear hK K; try with_reducible dsimp only [thenA]) | (refine ac_block ?_))
    refine ac_loop_wk (fun s' => ∃ (i : Nat) (v : Int) (n' : Nat), n < n' ∧ i ≤ ks.length ∧ (i : Int) + 1 ≤ v ∧ 1 ≤ v ∧ v ≤ m ∧ cntL (ks.drop i) v m = T ∧ s' = ⟨31, [(1, iv .i64 m), (2, .ptr n 0), (5, iv .i64 v), (6, iv .i64 i)], h.upd n (some (.cells [iv .i64 k, iv .i64 f, iv .i64 o, iv .i64 nn, .fslc nl fu s (encL ks)])), n'⟩)
        (fun s' => ks.length - (intAt s' 6).toNat) ?_ ?_
    · exact loop_start (by simp [go_sem, *]) (Sub.refl _) ⟨0, 1, _, by omega, by omega, by simp, by omega, hm1, by rw [hT.out]; rfl, rfl⟩
    · rintro s' ⟨i, v, n', hn', hi, hiv, hv1, hv2, hc, rfl⟩
      replace hc : Hide _ := hc
      have hlen := encL_length ks
      by_cases hlt : i < ks.length
      · obtain ⟨a, ha⟩ : ∃ a, ks[i]? = some a := ⟨ks[i], List.getElem?_eq_getElem hlt⟩
        have hne : ks ≠ [] := fun e => by rw [e] at hlt; simp at hlt
        obtain ⟨rfl, rfl⟩ := hwf.out.resolve_left hne
        have hea : (encL ks)[i]? = some (encC a) := by rw [encL_get, ha]; rfl
        have hdr : ks.drop i = a :: ks.drop (i + 1) := by rw [List.drop_eq_getElem_cons hlt]; congr 1; rw [List.getElem?_eq_getElem hlt] at ha; exact Option.some.inj ha
        by_cases hvm : v < m
        · have hta : tot a ≤ N := by
            have : ∀ (l : List Cnd) (j : Nat) (x : Cnd), l[j]? = some x → tot x ≤ totL l := by
              intro l
              induction l with
              | nil => intro j x hx; simp at hx
              | cons y r ih => intro j x hx; cases j with
                | zero => simp at hx; subst hx; simp only [totL]; omega
                | succ j => have := ih j x (by simpa using hx); simp only [totL]; omega
            have := this ks i a ha; omega
          have hkid := IH.out a hta (wfL_get hwl ha) (m - v) (by omega) (by omega)
          have hmin := cnt_min a (m - v) (by omega)
          have hpos := tot_pos a
          have hc2 : cntL (ks.drop (i + 1)) (v + cnt a (m - v)) m = T := by
            have := hc.out
            rw [hdr] at this
            simp only [cntL, if_pos hvm] at this
            exact this
          generalize cnt a (m - v) = q at *
          have hq1 : 1 ≤ q := by omega
          have hq2 : q ≤ m - v := by omega
          clear hmin hdr ha hta hpos
          replace hc2 : Hide _ := hc2
          obtain ⟨ka, fa, oa, na, nla, fua, sa, ksa⟩ := a
          simp only [encC] at hea hkid
          have hel : i < (encL ks).length := by omega
          have hea2 : (encL ks)[i] = .agg [iv .i64 ka, iv .i64 fa, iv .i64 oa, iv .i64 na, .fslc nla fua sa (encL ksa)] := by
            rw [List.getElem?_eq_getElem hel] at hea; exact Option.some.inj hea
          replace hea : Hide _ := hea
          repeat' (first | (refine ac_seq_h fun K hK => ?_) | (refine ac_region_h fun K hK => ?_; simp (disch := omega) [go_sem, *, wrap64_id, ilt_true, ile_true ]) | (apply Hide.out hK; clear hK K; try with_reducible dsimp only [thenA]) | (apply Hide.out ht; clear ht hf Kt Kf) | (with_reducible refine APure.gcall (hkid) ?_; try simp (disch := omega) [go_sem, *, wrap64_id ]) | (refine ac_block ?_) | (refine ac_skip ?_; simp only [thenA]) | (refine ac_cond_h fun Kt Kf ht hf => ?_; simp (disch := omega) [go_sem, * ]; try (refine ⟨fun hc => ?_, fun hc => ?_⟩ <;> try (exfalso; omega))))
          exact round_end (by simp (disch := omega) [go_sem]) (by repeat (first | exact Sub.refl _ | refine Sub.upd ?_ (by rw [upd_ne _ _ _ _ (by omega)]; exact hb.none (by omega)) _)) ⟨i + 1, v + q, _, by omega, by omega, by omega, by omega, by omega, hc2.out, rfl⟩ (by simp [intAt, go_sem]; omega)
        · have hT2 : T = v := by
            have := hc.out
            rw [hdr] at this
            simp only [cntL, if_neg hvm] at this
            exact this.symm
          subst hT2
          clear hdr hea
          repeat' (first | (refine ac_seq_h fun K hK => ?_) | (refine ac_region_h fun K hK => ?_; simp (disch := omega) [go_sem, *, ilt_true]) | (apply Hide.out hK; clear hK K; try with_reducible dsimp only [thenA]) | (apply Hide.out hf; clear ht hf Kt Kf) | (clear hK K; apply Hide.out hK; clear hK K; try with_reducible dsimp only [thenA]) | (refine ac_exit ?_; simp only [thenA, blockA, if_true]) | (refine ac_cond_h fun Kt Kf ht hf => ?_; simp (disch := omega) [go_sem, *]; try (refine ⟨fun hc => ?_, fun hc => ?_⟩ <;> try (exfalso; omega))))
          (refine ac_ret ?_; try dsimp only [thenA, blockA]; refine ⟨by simp, _, (by first | rfl | (simp (disch := omega) [go_sem, upd_ne] <;> rfl)), ?_⟩; refine ret_id ⟨fun k hk => (by first | rfl | (repeat rw [upd_ne _ _ _ _ (by omega)])), (by simp [go_sem, below]), (by simp [go_sem] <;> omega), by simp, by simp⟩)
      · have hT2 : T = v := by
          have := hc.out
          rw [List.drop_eq_nil_of_le (by omega)] at this
          simp only [cntL] at this
          exact this.symm
        subst hT2
        repeat' (first | (refine ac_seq_h fun K hK => ?_) | (refine ac_region_h fun K hK => ?_; simp (disch := omega) [go_sem, *, ilt_false]) | (apply Hide.out hK; clear hK K; try with_reducible dsimp only [thenA]) | (apply Hide.out hf; clear ht hf Kt Kf) | (clear hK K; apply Hide.out hK; clear hK K; try with_reducible dsimp only [thenA]) | (refine ac_exit ?_; simp only [thenA, blockA, if_true]) | (refine ac_cond_h fun Kt Kf ht hf => ?_; simp (disch := omega) [go_sem, *]; try (refine ⟨fun hc => ?_, fun hc => ?_⟩ <;> try (exfalso; omega))))
        (refine ac_ret ?_; try dsimp only [thenA, blockA]; refine ⟨by simp, _, (by first | rfl | (simp (disch := omega) [go_sem, upd_ne] <;> rfl)), ?_⟩; refine ret_id ⟨fun k hk => (by first | rfl | (repeat rw [upd_ne _ _ _ _ (by omega)])), (by simp [go_sem, below]), (by simp [go_sem] <;> omega), by simp, by simp⟩)
theorem nodes_spec : ∀ (N : Nat) (c : Cnd), tot c ≤ N → wf c → ∀ m : Int, 1 ≤ m → m ≤ 1000 → APure Tryz.prog 132 [encC c, iv .i64 m] (iv .i64 (cnt c m))
  | 0, c, hN, _ => by have := tot_pos c; omega
  | N + 1, .mk k f o nn nl fu s ks, hN, hw => by
    intro m hm1 hm2 h n
    have IH := nodes_spec N
    simp only [tot] at hN
    simp only [encC, cnt]
    have hwf := hw.1
    have hwl := hw.2
    clear hw
    refine ACalls.pure (ACalls.entry (by kernel_rfl) fun hb _ => calls_of Tryz.func132 rfl (by kernel_rfl) (by simp [Tryz.ntmps132]) ?_)
    obtain ⟨T, hT⟩ : ∃ T, T = cntL ks 1 m := ⟨_, rfl⟩
    rw [← hT]
    replace hT : Hide _ := hT
    replace IH : Hide _ := IH
    replace hwf : Hide _ := hwf
    repeat' (first | (refine ac_seq_h fun K hK => ?_) | (refine ac_region_h fun K hK => ?_; simp (disch := omega) [go_sem, *, Tryz.ntmps132]) | (apply Hide.out hK; clear hK K; try with_reducible dsimp only [thenA]) | (refine ac_block ?_))
    refine ac_loop_wk (fun s' => ∃ (i : Nat) (v : Int) (n' : Nat), n < n' ∧ i ≤ ks.length ∧ (i : Int) + 1 ≤ v ∧ 1 ≤ v ∧ v ≤ m ∧ cntL (ks.drop i) v m = T ∧ s' = ⟨31, [(1, iv .i64 m), (2, .ptr n 0), (5, iv .i64 v), (6, iv .i64 i)], h.upd n (some (.cells [iv .i64 k, iv .i64 f, iv .i64 o, iv .i64 nn, .fslc nl fu s (encL ks)])), n'⟩)
        (fun s' => ks.length - (intAt s' 6).toNat) ?_ ?_
    · exact loop_start (by simp [go_sem, *]) (Sub.refl _) ⟨0, 1, _, by omega, by omega, by simp, by omega, hm1, by rw [hT.out]; rfl, rfl⟩
    · rintro s' ⟨i, v, n', hn', hi, hiv, hv1, hv2, hc, rfl⟩
      replace hc : Hide _ := hc
      have hlen := encL_length ks
      by_cases hlt : i < ks.length
      · obtain ⟨a, ha⟩ : ∃ a, ks[i]? = some a := ⟨ks[i], List.getElem?_eq_getElem hlt⟩
        have hne : ks ≠ [] := fun e => by rw [e] at hlt; simp at hlt
        obtain ⟨rfl, rfl⟩ := hwf.out.resolve_left hne
        have hea : (encL ks)[i]? = some (encC a) := by rw [encL_get, ha]; rfl
        have hdr : ks.drop i = a :: ks.drop (i + 1) := by rw [List.drop_eq_getElem_cons hlt]; congr 1; rw [List.getElem?_eq_getElem hlt] at ha; exact Option.some.inj ha
        by_cases hvm : v < m
        · have hta : tot a ≤ N := by
            have : ∀ (l : List Cnd) (j : Nat) (x : Cnd), l[j]? = some x → tot x ≤ totL l := by
              intro l
              induction l with
              | nil => intro j x hx; simp at hx
              | cons y r ih => intro j x hx; cases j with
                | zero => simp at hx; subst hx; simp only [totL]; omega
                | succ j => have := ih j x (by simpa using hx); simp only [totL]; omega
            have := this ks i a ha; omega
          have hkid := IH.out a hta (wfL_get hwl ha) (m - v) (by omega) (by omega)
          have hmin := cnt_min a (m - v) (by omega)
          have hpos := tot_pos a
          have hc2 : cntL (ks.drop (i + 1)) (v + cnt a (m - v)) m = T := by
            have := hc.out
            rw [hdr] at this
            simp only [cntL, if_pos hvm] at this
            exact this
          generalize cnt a (m - v) = q at *
          have hq1 : 1 ≤ q := by omega
          have hq2 : q ≤ m - v := by omega
          clear hmin hdr ha hta hpos
          replace hc2 : Hide _ := hc2
          obtain ⟨ka, fa, oa, na, nla, fua, sa, ksa⟩ := a
          simp only [encC] at hea hkid
          have hel : i < (encL ks).length := by omega
          have hea2 : (encL ks)[i] = .agg [iv .i64 ka, iv .i64 fa, iv .i64 oa, iv .i64 na, .fslc nla fua sa (encL ksa)] := by
            rw [List.getElem?_eq_getElem hel] at hea; exact Option.some.inj hea
          replace hea : Hide _ := hea
          repeat' (first | (refine ac_seq_h fun K hK => ?_) | (refine ac_region_h fun K hK => ?_; simp (disch := omega) [go_sem, *, wrap64_id, ilt_true, ile_true ]) | (apply Hide.out hK; clear hK K; try with_reducible dsimp only [thenA]) | (apply Hide.out ht; clear ht hf Kt Kf) | (with_reducible refine APure.gcall (hkid) ?_; try simp (disch := omega) [go_sem, *, wrap64_id ]) | (refine ac_block ?_) | (refine ac_skip ?_; simp only [thenA]) | (refine ac_cond_h fun Kt Kf ht hf => ?_; simp (disch := omega) [go_sem, * ]; try (refine ⟨fun hc => ?_, fun hc => ?_⟩ <;> try (exfalso; omega))))
          exact round_end (by simp (disch := omega) [go_sem]) (by repeat (first | exact Sub.refl _ | refine Sub.upd ?_ (by rw [upd_ne _ _ _ _ (by omega)]; exact hb.none (by omega)) _)) ⟨i + 1, v + q, _, by omega, by omega, by omega, by omega, by omega, hc2.out, rfl⟩ (by simp [intAt, go_sem]; omega)
        · have hT2 : T = v := by
            have := hc.out
            rw [hdr] at this
            simp only [cntL, if_neg hvm] at this
            exact this.symm
          subst hT2
          clear hdr hea
          repeat' (first | (refine ac_seq_h fun K hK => ?_) | (refine ac_region_h fun K hK => ?_; simp (disch := omega) [go_sem, *, ilt_true]) | (apply Hide.out hK; clear hK K; try with_reducible dsimp only [thenA]) | (apply Hide.out hf; clear ht hf Kt Kf) | (clear hK K; apply Hide.out hK; clear hK K; try with_reducible dsimp only [thenA]) | (refine ac_exit ?_; simp only [thenA, blockA, if_true]) | (refine ac_cond_h fun Kt Kf ht hf => ?_; simp (disch := omega) [go_sem, *]; try (refine ⟨fun hc => ?_, fun hc => ?_⟩ <;> try (exfalso; omega))))
          (refine ac_ret ?_; try dsimp only [thenA, blockA]; refine ⟨by simp, _, (by first | rfl | (simp (disch := omega) [go_sem, upd_ne] <;> rfl)), ?_⟩; refine ret_id ⟨fun k hk => (by first | rfl | (repeat rw [upd_ne _ _ _ _ (by omega)])), (by simp [go_sem, below]), (by simp [go_sem] <;> omega), by simp, by simp⟩)
      · have hT2 : T = v := by
          have := hc.out
          rw [List.drop_eq_nil_of_le (by omega)] at this
          simp only [cntL] at this
          exact this.symm
        subst hT2
        repeat' (first | (refine ac_seq_h fun K hK => ?_) | (refine ac_region_h fun K hK => ?_; simp (disch := omega) [go_sem, *, ilt_false]) | (apply Hide.out hK; clear hK K; try with_reducible dsimp only [thenA]) | (apply Hide.out hf; clear ht hf Kt Kf) | (clear hK K; apply Hide.out hK; clear hK K; try with_reducible dsimp only [thenA]) | (refine ac_exit ?_; simp only [thenA, blockA, if_true]) | (refine ac_cond_h fun Kt Kf ht hf => ?_; simp (disch := omega) [go_sem, *]; try (refine ⟨fun hc => ?_, fun hc => ?_⟩ <;> try (exfalso; omega))))
        (refine ac_ret ?_; try dsimp only [thenA, blockA]; refine ⟨by simp, _, (by first | rfl | (simp (disch := omega) [go_sem, upd_ne] <;> rfl)), ?_⟩; refine ret_id ⟨fun k hk => (by first | rfl | (repeat rw [upd_ne _ _ _ _ (by omega)])), (by simp [go_sem, below]), (by simp [go_sem] <;> omega), by simp, by simp⟩)
theorem small_spec (c : Cnd) (hw : wf c) : APure Tryz.prog 24 [encC c] (bv (decide (tot c ≤ 80))) := by
  intro h n
  have h1 := size_spec _ c (Nat.le_refl _) hw 81 (by omega) (by omega)
  have h2 := cnt_min c 81 (by omega)
  generalize cnt c 81 = q at *
  have hq : decide (tot c ≤ 80) = decide (q ≤ 80) := by
    congr 1; apply propext; constructor <;> intro <;> omega
  rw [hq]
  clear h2 hq hw
  obtain ⟨k, f, o, nn, nl, fu, s, ks⟩ := c
  simp only [encC] at h1 ⊢
  refine ACalls.pure (ACalls.entry (by kernel_rfl) fun hb _ => calls_of Tryz.func24 rfl (by kernel_rfl) (by simp [Tryz.ntmps24]) ?_)
  repeat' (first | (refine ac_seq_h fun K hK => ?_) | (refine ac_region_h fun K hK => ?_; simp (disch := omega) [go_sem, *, Tryz.ntmps24 ]) | (apply Hide.out hK; clear hK K; try with_reducible dsimp only [thenA]) | (with_reducible refine APure.gcall (h1) ?_; try simp (disch := omega) [go_sem, * ]))
  (refine ac_ret ?_; try dsimp only [thenA, blockA]; refine ⟨by simp, _, (by first | rfl | (simp (disch := omega) [go_sem, upd_ne] <;> rfl)), ?_⟩; refine ret_id ⟨fun k hk => (by first | rfl | (repeat rw [upd_ne _ _ _ _ (by omega)])), (by simp [go_sem, below]), (by simp [go_sem] <;> omega), by simp, by simp⟩)
end Go.AM
