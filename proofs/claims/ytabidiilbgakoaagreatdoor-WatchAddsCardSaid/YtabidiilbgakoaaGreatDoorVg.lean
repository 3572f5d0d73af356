/- Versions that are the same; few versions. Conditions: as each theorem says. -/
import Derived.Test.YtabidiilbgakoaaGreatDoorPb
import Derived.Test.YtabidiilbgakoaaGreatDoorVc
import Derived.Test.YtabidiilbgakoaaGreatDoorPd
namespace Go.AM
open Go.Proofs Cw Du
set_option maxRecDepth 10000
set_option maxHeartbeats 4000000
theorem sayCL_get {l m : List Cnd} (h : sayCL l = sayCL m) {i : Nat} {x y : Cnd} (hx : l[i]? = some x) (hy : m[i]? = some y) : sayC x = sayC y := by
  rw [sayCL_map, sayCL_map] at h
  have := congrArg (fun z => z[i]?) h
  simpa [List.getElem?_map, hx, hy] using this
theorem sayCL_len {l m : List Cnd} (h : sayCL l = sayCL m) : l.length = m.length := by
  rw [sayCL_map, sayCL_map] at h
  simpa using congrArg List.length h
theorem rsameC_spec : ∀ (N : Nat) (c d : Cnd), tot c ≤ N → N ≤ 1000 → wf c → wf d → sayC c = sayC d → APure Tryz.prog 23 [encC c, encC d] (bv true)
  | 0, c, _, h, _, _, _, _ => by have := tot_pos c; omega
  | N + 1, .mk k f o nn nl fu s ks, .mk k' f' o' nn' nl' fu' s' ks', hN, h1000, hw, hw', hs => by
    intro h n
    simp only [tot] at hN
    rw [sayC, sayC] at hs
    injection hs with a1 a2 a3 a4 _ _ _ hks
    subst a1; subst a2; subst a3; subst a4
    obtain ⟨hnl, hwk⟩ := hw
    obtain ⟨hnl', hwk'⟩ := hw'
    have hlen := sayCL_len hks
    have htl := totL_len ks
    refine ACalls.pure (ACalls.entry (by kernel_rfl) fun hb _ => calls_of Tryz.func23 rfl (by kernel_rfl) (by simp [Tryz.ntmps23]) ?_)
    simp only [encC]
    have hel := encL_length ks
    have hel' := encL_length ks'
    have hge : ∀ i, i < ks.length → ∃ x y, ks[i]? = some x ∧ ks'[i]? = some y ∧ (encL ks)[i]? = some (encC x) ∧ (encL ks')[i]? = some (encC y) := fun i hi => by
      refine ⟨ks[i], ks'[i]'(by omega), List.getElem?_eq_getElem hi, List.getElem?_eq_getElem (by omega), ?_, ?_⟩
      · rw [encL_get, List.getElem?_eq_getElem hi]; rfl
      · rw [encL_get, List.getElem?_eq_getElem (show i < ks'.length by omega)]; rfl
    have hrec : ∀ i x y, ks[i]? = some x → ks'[i]? = some y → APure Tryz.prog 23 [encC x, encC y] (bv true) := fun i x y hx hy =>
      rsameC_spec N x y (by have := tot_memL (List.mem_of_getElem? hx); omega) (by omega) (wfL_get hwk hx) (wfL_get hwk' hy) (sayCL_get hks hx hy)
    have hne : 0 < ks.length → (nl = false ∧ s = 5) ∧ (nl' = false ∧ s' = 5) := fun h0 => ⟨hnl.resolve_left (fun e => by subst e; simp at h0), hnl'.resolve_left (fun e => by rw [e] at hlen; rw [hlen] at h0; simp at h0)⟩
    generalize encL ks = EL at *
    generalize encL ks' = EM at *
    rw [← hlen] at hel'
    clear hnl hwk hnl' hwk' hks
    replace hge : Hide _ := hge
    replace hrec : Hide _ := hrec
    replace hne : Hide _ := hne
    replace hlen : Hide _ := trivial
    repeat' (first | (refine ac_seq_h fun K hK => ?_) | (refine ac_region_h fun K hK => ?_; simp (disch := omega) [go_sem, *, upd_ne, Tryz.ntmps23]) | (apply Hide.out hK; clear hK K; try with_reducible dsimp only [thenA]) | (apply Hide.out hf; clear ht hf Kt Kf) | (refine ac_block ?_) | (refine ac_skip ?_; simp only [thenA]) | (refine ac_cond_h fun Kt Kf ht hf => ?_; simp (disch := omega) [go_sem, *]; try (refine ⟨fun hc => ?_, fun hc => ?_⟩ <;> try (exfalso; omega))))
    refine ac_loop_wk (fun s2 => ∃ (i n' : Nat) (H : AHeap), n ≤ n' ∧ i ≤ ks.length ∧ H n = some (.cells [iv .i64 k, iv .i64 f, iv .i64 o, iv .i64 nn, .fslc nl fu s EL]) ∧ H (n + 1) = some (.cells [iv .i64 k, iv .i64 f, iv .i64 o, iv .i64 nn, .fslc nl' fu' s' EM]) ∧ (∀ x, x < n → H x = h x) ∧ s2 = ⟨62, [(2, .ptr n 0), (3, .ptr (n + 1) 0), (5, iv .i64 i)], H, n'⟩) (fun s2 => ks.length - (intAt s2 5).toNat) ?_ ?_
    · exact loop_start (by simp [go_sem]) (Sub.refl _) ⟨0, _, _, by (try simp only); omega, by omega, by simp (disch := omega) only [upd_ne, upd_same], by simp (disch := omega) only [upd_same], fun x hx => by simp (disch := omega) only [upd_ne], rfl⟩
    · rintro s2 ⟨i, n', H, hn', hi, g0, g1, g2, rfl⟩
      replace g2 : Hide _ := g2
      by_cases hlt : i < ks.length
      · obtain ⟨x, y, hx, hy, ex, ey⟩ := hge.out i hlt
        obtain ⟨⟨rfl, rfl⟩, rfl, rfl⟩ := hne.out (by omega)
        have kx := hrec.out i x y hx hy
        replace hx : Hide _ := trivial
        replace hy : Hide _ := trivial
        obtain ⟨x1, x2, x3, x4, x5, x6, x7, x8⟩ := x
        obtain ⟨y1, y2, y3, y4, y5, y6, y7, y8⟩ := y
        simp only [encC] at kx ex ey
        have hi1 : i < EL.length := by omega
        have hi2 : i < EM.length := by omega
        rw [List.getElem?_eq_getElem hi1] at ex
        rw [List.getElem?_eq_getElem hi2] at ey
        have ex := Option.some.inj ex
        have ey := Option.some.inj ey
        repeat' (first | (refine ac_seq_h fun K hK => ?_) | (refine ac_region_h fun K hK => ?_; simp (disch := omega) [go_sem, *, wrap64_id, ilt_true]) | (refine ac_draw_h mixed (by kernel_rfl) fun K hK => ?_; simp (disch := omega) [go_sem, *, ile_true]) | (apply Hide.out hK; clear hK K; try with_reducible dsimp only [thenA]) | (apply Hide.out ht; clear ht hf Kt Kf) | (apply Hide.out hf; clear ht hf Kt Kf) | (with_reducible refine APure.gcall (kx) ?_; try simp (disch := omega) [go_sem, *]) | (refine ac_block ?_) | (refine ac_skip ?_; simp only [thenA, blockA]) | (refine ac_cond_h fun Kt Kf ht hf => ?_; simp (disch := omega) [go_sem, *]; try (refine ⟨fun hc => ?_, fun hc => ?_⟩ <;> try (exfalso; omega))))
        exact round_end (by simp (disch := omega) [go_sem]) (Sub.refl _) ⟨i + 1, _, _, by (try simp only); omega, by omega, g0, g1, g2.out, rfl⟩ (by simp [intAt, go_sem]; omega)
      · skip
        repeat' (first | (refine ac_seq_h fun K hK => ?_) | (refine ac_region_h fun K hK => ?_; simp (disch := omega) [go_sem, *, ilt_false]) | (apply Hide.out hK; clear hK K; try with_reducible dsimp only [thenA]) | (apply Hide.out hf; clear ht hf Kt Kf) | (clear hK K; apply Hide.out hK; clear hK K; try with_reducible dsimp only [thenA]) | (refine ac_exit ?_; simp only [thenA, blockA, if_true]) | (refine ac_cond_h fun Kt Kf ht hf => ?_; simp (disch := omega) [go_sem, *]; try (refine ⟨fun hc => ?_, fun hc => ?_⟩ <;> try (exfalso; omega))))
        refine ac_ret ?_
        try dsimp only [thenA, blockA]
        refine ⟨by simp, _, (by first | rfl | (simp (disch := omega) [go_sem, upd_ne] <;> rfl)), ?_⟩
        exact ret_id ⟨fun x hx => g2.out x hx, by simp [go_sem, below, resVal], by rfl, by simp, by simp⟩
theorem rsameI_spec (nl fu : Bool) (s : Nat) (xs : List Int) (hnl : xs = [] ∨ nl = false ∧ s = 1) (nm fm : Bool) (z : Nat) (hnm : xs = [] ∨ nm = false ∧ z = 1) (hl : xs.length ≤ 1000000) : APure Tryz.prog 39 [.fslc nl fu s (xs.map (iv .i64)), .fslc nm fm z (xs.map (iv .i64))] (bv true) := by
  intro h n
  refine ACalls.pure (ACalls.entry (by kernel_rfl) fun hb _ => calls_of Tryz.func39 rfl (by kernel_rfl) (by simp [Tryz.ntmps39]) ?_)
  replace hnl : Hide _ := hnl
  replace hnm : Hide _ := hnm
  repeat' (first | (refine ac_seq_h fun K hK => ?_) | (refine ac_region_h fun K hK => ?_; simp (disch := omega) [go_sem, *, Tryz.ntmps39]) | (apply Hide.out hK; clear hK K; try with_reducible dsimp only [thenA]) | (apply Hide.out hf; clear ht hf Kt Kf) | (refine ac_block ?_) | (refine ac_skip ?_; simp only [thenA]) | (refine ac_cond_h fun Kt Kf ht hf => ?_; simp (disch := omega) [go_sem, *]; try (refine ⟨fun hc => ?_, fun hc => ?_⟩ <;> try (exfalso; omega))))
  refine ac_loop_wk (fun s' => ∃ (i n' : Nat), n ≤ n' ∧ i ≤ xs.length ∧ s' = ⟨26, [(0, .fslc nl fu s (xs.map (iv .i64))), (1, .fslc nm fm z (xs.map (iv .i64))), (5, iv .i64 i)], h, n'⟩)
    (fun s' => xs.length - (intAt s' 5).toNat) ?_ ?_
  · exact loop_start (by simp [go_sem]) (Sub.refl _) ⟨0, _, by omega, by omega, rfl⟩
  · rintro s' ⟨i, n', hn', hi, rfl⟩
    by_cases hlt : i < xs.length
    · have hne : xs ≠ [] := fun e => by rw [e] at hlt; simp at hlt
      obtain ⟨rfl, rfl⟩ := hnl.out.resolve_left hne
      obtain ⟨rfl, rfl⟩ := hnm.out.resolve_left hne
      clear hne
      repeat' (first | (refine ac_seq_h fun K hK => ?_) | (refine ac_region_h fun K hK => ?_; simp (disch := omega) [go_sem, *, wrap64_id, ilt_true]) | (refine ac_draw_h mixed (by kernel_rfl) fun K hK => ?_; simp (disch := omega) [go_sem, *, ile_true]) | (apply Hide.out hK; clear hK K; try with_reducible dsimp only [thenA]) | (apply Hide.out ht; clear ht hf Kt Kf) | (apply Hide.out hf; clear ht hf Kt Kf) | (refine ac_block ?_) | (refine ac_skip ?_; simp only [thenA, blockA]) | (refine ac_cond_h fun Kt Kf ht hf => ?_; simp (disch := omega) [go_sem, *]; try (refine ⟨fun hc => ?_, fun hc => ?_⟩ <;> try (exfalso; omega))))
      exact round_end (by simp (disch := omega) [go_sem]) (Sub.refl _) ⟨i + 1, _, by omega, by omega, rfl⟩ (by simp [intAt, go_sem]; omega)
    · skip
      repeat' (first | (refine ac_seq_h fun K hK => ?_) | (refine ac_region_h fun K hK => ?_; simp (disch := omega) [go_sem, *, ilt_false]) | (apply Hide.out hK; clear hK K; try with_reducible dsimp only [thenA]) | (apply Hide.out hf; clear ht hf Kt Kf) | (clear hK K; apply Hide.out hK; clear hK K; try with_reducible dsimp only [thenA]) | (refine ac_exit ?_; simp only [thenA, blockA, if_true]) | (refine ac_cond_h fun Kt Kf ht hf => ?_; simp (disch := omega) [go_sem, *]; try (refine ⟨fun hc => ?_, fun hc => ?_⟩ <;> try (exfalso; omega))))
      exact zR
theorem sayL_eq {x y : Lin} (h : sayL x = sayL y) : x.kind = y.kind ∧ x.tower = y.tower ∧ x.person = y.person ∧ x.other = y.other ∧ x.fr = y.fr ∧ x.to = y.to ∧ x.ev = y.ev ∧ x.exc = y.exc := by
  simp only [sayL, Prod.mk.injEq, List.cons.injEq, and_true] at h
  obtain ⟨⟨a, b, c, d⟩, ⟨e, f, g⟩, i⟩ := h
  exact ⟨a, (eqB_iff _ _).1 (by unfold eqB; simp [e]), (eqB_iff _ _).1 (by unfold eqB; simp [f]), (eqB_iff _ _).1 (by unfold eqB; simp [g]), b, c, d, i⟩
theorem map_get {α β : Type} {f : α → β} {l m : List α} (h : l.map f = m.map f) {i : Nat} (hi : i < l.length) : ∃ h2 : i < m.length, f l[i] = f (m[i]'h2) := by
  have hl : l.length = m.length := by simpa using congrArg List.length h
  refine ⟨by omega, ?_⟩
  have := congrArg (fun z => z[i]?) h
  simpa [List.getElem?_map, List.getElem?_eq_getElem hi, List.getElem?_eq_getElem (show i < m.length by omega)] using this
theorem rsameW_spec (nlV fuV : Bool) (sV : Nat) (V : List Lin) (nlA fuA : Bool) (sA : Nat) (A : List Ordr) (nlW fuW : Bool) (sW : Nat) (W : List Lin) (nlB fuB : Bool) (sB : Nat) (B : List Ordr)
    (h1 : V = [] ∨ nlV = false ∧ sV = 8) (h2 : A = [] ∨ nlA = false ∧ sA = 7) (h3 : W = [] ∨ nlW = false ∧ sW = 8) (h4 : B = [] ∨ nlB = false ∧ sB = 7)
    (hl : V.length ≤ 1000000) (hm : A.length ≤ 1000000) (hV : ∀ x ∈ V, wfLn x ∧ x.exc.length ≤ 1000000) (hW : ∀ x ∈ W, wfLn x ∧ x.exc.length ≤ 1000000) (hA : wfO A) (hB : wfO B) (ht : ∀ o ∈ A, tot o.cond ≤ 1000) (e1 : V.map sayL = W.map sayL) (e2 : A.map sayO = B.map sayO) :
    APure Tryz.prog 22 [.agg [.fslc nlV fuV sV (V.map encLn), .fslc nlA fuA sA (A.map encO)], .agg [.fslc nlW fuW sW (W.map encLn), .fslc nlB fuB sB (B.map encO)]] (bv true) := by
  intro h n
  have lV : W.length = V.length := by simpa using (congrArg List.length e1).symm
  have lA : B.length = A.length := by simpa using (congrArg List.length e2).symm
  refine ACalls.pure (ACalls.entry (by kernel_rfl) fun hb _ => calls_of Tryz.func22 rfl (by kernel_rfl) (by simp [Tryz.ntmps22]) ?_)
  have hgl : ∀ i, i < V.length → ∃ (x y : Lin) (p1 : i < (V.map encLn).length) (p2 : i < (W.map encLn).length), (V.map encLn)[i] = encLn x ∧ (W.map encLn)[i] = encLn y ∧ sayL x = sayL y ∧ (wfLn x ∧ x.exc.length ≤ 1000000) ∧ (wfLn y ∧ y.exc.length ≤ 1000000) ∧ (nlV = false ∧ sV = 8) ∧ (nlW = false ∧ sW = 8) := fun i hi => by
    obtain ⟨hi2, hs⟩ := map_get e1 hi
    refine ⟨V[i], W[i], by rw [List.length_map]; exact hi, by rw [List.length_map]; exact hi2, by rw [List.getElem_map], by rw [List.getElem_map], hs, hV _ (List.getElem_mem hi), hW _ (List.getElem_mem hi2), h1.resolve_left (fun e => by rw [e] at hi; simp at hi), h3.resolve_left (fun e => by rw [e] at hi2; simp at hi2)⟩
  have hgo : ∀ i, i < A.length → ∃ (x y : Ordr) (p1 : i < (A.map encO).length) (p2 : i < (B.map encO).length), (A.map encO)[i] = encO x ∧ (B.map encO)[i] = encO y ∧ x.name = y.name ∧ x.rank = y.rank ∧ APure Tryz.prog 23 [encC x.cond, encC y.cond] (bv true) ∧ (nlA = false ∧ sA = 7) ∧ (nlB = false ∧ sB = 7) := fun i hi => by
    obtain ⟨hi2, hs⟩ := map_get e2 hi
    simp only [sayO, Prod.mk.injEq] at hs
    refine ⟨A[i], B[i], by rw [List.length_map]; exact hi, by rw [List.length_map]; exact hi2, by rw [List.getElem_map], by rw [List.getElem_map], (eqB_iff _ _).1 (by unfold eqB; simp [hs.1]), hs.2.1, rsameC_spec 1000 _ _ (ht _ (List.getElem_mem hi)) (by omega) (hA _ (List.getElem_mem hi)) (hB _ (List.getElem_mem hi2)) hs.2.2, h2.resolve_left (fun e => by rw [e] at hi; simp at hi), h4.resolve_left (fun e => by rw [e] at hi2; simp at hi2)⟩
  have lVm : (V.map encLn).length = V.length := List.length_map _
  have lWm : (W.map encLn).length = V.length := by rw [List.length_map, lV]
  have lAm : (A.map encO).length = A.length := List.length_map _
  have lBm : (B.map encO).length = A.length := by rw [List.length_map, lA]
  generalize List.map encLn V = VV at *
  generalize List.map encLn W = WW at *
  generalize List.map encO A = AA at *
  generalize List.map encO B = BB at *
  replace hgl : Hide _ := hgl
  replace hgo : Hide _ := hgo
  clear h1 h2 h3 h4 hV hW hA hB ht e1 e2 lV lA
  repeat' (first | (refine ac_seq_h fun K hK => ?_) | (refine ac_region_h fun K hK => ?_; simp (disch := omega) [go_sem, *, upd_ne, Tryz.ntmps22]) | (apply Hide.out hK; clear hK K; try with_reducible dsimp only [thenA]) | (apply Hide.out hf; clear ht hf Kt Kf) | (refine ac_block ?_) | (refine ac_skip ?_; simp only [thenA]) | (refine ac_cond_h fun Kt Kf ht hf => ?_; simp (disch := omega) [go_sem, *]; try (refine ⟨fun hc => ?_, fun hc => ?_⟩ <;> try (exfalso; omega))))
  refine ac_loop_wk (fun s2 => ∃ (i n' : Nat) (H : AHeap), n + 2 ≤ n' ∧ i ≤ V.length ∧ H n = some (.cells [.fslc nlV fuV sV VV, .fslc nlA fuA sA AA]) ∧ H (n + 1) = some (.cells [.fslc nlW fuW sW WW, .fslc nlB fuB sB BB]) ∧ (∀ x, x < n → H x = h x) ∧ s2 = ⟨152, [(2, .ptr n 0), (3, .ptr (n + 1) 0), (5, iv .i64 i)], H, n'⟩) (fun s2 => V.length - (intAt s2 5).toNat) ?_ ?_
  · exact loop_start (by simp [go_sem]) (Sub.refl _) ⟨0, _, _, by (try simp only); omega, by omega, by simp (disch := omega) only [upd_ne, upd_same], by simp (disch := omega) only [upd_same], fun x hx => by simp (disch := omega) only [upd_ne], rfl⟩
  · rintro s2 ⟨i, n', H, hn', hi, g0, g1, g2, rfl⟩
    replace g2 : Hide _ := g2
    by_cases hlt : i < V.length
    · obtain ⟨x, y, p1, p2, ex, ey, hs, wx, wy, ⟨rfl, rfl⟩, rfl, rfl⟩ := hgl.out i hlt
      obtain ⟨q1, q2, q3, q4, q5, q6, q7, q8⟩ := sayL_eq hs
      obtain ⟨x1, x2, x3, x4, x5, x6, x7, x8, x9, x10, x11⟩ := x
      obtain ⟨y1, y2, y3, y4, y5, y6, y7, y8, y9, y10, y11⟩ := y
      simp only at q1 q2 q3 q4 q5 q6 q7 q8
      subst q1; subst q2; subst q3; subst q4; subst q5; subst q6; subst q7; subst q8
      have kx := rsameI_spec x8 x9 x10 x11 wx.1 y8 y9 y10 wy.1 wx.2
      simp only [encLn] at ex ey
      clear hs wx wy
      generalize List.map (iv .i64) x11 = XX at *
      repeat' (first | (refine ac_seq_h fun K hK => ?_) | (refine ac_region_h fun K hK => ?_; simp (disch := omega) [go_sem, *, wrap64_id, upd_ne, ilt_true, ile_true]) | (apply Hide.out hK; clear hK K; try with_reducible dsimp only [thenA]) | (apply Hide.out ht; clear ht hf Kt Kf) | (apply Hide.out hf; clear ht hf Kt Kf) | (with_reducible refine APure.gcall (kx) ?_; try simp (disch := omega) [go_sem, *]) | (refine ac_block ?_) | (refine ac_skip ?_; simp only [thenA, blockA]) | (refine ac_cond_h fun Kt Kf ht hf => ?_; simp (disch := omega) [go_sem, *]; try (refine ⟨fun hc => ?_, fun hc => ?_⟩ <;> try (exfalso; omega))))
      refine round_end (by simp (disch := omega) [go_sem]) (Sub.refl _) ⟨i + 1, _, _, by (try simp only); omega, by omega, ?_, ?_, fun x hx => ?_, rfl⟩ (by simp [intAt, go_sem]; omega)
      · simp (disch := omega) only [upd_ne]; exact g0
      · simp (disch := omega) only [upd_ne]; exact g1
      · simp (disch := omega) only [upd_ne]; exact g2.out x hx
    · skip
      repeat' (first | (refine ac_seq_h fun K hK => ?_) | (refine ac_region_h fun K hK => ?_; simp (disch := omega) [go_sem, *, ilt_false]) | (apply Hide.out hK; clear hK K; try with_reducible dsimp only [thenA]) | (apply Hide.out hf; clear ht hf Kt Kf) | (clear hK K; apply Hide.out hK; clear hK K; try with_reducible dsimp only [thenA]) | (refine ac_block ?_) | (refine ac_exit ?_; simp only [thenA, blockA, if_true]) | (refine ac_cond_h fun Kt Kf ht hf => ?_; simp (disch := omega) [go_sem, *]; try (refine ⟨fun hc => ?_, fun hc => ?_⟩ <;> try (exfalso; omega))))
      refine ac_loop_wk (fun s2 => ∃ (i n3 : Nat), n + 2 ≤ n3 ∧ i ≤ A.length ∧ s2 = ⟨152, [(2, .ptr n 0), (3, .ptr (n + 1) 0), (9, iv .i64 i)], H, n3⟩) (fun s2 => A.length - (intAt s2 9).toNat) ?_ ?_
      · exact loop_start (by simp [go_sem]) (Sub.refl _) ⟨0, _, by (try simp only); omega, by omega, rfl⟩
      · rintro s2 ⟨i, n3, hn3, hi, rfl⟩
        by_cases hlt : i < A.length
        · obtain ⟨x, y, p1, p2, ex, ey, q1, q2, kx, ⟨rfl, rfl⟩, rfl, rfl⟩ := hgo.out i hlt
          obtain ⟨x1, x2, c⟩ := x
          obtain ⟨y1, y2, d⟩ := y
          obtain ⟨c1, c2, c3, c4, c5, c6, c7, c8⟩ := c
          obtain ⟨d1, d2, d3, d4, d5, d6, d7, d8⟩ := d
          simp only at q1 q2
          subst q1; subst q2
          simp only [encO, encC] at ex ey kx
          generalize encL c8 = EC at *
          generalize encL d8 = ED at *
          repeat' (first | (refine ac_seq_h fun K hK => ?_) | (refine ac_region_h fun K hK => ?_; simp (disch := omega) [go_sem, *, wrap64_id, ilt_true]) | (refine ac_draw_h mixed (by kernel_rfl) fun K hK => ?_; simp (disch := omega) [go_sem, *, ile_true]) | (apply Hide.out hK; clear hK K; try with_reducible dsimp only [thenA]) | (apply Hide.out ht; clear ht hf Kt Kf) | (apply Hide.out hf; clear ht hf Kt Kf) | (with_reducible refine APure.gcall (kx) ?_; try simp (disch := omega) [go_sem, *]) | (refine ac_block ?_) | (refine ac_skip ?_; simp only [thenA, blockA]) | (refine ac_cond_h fun Kt Kf ht hf => ?_; simp (disch := omega) [go_sem, *]; try (refine ⟨fun hc => ?_, fun hc => ?_⟩ <;> try (exfalso; omega))))
          exact round_end (by simp (disch := omega) [go_sem]) (Sub.refl _) ⟨i + 1, _, by (try simp only); omega, by omega, rfl⟩ (by simp [intAt, go_sem]; omega)
        · skip
          repeat' (first | (refine ac_seq_h fun K hK => ?_) | (refine ac_region_h fun K hK => ?_; simp (disch := omega) [go_sem, *, ilt_false]) | (apply Hide.out hK; clear hK K; try with_reducible dsimp only [thenA]) | (apply Hide.out hf; clear ht hf Kt Kf) | (clear hK K; apply Hide.out hK; clear hK K; try with_reducible dsimp only [thenA]) | (refine ac_exit ?_; simp only [thenA, blockA, if_true]) | (refine ac_cond_h fun Kt Kf ht hf => ?_; simp (disch := omega) [go_sem, *]; try (refine ⟨fun hc => ?_, fun hc => ?_⟩ <;> try (exfalso; omega))))
          refine ac_ret ?_
          try dsimp only [thenA, blockA]
          refine ⟨by simp, _, (by first | rfl | (simp (disch := omega) [go_sem, upd_ne] <;> rfl)), ?_⟩
          exact ret_id ⟨fun x hx => g2.out x hx, by simp [go_sem, below, resVal], by rfl, by simp, by simp⟩
end Go.AM
namespace Go.AM
open Go.Proofs Cw Du
set_option maxRecDepth 10000
set_option maxHeartbeats 4000000
theorem wf_cpV {v : Ver} (hw : wfV v) : wfV (cpV v) := by
  obtain ⟨l1, l2, l3, o1, o2, o3, o4⟩ := hw
  have tcp : ∀ N c, tot c ≤ N → tot (cpC c) = tot c := by
    intro N
    induction N with
    | zero => intro c h; have := tot_pos c; omega
    | succ N ih =>
      intro c h
      obtain ⟨k, f, o, nn, nl, fu, s, ks⟩ := c
      simp only [tot] at h
      obtain ⟨a, b, d, e⟩ := cpC_mk k f o nn nl fu s ks
      rw [e]
      simp only [tot]
      have : ∀ l : List Cnd, totL l ≤ N → totL (cpCL l) = totL l := by
        intro l
        induction l with
        | nil => intro _; rfl
        | cons x r ih2 =>
          intro hl
          simp only [totL] at hl
          simp only [cpCL, totL]
          rw [ih x (by omega), ih2 (by omega)]
      rw [this ks (by omega)]
  have wcp : ∀ N c, tot c ≤ N → wf c → wf (cpC c) := by
    intro N
    induction N with
    | zero => intro c h; have := tot_pos c; omega
    | succ N ih =>
      intro c h hw
      obtain ⟨k, f, o, nn, nl, fu, s, ks⟩ := c
      simp only [tot] at h
      obtain ⟨h1, h2⟩ := hw
      rw [cpC]
      split
      · exact ⟨.inl rfl, trivial⟩
      · refine ⟨.inr ⟨rfl, rfl⟩, ?_⟩
        have : ∀ l : List Cnd, totL l ≤ N → wfL l → wfL (cpCL l) := by
          intro l
          induction l with
          | nil => intro _ _; exact trivial
          | cons x r ih2 =>
            intro hl hw
            simp only [totL] at hl
            exact ⟨ih x (by omega) hw.1, ih2 (by omega) hw.2⟩
        exact this ks (by omega) h2
  refine ⟨?_, ?_, by simpa [cpV] using l3, ?_, ?_, ?_, by simpa [cpV] using o4⟩
  · by_cases h : v.ls = []
    · exact .inl (by simp [cpV, h])
    · refine .inr ?_
      have : v.ls.isEmpty = false := by simpa using h
      simp [cpV, this]
  · intro x hx
    simp only [cpV] at hx
    obtain ⟨y, hy, rfl⟩ := List.mem_map.1 hx
    obtain ⟨q1, q2, q3, q4, q5⟩ := l2 y hy
    unfold cpL
    split
    · rename_i h
      exact ⟨.inl (by simpa using h), q2, q3, q4, q5⟩
    · exact ⟨.inr ⟨rfl, rfl⟩, q2, q3, q4, q5⟩
  · by_cases h : v.os = []
    · exact .inl (by simp [cpV, h])
    · refine .inr ?_
      have : v.os.isEmpty = false := by simpa using h
      simp [cpV, this]
  · intro o ho
    simp only [cpV] at ho
    obtain ⟨y, hy, rfl⟩ := List.mem_map.1 ho
    exact wcp _ _ (Nat.le_refl _) (o2 y hy)
  · intro o ho
    simp only [cpV] at ho
    obtain ⟨y, hy, rfl⟩ := List.mem_map.1 ho
    obtain ⟨q1, q2⟩ := o3 y hy
    exact ⟨by show tot (cpC y.cond) ≤ 900; rw [tcp _ _ (Nat.le_refl _)]; exact q1, q2⟩
theorem wf_zeroV : wfV zeroV := ⟨.inl rfl, fun x hx => by simp [zeroV] at hx, by simp [zeroV], .inl rfl, fun x hx => by simp [zeroV] at hx, fun x hx => by simp [zeroV] at hx, by simp [zeroV]⟩
theorem rsameV_spec (nl fu : Bool) (s : Nat) (vs : List Ver) (hnl : vs = [] ∨ nl = false ∧ s = 4) (nm fm : Bool) (z : Nat) (ws : List Ver) (hnm : ws = [] ∨ nm = false ∧ z = 4) (hw : ∀ v ∈ vs, wfV v) (hw2 : ∀ v ∈ ws, wfV v) (hl : vs.length ≤ 1000000) (he : vs.map sayV = ws.map sayV) :
    APure Tryz.prog 17 [.fslc nl fu s (vs.map encV), .fslc nm fm z (ws.map encV)] (bv true) := by
  intro h n
  have lV : ws.length = vs.length := by simpa using (congrArg List.length he).symm
  refine ACalls.pure (ACalls.entry (by kernel_rfl) fun hb _ => calls_of Tryz.func17 rfl (by kernel_rfl) (by simp [Tryz.ntmps17]) ?_)
  have hgl : ∀ i, i < vs.length → ∃ (x y : Ver) (p1 : i < (vs.map encV).length) (p2 : i < (ws.map encV).length), (vs.map encV)[i] = encV x ∧ (ws.map encV)[i] = encV y ∧ x.id = y.id ∧ x.fr = y.fr ∧ APure Tryz.prog 22 [.agg [.fslc x.nlL x.fuL x.sL (x.ls.map encLn), .fslc x.nlO x.fuO x.sO (x.os.map encO)], .agg [.fslc y.nlL y.fuL y.sL (y.ls.map encLn), .fslc y.nlO y.fuO y.sO (y.os.map encO)]] (bv true) ∧ (nl = false ∧ s = 4) ∧ (nm = false ∧ z = 4) := fun i hi => by
    obtain ⟨hi2, hs⟩ := map_get he hi
    simp only [sayV, Prod.mk.injEq] at hs
    obtain ⟨⟨e1, e2⟩, e3, e4⟩ := hs
    have w1 := hw _ (List.getElem_mem hi)
    have w2 := hw2 _ (List.getElem_mem hi2)
    exact ⟨vs[i], ws[i], by rw [List.length_map]; exact hi, by rw [List.length_map]; exact hi2, by rw [List.getElem_map], by rw [List.getElem_map], e1, e2, rsameW_spec _ _ _ _ _ _ _ _ _ _ _ _ _ _ _ _ w1.l1 w1.o1 w2.l1 w2.o1 w1.l3 w1.o4 (fun x hx => ⟨(w1.l2 x hx).1, by have := (w1.l2 x hx).2.1; omega⟩) (fun x hx => ⟨(w2.l2 x hx).1, by have := (w2.l2 x hx).2.1; omega⟩) w1.o2 w2.o2 (fun o ho => by have := (w1.o3 o ho).1; omega) e3 e4, hnl.resolve_left (fun e => by rw [e] at hi; simp at hi), hnm.resolve_left (fun e => by rw [e] at hi2; simp at hi2)⟩
  have lVm : (vs.map encV).length = vs.length := List.length_map _
  have lWm : (ws.map encV).length = vs.length := by rw [List.length_map, lV]
  generalize List.map encV vs = VV at *
  generalize List.map encV ws = WW at *
  replace hgl : Hide _ := hgl
  clear hnl hnm hw hw2 he lV
  repeat' (first | (refine ac_seq_h fun K hK => ?_) | (refine ac_region_h fun K hK => ?_; simp (disch := omega) [go_sem, *, Tryz.ntmps17]) | (apply Hide.out hK; clear hK K; try with_reducible dsimp only [thenA]) | (apply Hide.out hf; clear ht hf Kt Kf) | (refine ac_block ?_) | (refine ac_skip ?_; simp only [thenA]) | (refine ac_cond_h fun Kt Kf ht hf => ?_; simp (disch := omega) [go_sem, *]; try (refine ⟨fun hc => ?_, fun hc => ?_⟩ <;> try (exfalso; omega))))
  refine ac_loop_wk (fun s2 => ∃ (i n' : Nat), n ≤ n' ∧ i ≤ vs.length ∧ s2 = ⟨57, [(0, .fslc nl fu s VV), (1, .fslc nm fm z WW), (5, iv .i64 i)], h, n'⟩) (fun s2 => vs.length - (intAt s2 5).toNat) ?_ ?_
  · exact loop_start (by simp [go_sem]) (Sub.refl _) ⟨0, _, by (try simp only); omega, by omega, rfl⟩
  · rintro s2 ⟨i, n', hn', hi, rfl⟩
    by_cases hlt : i < vs.length
    · obtain ⟨x, y, p1, p2, ex, ey, q1, q2, kx, ⟨rfl, rfl⟩, rfl, rfl⟩ := hgl.out i hlt
      obtain ⟨x1, x2, x3, x4, x5, x6, x7, x8, x9, x10⟩ := x
      obtain ⟨y1, y2, y3, y4, y5, y6, y7, y8, y9, y10⟩ := y
      simp only at q1 q2
      subst q1; subst q2
      simp only [encV] at ex ey kx
      generalize List.map encLn x6 = A1 at *
      generalize List.map encLn y6 = A2 at *
      generalize List.map encO x10 = A3 at *
      generalize List.map encO y10 = A4 at *
      repeat' (first | (refine ac_seq_h fun K hK => ?_) | (refine ac_region_h fun K hK => ?_; simp (disch := omega) [go_sem, *, wrap64_id, ilt_true]) | (refine ac_draw_h mixed (by kernel_rfl) fun K hK => ?_; simp (disch := omega) [go_sem, *, ile_true]) | (apply Hide.out hK; clear hK K; try with_reducible dsimp only [thenA]) | (apply Hide.out ht; clear ht hf Kt Kf) | (apply Hide.out hf; clear ht hf Kt Kf) | (with_reducible refine APure.gcall (kx) ?_; try simp (disch := omega) [go_sem, *]) | (refine ac_block ?_) | (refine ac_skip ?_; simp only [thenA, blockA]) | (refine ac_cond_h fun Kt Kf ht hf => ?_; simp (disch := omega) [go_sem, *]; try (refine ⟨fun hc => ?_, fun hc => ?_⟩ <;> try (exfalso; omega))))
      exact round_end (by simp (disch := omega) [go_sem]) (Sub.refl _) ⟨i + 1, _, by (try simp only); omega, by omega, rfl⟩ (by simp [intAt, go_sem]; omega)
    · skip
      repeat' (first | (refine ac_seq_h fun K hK => ?_) | (refine ac_region_h fun K hK => ?_; simp (disch := omega) [go_sem, *, ilt_false]) | (apply Hide.out hK; clear hK K; try with_reducible dsimp only [thenA]) | (apply Hide.out hf; clear ht hf Kt Kf) | (clear hK K; apply Hide.out hK; clear hK K; try with_reducible dsimp only [thenA]) | (refine ac_exit ?_; simp only [thenA, blockA, if_true]) | (refine ac_cond_h fun Kt Kf ht hf => ?_; simp (disch := omega) [go_sem, *]; try (refine ⟨fun hc => ?_, fun hc => ?_⟩ <;> try (exfalso; omega))))
      exact zR
def shortV (vs : List Ver) : Bool := vs.all (fun v => fewW v.ls v.os) && (decide (vs.length ≤ 6) || decide (20 < vs.length) && decide (vs.length ≤ 40))
structure inV (v : Ver) : Prop where
  l1 : v.ls = [] ∨ v.nlL = false ∧ v.sL = 8
  l2 : ∀ x ∈ v.ls, wfLn x ∧ x.exc.length ≤ 9223372036854775807
  l3 : v.ls.length ≤ 9223372036854775807
  o1 : v.os = [] ∨ v.nlO = false ∧ v.sO = 7
  o2 : wfO v.os
  o4 : v.os.length ≤ 9223372036854775807
theorem short_spec (nl fu : Bool) (s : Nat) (vs : List Ver) (hnl : vs = [] ∨ nl = false ∧ s = 4) (hw : ∀ v ∈ vs, inV v) (hl : vs.length ≤ 9223372036854775807) : APure Tryz.prog 8 [.fslc nl fu s (vs.map encV)] (bv (shortV vs)) := by
  intro h n
  refine ACalls.pure (ACalls.entry (by kernel_rfl) fun hb _ => calls_of Tryz.func8 rfl (by kernel_rfl) (by simp [Tryz.ntmps8]) ?_)
  obtain ⟨T, hT⟩ : ∃ T, Hide (T = shortV vs) := ⟨_, rfl⟩
  rw [← hT.out]
  replace hnl : Hide _ := hnl
  have hkk : ∀ v ∈ vs, APure Tryz.prog 9 [.agg [.fslc v.nlL v.fuL v.sL (v.ls.map encLn), .fslc v.nlO v.fuO v.sO (v.os.map encO)]] (bv (fewW v.ls v.os)) := fun v hv => by
    have w := hw v hv
    exact few_spec v.nlL v.fuL v.sL v.ls w.l1 w.l2 w.l3 v.nlO v.fuO v.sO v.os w.o1 w.o2 w.o4
  replace hkk : Hide _ := hkk
  clear hw
  repeat' (first | (refine ac_seq_h fun K hK => ?_) | (refine ac_region_h fun K hK => ?_; simp (disch := omega) [go_sem, *, Tryz.ntmps8]) | (apply Hide.out hK; clear hK K; try with_reducible dsimp only [thenA]) | (refine ac_block ?_))
  refine ac_loop_wk (fun s' => ∃ (i n' : Nat), n ≤ n' ∧ i ≤ vs.length ∧ (∀ j x, j < i → vs[j]? = some x → fewW x.ls x.os = true) ∧ s' = ⟨30, [(0, .fslc nl fu s (vs.map encV)), (3, iv .i64 i)], h, n'⟩) (fun s' => vs.length - (intAt s' 3).toNat) ?_ ?_
  · exact loop_start (by simp [go_sem]) (Sub.refl _) ⟨0, _, by (try simp only); omega, by omega, fun j x hj => by omega, rfl⟩
  · rintro s' ⟨i, n', hn', hi, hall, rfl⟩
    replace hall : Hide _ := hall
    by_cases hlt : i < vs.length
    · obtain ⟨v, hv⟩ : ∃ v, vs[i] = v := ⟨_, rfl⟩
      have hmem : v ∈ vs := hv ▸ List.getElem_mem hlt
      have hne : vs ≠ [] := fun e => by rw [e] at hlt; simp at hlt
      obtain ⟨rfl, rfl⟩ := hnl.out.resolve_left hne
      have hvs : vs[i]? = some v := by rw [List.getElem?_eq_getElem hlt, hv]
      have hex : encV vs[i] = .agg [iv .i64 v.id, iv .i64 v.fr, .fslc v.nlL v.fuL v.sL (v.ls.map encLn), .fslc v.nlO v.fuO v.sO (v.os.map encO)] := by rw [hv]; rfl
      have k1 := hkk.out v hmem
      have hbad : fewW v.ls v.os = false → T = false := fun e => by
        rw [hT.out, shortV]
        have : vs.all (fun v => fewW v.ls v.os) = false := by
          rw [List.all_eq_false]; exact ⟨v, hmem, by rw [e]; simp⟩
        rw [this]; rfl
      have hgood : fewW v.ls v.os = true → Hide (∀ j x, j < i + 1 → vs[j]? = some x → fewW x.ls x.os = true) := fun e j x hj hx => by
        rcases Nat.lt_or_ge j i with h1 | h1
        · exact hall.out j x h1 hx
        · have : j = i := by omega
          subst this
          rw [hvs] at hx; cases hx; exact e
      obtain ⟨v1, v2, v3, v4, v5, v6, v7, v8, v9, v10⟩ := v
      simp only at hex k1 hbad hgood
      generalize List.map encLn v6 = LL at *
      generalize List.map encO v10 = OO at *
      generalize fewW v6 v10 = z at *
      replace hv : Hide _ := trivial
      replace hvs : Hide _ := trivial
      clear hmem hne
      cases z with
      | false =>
        have := hbad rfl
        subst this
        replace hgood : Hide _ := trivial
        clear hbad
        repeat' (first | (refine ac_seq_h fun K hK => ?_) | (refine ac_region_h fun K hK => ?_; simp (disch := omega) [go_sem, *, ilt_true, ile_true]) | (apply Hide.out hK; clear hK K; try with_reducible dsimp only [thenA]) | (apply Hide.out ht; clear ht hf Kt Kf) | (with_reducible refine APure.gcall (k1) ?_; try simp (disch := omega) [go_sem, *]) | (refine ac_block ?_) | (refine ac_skip ?_; simp only [thenA]) | (refine ac_cond_h fun Kt Kf ht hf => ?_; simp (disch := omega) [go_sem, *]; try (refine ⟨fun hc => ?_, fun hc => ?_⟩ <;> try (exfalso; omega))))
        exact zR
      | true =>
        have hg := hgood rfl
        replace hgood : Hide _ := trivial
        clear hbad
        repeat' (first | (refine ac_seq_h fun K hK => ?_) | (refine ac_region_h fun K hK => ?_; simp (disch := omega) [go_sem, *, wrap64_id, ilt_true, ile_true]) | (apply Hide.out hK; clear hK K; try with_reducible dsimp only [thenA]) | (apply Hide.out ht; clear ht hf Kt Kf) | (apply Hide.out hf; clear ht hf Kt Kf) | (with_reducible refine APure.gcall (k1) ?_; try simp (disch := omega) [go_sem, *]) | (refine ac_block ?_) | (refine ac_skip ?_; simp only [thenA, blockA]) | (refine ac_cond_h fun Kt Kf ht hf => ?_; simp (disch := omega) [go_sem, *]; try (refine ⟨fun hc => ?_, fun hc => ?_⟩ <;> try (exfalso; omega))))
        exact round_end (by simp (disch := omega) [go_sem]) (Sub.refl _) ⟨i + 1, _, by (try simp only); omega, by omega, hg.out, rfl⟩ (by simp [intAt, go_sem]; omega)
    · have ha : vs.all (fun v => fewW v.ls v.os) = true := by
        rw [List.all_eq_true]
        intro v hv
        obtain ⟨j, hj⟩ := List.getElem?_of_mem hv
        have := (List.getElem?_eq_some_iff.1 hj).1
        exact hall.out j v (by omega) hj
      have hTs : T = (decide (vs.length ≤ 6) || decide (20 < vs.length) && decide (vs.length ≤ 40)) := by rw [hT.out, shortV, ha, Bool.true_and]
      clear ha
      replace hall : Hide _ := trivial
      by_cases c1 : vs.length ≤ 6
      · rw [decide_eq_true c1, Bool.true_or] at hTs
        subst hTs
        repeat' (first | (refine ac_seq_h fun K hK => ?_) | (refine ac_region_h fun K hK => ?_; simp (disch := omega) [go_sem, *, ilt_false, ile_true]) | (apply Hide.out hK; clear hK K; try with_reducible dsimp only [thenA]) | (apply Hide.out hf; clear ht hf Kt Kf) | (clear hK K; apply Hide.out hK; clear hK K; try with_reducible dsimp only [thenA]) | (refine ac_exit ?_; simp only [thenA, blockA, if_true]) | (refine ac_cond_h fun Kt Kf ht hf => ?_; simp (disch := omega) [go_sem, *]; try (refine ⟨fun hc => ?_, fun hc => ?_⟩ <;> try (exfalso; omega))))
        exact zR
      · rw [decide_eq_false c1, Bool.false_or] at hTs
        by_cases c2 : 20 < vs.length
        · rw [decide_eq_true c2, Bool.true_and] at hTs
          by_cases c3 : vs.length ≤ 40
          · rw [decide_eq_true c3] at hTs
            subst hTs
            repeat' (first | (refine ac_seq_h fun K hK => ?_) | (refine ac_region_h fun K hK => ?_; simp (disch := omega) [go_sem, *, ilt_true, ilt_false, ile_true, ile_false]) | (apply Hide.out hK; clear hK K; try with_reducible dsimp only [thenA]) | (apply Hide.out hf; clear ht hf Kt Kf) | (clear hK K; apply Hide.out hK; clear hK K; try with_reducible dsimp only [thenA]) | (refine ac_exit ?_; simp only [thenA, blockA, if_true]) | (refine ac_cond_h fun Kt Kf ht hf => ?_; simp (disch := omega) [go_sem, *]; try (refine ⟨fun hc => ?_, fun hc => ?_⟩ <;> try (exfalso; omega))))
            exact zR
          · rw [decide_eq_false c3] at hTs
            subst hTs
            repeat' (first | (refine ac_seq_h fun K hK => ?_) | (refine ac_region_h fun K hK => ?_; simp (disch := omega) [go_sem, *, ilt_true, ilt_false, ile_false]) | (apply Hide.out hK; clear hK K; try with_reducible dsimp only [thenA]) | (apply Hide.out hf; clear ht hf Kt Kf) | (clear hK K; apply Hide.out hK; clear hK K; try with_reducible dsimp only [thenA]) | (refine ac_exit ?_; simp only [thenA, blockA, if_true]) | (refine ac_cond_h fun Kt Kf ht hf => ?_; simp (disch := omega) [go_sem, *]; try (refine ⟨fun hc => ?_, fun hc => ?_⟩ <;> try (exfalso; omega))))
            exact zR
        · rw [decide_eq_false c2, Bool.false_and] at hTs
          subst hTs
          repeat' (first | (refine ac_seq_h fun K hK => ?_) | (refine ac_region_h fun K hK => ?_; simp (disch := omega) [go_sem, *, ilt_false, ile_false]) | (apply Hide.out hK; clear hK K; try with_reducible dsimp only [thenA]) | (apply Hide.out hf; clear ht hf Kt Kf) | (clear hK K; apply Hide.out hK; clear hK K; try with_reducible dsimp only [thenA]) | (refine ac_exit ?_; simp only [thenA, blockA, if_true]) | (refine ac_cond_h fun Kt Kf ht hf => ?_; simp (disch := omega) [go_sem, *]; try (refine ⟨fun hc => ?_, fun hc => ?_⟩ <;> try (exfalso; omega))))
          exact zR
end Go.AM
