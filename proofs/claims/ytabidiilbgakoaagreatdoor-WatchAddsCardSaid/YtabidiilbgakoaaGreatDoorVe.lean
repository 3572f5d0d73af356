/- Check of a version and Add, by the program. Conditions: as each theorem says. -/
import Derived.Test.YtabidiilbgakoaaGreatDoorVd
namespace Go.AM
open Go.Proofs Cw Du
set_option maxRecDepth 10000
set_option maxHeartbeats 4000000
theorem stableV_ac (vs : List Ver) (v : Ver) (hs : srt vs) (hne : ∀ x ∈ vs, x.fr ≠ v.fr) (hl : vs.length ≤ 6) (m : Nat) (h : AHeap) (n : Nat) (hm : h m = some (.cells (fltV (vs ++ [v])))) (hmn : m < n) :
    ACalls Tryz.prog 100 [.slc m 0 (vs.length + 1) 4, iv .i64 ((vs.length + 1 : Nat) : Int), .func (.func 50) [] []] h n fun r h' n' => r = .tup [] ∧ n ≤ n' ∧ h' m = some (.cells (fltV (insV vs v))) ∧ ∀ x, x < n → x ≠ m → h' x = h x := by
  refine ACalls.entry (by kernel_rfl) fun hb _ => calls_of Tryz.func100 rfl (by kernel_rfl) (by simp [Tryz.ntmps100]) ?_
  have kI := fun N (hN : m < N) => insV_ac vs v hs hne (by omega) m h N hm hN
  replace kI : Hide _ := kI
  replace hne : Hide _ := hne
  replace hs : Hide _ := hs
  replace hm : Hide _ := hm
  repeat' (first | (refine ac_seq_h fun K hK => ?_) | (refine ac_region_h fun K hK => ?_; simp (disch := omega) [go_sem, *, Tryz.ntmps100]) | (apply Hide.out hK; clear hK K; try with_reducible dsimp only [thenA]) | (refine ac_block ?_))
  refine ac_loop_wk (fun s' => ∃ n', n ≤ n' ∧ s' = ⟨63, [(0, .slc m 0 (vs.length + 1) 4), (1, iv .i64 ((vs.length + 1 : Nat) : Int)), (2, .func (.func 50) [] []), (6, iv .i64 20), (7, iv .i64 0), (8, iv .i64 20)], h, n'⟩) (fun s' => 0) ?_ ?_
  · exact loop_start (by simp [go_sem]) (Sub.refl _) ⟨_, by (try simp only); omega, rfl⟩
  · rintro s' ⟨n', hn', rfl⟩
    repeat' (first | (refine ac_seq_h fun K hK => ?_) | (refine ac_region_h fun K hK => ?_; simp (disch := omega) [go_sem, *, ile_false]) | (apply Hide.out hK; clear hK K; try with_reducible dsimp only [thenA]) | (apply Hide.out hf; clear ht hf Kt Kf) | (clear hK K; apply Hide.out hK; clear hK K; try with_reducible dsimp only [thenA]) | (refine ac_exit ?_; simp only [thenA, blockA, if_true]) | (refine ac_cond_h fun Kt Kf ht hf => ?_; simp (disch := omega) [go_sem, *]; try (refine ⟨fun hc => ?_, fun hc => ?_⟩ <;> try (exfalso; omega))))
    refine .inl ((kI.out _ (by omega)).mono fun r h2 n2 hp => ?_)
    obtain ⟨rfl, p1, p2, p3⟩ := hp
    replace p2 : Hide _ := p2
    replace p3 : Hide _ := p3
    repeat' (first | (apply Hide.out hK; clear hK K; try with_reducible dsimp only [thenA]) | (refine ac_block ?_))
    refine ac_loop_wk (fun s' => ∃ n', n2 ≤ n' ∧ s' = ⟨63, [(1, iv .i64 ((vs.length + 1 : Nat) : Int)), (6, iv .i64 20)], h2, n'⟩) (fun s' => 0) ?_ ?_
    · exact loop_start (by simp [go_sem]) (Sub.refl _) ⟨_, by (try simp only); omega, rfl⟩
    · rintro s' ⟨n3, hn3, rfl⟩
      repeat' (first | (refine ac_seq_h fun K hK => ?_) | (refine ac_region_h fun K hK => ?_; simp (disch := omega) [go_sem, *, ilt_false]) | (apply Hide.out hK; clear hK K; try with_reducible dsimp only [thenA]) | (apply Hide.out hf; clear ht hf Kt Kf) | (refine ac_exit ?_; simp only [thenA, blockA, if_true]) | (refine ac_cond_h fun Kt Kf ht hf => ?_; simp (disch := omega) [go_sem, *]; try (refine ⟨fun hc => ?_, fun hc => ?_⟩ <;> try (exfalso; omega))))
      refine ⟨by simp, _, (by first | rfl | (simp (disch := omega) [go_sem, upd_ne] <;> rfl)), ?_⟩
      exact ret_id ⟨rfl, by (try simp only [put]); omega, p2.out, fun x h1 h2 => p3.out x (by omega) h2⟩
theorem sortStV_ac (vs : List Ver) (v : Ver) (hs : srt vs) (hne : ∀ x ∈ vs, x.fr ≠ v.fr) (hl : vs.length ≤ 6) (m : Nat) (h : AHeap) (n : Nat) (hm : h m = some (.cells (fltV (vs ++ [v])))) (hmn : m < n) :
    ACalls Tryz.prog 49 [.slc m 0 (vs.length + 1) 4, .func (.func 50) [] []] h n fun r h' n' => r = .tup [] ∧ n ≤ n' ∧ h' m = some (.cells (fltV (insV vs v))) ∧ ∀ x, x < n → x ≠ m → h' x = h x := by
  refine ACalls.entry (by kernel_rfl) fun hb _ => calls_of Tryz.func49 rfl (by kernel_rfl) (by simp [Tryz.ntmps49]) ?_
  have kI := fun N (hN : m < N) => stableV_ac vs v hs hne hl m h N hm hN
  replace kI : Hide _ := kI
  replace hne : Hide _ := hne
  replace hs : Hide _ := hs
  replace hm : Hide _ := hm
  repeat' (first | (refine ac_region_h fun K hK => ?_; simp (disch := omega) [go_sem, *, Tryz.ntmps49]))
  refine .inl ((kI.out _ (by omega)).mono fun r h2 n2 hp => ?_)
  obtain ⟨rfl, p1, p2, p3⟩ := hp
  replace p2 : Hide _ := p2
  replace p3 : Hide _ := p3
  repeat' (first | (apply Hide.out hK; clear hK K; try with_reducible dsimp only [thenA]))
  refine ⟨by simp, _, (by first | rfl | (simp (disch := omega) [go_sem, upd_ne] <;> rfl)), ?_⟩
  exact ret_id ⟨rfl, by (try simp only [put]); omega, p2.out, fun x h1 h2 => p3.out x (by omega) h2⟩
end Go.AM
namespace Go.AM
open Go.Proofs Cw Du
set_option maxRecDepth 10000
set_option maxHeartbeats 4000000
def vsF (L : List Ver) : AV := if L = [] then .fslc true true 0 [] else .fslc false false 4 (L.map encV)
theorem ap_clV (nm m : Nat) (nl : Bool) (vs : List Ver) (v : Ver) (h : AHeap) (b c : Bool) (hm : h m = acO (vs.map encV)) (hl : vs.length ≤ 1000) :
    aAppend Tryz.prog nm 22 (clV 4 m nl (vs.map encV)) (.fslc b c 4 [encV v]) h = some (.slc nm 0 (vs.length + 1) 4, (h.upd m none).upd nm (some (.cells (fltV (vs ++ [v]))))) := by
  by_cases h0 : vs = []
  · subst h0
    have : h m = none := hm
    rw [upd_none_eq this]
    cases nl <;> simp [clV, aAppend, eltOf22, szOf28, byOf28, zerOf28, srcCells, cellsOf, AV.scalar, flat, fltV, encV]
  · have h1 : vs.map encV ≠ [] := by simpa using h0
    rw [acO_ne h1] at hm
    have hfl := fltV_len vs
    have hlt : ¬ (vs.length + 1) * 4 ≤ vs.length * 4 := by omega
    have e : fltV (vs ++ [v]) = fltV vs ++ cellsOf (encV v) := by simp [fltV, flat]
    have e2 : (flat (vs.map encV)).length = vs.length * 4 := hfl
    have h3 : vs.length + 1 ≤ 67108864 := by omega
    rw [clV, if_neg h1, List.length_map, e]
    simp [aAppend, eltOf22, szOf28, byOf28, zerOf28, srcCells, cellsOf, AV.scalar, hm, e2, hlt, h3]
    simp [fltV, encV, flat, cellsOf]
theorem elemsV (L : List Ver) : elems true 4 L.length (flat (L.map encV)) = L.map encV := by
  have := elems_flat (s := 4) (L.map encV) (fun x hx => by obtain ⟨y, _, rfl⟩ := List.mem_map.1 hx; exact ⟨_, rfl, rfl⟩)
  rwa [List.length_map] at this
theorem Add_spec (nl fu : Bool) (s : Nat) (vs : List Ver) (v : Ver) (hnl : vs = [] ∨ nl = false ∧ s = 4) (hw : ∀ v ∈ vs, wfV v) (hv : wfV v) (h6 : vs.length ≤ 6 ∨ 20 < vs.length) (hl : vs.length ≤ 1000) :
    APure Tryz.prog 13 [.fslc nl fu s (vs.map encV), encV v] (.tup [vsF ((addV vs v).1.map cpV), iv .i64 (addV vs v).2]) := by
  intro h n
  have k1 := cv_spec nl fu s vs hnl hw (by omega)
  have k2 := containsV 47 [.fptr [iv .i64 v.id, iv .i64 v.fr, .fslc v.nlL v.fuL v.sL (v.ls.map encLn), .fslc v.nlO v.fuO v.sO (v.os.map encO)]] (fun x => decide (x.id = v.id) || decide (x.fr = v.fr)) nl fu s vs (fun x _ => add1_spec v x) hnl (by omega)
  have kC := cloneVr nl fu s vs hnl (by omega)
  refine ACalls.pure (ACalls.entry (by kernel_rfl) fun hb hbel => calls_of Tryz.func13 rfl (by kernel_rfl) (by simp [Tryz.ntmps13]) ?_)
  obtain ⟨T, hT⟩ : ∃ T, Hide (T = addV vs v) := ⟨_, rfl⟩
  rw [← hT.out]
  have hT1 := hT.out
  rw [addV, clashV] at hT1
  replace hT : Hide _ := trivial
  have eV : encV v = .agg [iv .i64 v.id, iv .i64 v.fr, .fslc v.nlL v.fuL v.sL (v.ls.map encLn), .fslc v.nlO v.fuO v.sO (v.os.map encO)] := rfl
  by_cases h1 : (chkV vs).1 = 0
  · rw [if_neg (by simpa using h1)] at hT1
    rw [h1] at k1
    obtain ⟨h20, herr⟩ := chkV_zero h1
    have hs := chkV_srt h1
    have h6 : vs.length ≤ 6 := by omega
    rw [eV]
    replace hnl : Hide _ := hnl
    replace hw : Hide _ := hw
    replace hv : Hide _ := hv
    replace kC : Hide _ := kC
    replace hs : Hide _ := hs
    replace herr : Hide _ := herr
    replace h1 : Hide _ := h1
    replace eV : Hide _ := eV
    generalize (chkV vs).2 = e2 at *
    obtain ⟨VL, hVL⟩ : ∃ VL, v.ls.map encLn = VL := ⟨_, rfl⟩
    obtain ⟨VO, hVO⟩ : ∃ VO, v.os.map encO = VO := ⟨_, rfl⟩
    rw [hVL, hVO] at k2
    rw [hVL, hVO]
    replace hVL : Hide _ := hVL
    replace hVO : Hide _ := hVO
    cases hcl : (vs.any fun x => decide (x.id = v.id) || decide (x.fr = v.fr)) with
    | true =>
      rw [hcl, if_pos rfl] at hT1
      rw [hcl] at k2
      subst hT1
      replace hcl : Hide _ := trivial
      generalize List.map encV vs = VV at *
      replace kC : Hide _ := trivial
      iterate 4 (first | (refine ac_seq_h fun K hK => ?_) | (refine ac_region_h fun K hK => ?_; simp (disch := omega) [go_sem, *, Tryz.ntmps13]) | (apply Hide.out hK; clear hK K; try with_reducible dsimp only [thenA]))
      refine ac_fzbox (t := 3) (m := n) (c := [iv .i64 v.id, iv .i64 v.fr, .fslc v.nlL v.fuL v.sL VL, .fslc v.nlO v.fuO v.sO VO]) (upd_same _ _ _) (by simp [go_sem]) ?_
      dsimp only
      repeat' (first | (refine ac_seq_h fun K hK => ?_) | (refine ac_region_h fun K hK => ?_; simp (disch := omega) [go_sem, *]) | (apply Hide.out hK; clear hK K; try with_reducible dsimp only [thenA]) | (apply Hide.out ht; clear ht hf Kt Kf) | (apply Hide.out hf; clear ht hf Kt Kf) | (with_reducible refine APure.gcall (k1) ?_; try simp (disch := omega) [go_sem, *]) | (with_reducible refine APure.gcall (k2) ?_; try simp (disch := omega) [go_sem, *]) | (refine ac_skip ?_; simp only [thenA]) | (refine ac_cond_h fun Kt Kf ht hf => ?_; simp (disch := omega) [go_sem, *]; try (refine ⟨fun hc => ?_, fun hc => ?_⟩ <;> try (exfalso; omega))))
      (refine ac_ret ?_; try dsimp only [thenA, blockA]; refine ⟨by simp, _, (by first | rfl | (simp (disch := omega) [go_sem, upd_ne] <;> rfl)), ?_⟩; refine ret_id ⟨fun k hk => (by first | rfl | (repeat rw [upd_ne _ _ _ _ (by omega)])), (by simp [go_sem, below, belowL]), (by simp [go_sem, vsF] <;> omega), by simp, by simp⟩)
    | false =>
      rw [hcl, if_neg (by simp)] at hT1
      rw [hcl] at k2
      replace hT1 : Hide _ := hT1
      replace hcl : Hide _ := hcl
      iterate 4 (first | (refine ac_seq_h fun K hK => ?_) | (refine ac_region_h fun K hK => ?_; simp (disch := omega) [go_sem, *, Tryz.ntmps13]) | (apply Hide.out hK; clear hK K; try with_reducible dsimp only [thenA]))
      refine ac_fzbox (t := 3) (m := n) (c := [iv .i64 v.id, iv .i64 v.fr, .fslc v.nlL v.fuL v.sL VL, .fslc v.nlO v.fuO v.sO VO]) (upd_same _ _ _) (by simp [go_sem]) ?_
      dsimp only
      repeat' (first | (refine ac_seq_h fun K hK => ?_) | (refine ac_region_h fun K hK => ?_; simp (disch := omega) [go_sem, *]) | (apply Hide.out hK; clear hK K; try with_reducible dsimp only [thenA]) | (apply Hide.out hf; clear ht hf Kt Kf) | (with_reducible refine APure.gcall (k1) ?_; try simp (disch := omega) [go_sem, *]) | (with_reducible refine APure.gcall (k2) ?_; try simp (disch := omega) [go_sem, *]) | (refine ac_skip ?_; simp only [thenA]) | (refine ac_cond_h fun Kt Kf ht hf => ?_; simp (disch := omega) [go_sem, *]; try (refine ⟨fun hc => ?_, fun hc => ?_⟩ <;> try (exfalso; omega))))
      clear k1 k2
      refine ac_draw3_h [3] mixed (by kernel_rfl) (fun x hx => by simp at hx; subst hx; exact ⟨_, by simp [go_sem]; rfl⟩) fun K hK => ?_
      simp (disch := omega) [go_sem, *]
      refine .inl ((kC.out _ _).mono fun r h2 n2 hp => ?_)
      obtain ⟨mC, m1, m2, rfl, m3, m4⟩ := hp
      have hap := fun nm b c => ap_clV nm mC nl vs v h2 b c m3 (by omega)
      rw [eV.out, hVL.out, hVO.out] at hap
      have hfr : ∀ x, x < n → h2 x = h x := fun x hx => by rw [m4 _ (by omega)]; simp (disch := omega) only [upd_ne]
      replace hfr : Hide _ := hfr
      replace m3 : Hide _ := trivial
      replace m4 : Hide _ := trivial
      generalize clV 4 mC nl (vs.map encV) = CL at *
      simp (disch := omega) [go_sem, *]
      replace hap : Hide _ := trivial
      have hne : ∀ x ∈ vs, x.fr ≠ v.fr := fun x hx e => by
        have := hcl.out
        rw [List.any_eq_false] at this
        have := this x hx
        simp [e] at this
      refine hK.out _ ?_
      clear hK K
      have kS := fun N hN => sortStV_ac vs v hs.out hne (by omega) (n + 3 + 7 + 2 + 3 + 4) ((h2.upd mC none).upd (n + 3 + 7 + 2 + 3 + 4) (some (.cells (fltV (vs ++ [v]))))) N (upd_same _ _ _) hN
      replace kS : Hide _ := kS
      generalize hH3 : (h2.upd mC none).upd (n + 3 + 7 + 2 + 3 + 4) (some (.cells (fltV (vs ++ [v])))) = H3 at *
      have hfr3 : ∀ x, x < n → H3 x = h x := fun x hx => by rw [← hH3]; simp (disch := omega) only [upd_ne]; exact hfr.out x hx
      replace hfr3 : Hide _ := hfr3
      replace hH3 : Hide _ := trivial
      repeat' (first | (refine ac_seq_h fun K hK => ?_) | (refine ac_region_h fun K hK => ?_; simp (disch := omega) [go_sem, *]) | (apply Hide.out hK; clear hK K; try with_reducible dsimp only [thenA]))
      refine .inl ((kS.out _ (by omega)).mono fun r h4 n4 hp => ?_)
      obtain ⟨rfl, p1, p2, p3⟩ := hp
      have hfr4 : ∀ x, x < n → h4 x = h x := fun x hx => by rw [p3 x (by omega) (by omega)]; exact hfr3.out x hx
      replace hfr4 : Hide _ := hfr4
      replace p3 : Hide _ := trivial
      replace kS : Hide _ := trivial
      replace p2 : Hide _ := p2
      simp (disch := omega) [go_sem]
      iterate 2 (first | (apply Hide.out hK; clear hK K; try with_reducible dsimp only [thenA]))
      obtain ⟨W, hW⟩ : ∃ W, insV vs v = W := ⟨_, rfl⟩
      have hWl : W.length = vs.length + 1 := by rw [← hW]; exact insV_len vs v
      have hWw : ∀ x ∈ W, wfV x := fun x hx => by
        rw [← hW] at hx
        rcases mem_insV hx with rfl | hx
        · exact hv.out
        · exact hw.out x hx
      have hT1 := hT1.out
      rw [hW] at hT1
      have p2 := p2.out
      rw [hW] at p2
      replace hW : Hide _ := trivial
      have hW0 : W ≠ [] := fun e => by rw [e] at hWl; simp at hWl
      have k3 := cv_spec false false 4 W (.inr ⟨rfl, rfl⟩) hWw (by omega)
      have kcp := fun x hx => copied_spec x (hWw x hx)
      replace hWw : Hide _ := hWw
      replace kcp : Hide _ := kcp
      replace hW0 : Hide _ := hW0
      have hWe : (W.map encV).isEmpty = false := by simpa using hW0.out
      refine ac_fzac (t := 8) (m := n + 3 + 7 + 2 + 3 + 4) (s := 4) (L := W.map encV) true (fun h => by cases h) (by rw [acO_ne (by simpa using hW0.out)]; exact p2) (by rw [acV_ne (by simpa using hW0.out), List.length_map, hWl]; simp [go_sem]) (fun x hx => by obtain ⟨y, _, rfl⟩ := List.mem_map.1 hx; rfl) (by simpa using elemsV W) ?_
      dsimp only
      rw [hWe]
      replace hWe : Hide _ := trivial
      have hfr5 : ∀ x, x < n → (h4.upd (n + 3 + 7 + 2 + 3 + 4) none) x = h x := fun x hx => by rw [upd_ne _ _ _ _ (by omega)]; exact hfr4.out x hx
      have h50 : (h4.upd (n + 3 + 7 + 2 + 3 + 4) none) (n + 3 + 7 + 2 + 3 + 4) = none := upd_same _ _ _
      generalize h4.upd (n + 3 + 7 + 2 + 3 + 4) none = H5 at *
      replace h50 : Hide _ := h50
      replace hfr5 : Hide _ := hfr5
      replace p2 : Hide _ := trivial
      have hWn : W.length ≤ 1000 := by omega
      replace hWl : Hide _ := hWl
      generalize (chkV W).2 = e3 at *
      by_cases hc : (chkV W).1 = 0
      · rw [if_neg (by simpa using hc)] at hT1
        subst hT1
        rw [hc] at k3
        replace hc : Hide _ := hc
        repeat' (first | (refine ac_seq_h fun K hK => ?_) | (refine ac_region_h fun K hK => ?_; simp (disch := omega) [go_sem, *]) | (apply Hide.out hK; clear hK K; try with_reducible dsimp only [thenA]) | (apply Hide.out hf; clear ht hf Kt Kf) | (with_reducible refine APure.gcall (k3) ?_; try simp (disch := omega) [go_sem, *]) | (refine ac_block ?_) | (refine ac_skip ?_; simp only [thenA]) | (refine ac_cond_h fun Kt Kf ht hf => ?_; simp (disch := omega) [go_sem, *]; try (refine ⟨fun hc => ?_, fun hc => ?_⟩ <;> try (exfalso; omega))))
        refine ac_loop_wk (fun s' => ∃ (i n5 mo : Nat) (H : AHeap), n + 1 ≤ n5 ∧ n < mo ∧ mo < n5 ∧ i ≤ W.length ∧ H mo = acO (((W.take i).map cpV).map encV) ∧ (∀ x, x < n → H x = h x) ∧ s' = ⟨53, [(11, acV 4 mo (((W.take i).map cpV).map encV)), (40, .fslc false false 4 (W.map encV)), (41, iv .i64 W.length), (42, iv .i64 i)], H, n5⟩) (fun s' => W.length - (intAt s' 42).toNat) ?_ ?_
        · exact loop_start (by simp [go_sem, acV]) (Sub.refl _) ⟨0, _, n + 3 + 7 + 2 + 3 + 4, _, by (try simp only); omega, by omega, by (try simp only); omega, by omega, h50.out, hfr5.out, rfl⟩
        · rintro s' ⟨i, n5, mo, H, q1, q2, q3, hi, g0, g1, rfl⟩
          replace g1 : Hide _ := g1
          by_cases hlt : i < W.length
          · obtain ⟨x, hx⟩ : ∃ x, W[i] = x := ⟨_, rfl⟩
            have hxm : x ∈ W := hx ▸ List.getElem_mem hlt
            have kx := kcp.out x hxm
            have hex : encV W[i] = .agg [iv .i64 x.id, iv .i64 x.fr, .fslc x.nlL x.fuL x.sL (x.ls.map encLn), .fslc x.nlO x.fuO x.sO (x.os.map encO)] := by rw [hx]; rfl
            have htk : ((W.take (i + 1)).map cpV).map encV = ((W.take i).map cpV).map encV ++ [encV (cpV x)] := by rw [List.take_succ_eq_append_getElem hlt, hx]; simp
            have hap := fun nm b c H (hm : H mo = acO (((W.take i).map cpV).map encV)) => ap_ac (P := Tryz.prog) (T := 22) (e := 28) (s := 4) (by_ := 64) (z := .agg [iv .i64 0, iv .i64 0, .fslc true true 0 [], .fslc true true 0 []]) eltOf22 szOf28 byOf28 zerOf28 (by simp [cellsOf, AV.scalar]) (nm := nm) (m := mo) (L := ((W.take i).map cpV).map encV) (X := [encV (cpV x)]) (nl := b) (full := c) (h := H) hm (fun y hy => by obtain ⟨z, _, rfl⟩ := List.mem_map.1 hy; rfl) (by simp) (by simp; omega)
            rw [← htk] at hap
            obtain ⟨NL, hNL⟩ : ∃ NL, ((W.take (i + 1)).map cpV).map encV = NL := ⟨_, rfl⟩
            rw [hNL] at hap
            replace hNL : Hide _ := hNL
            replace hap : Hide _ := hap
            replace htk : Hide _ := trivial
            replace hx : Hide _ := trivial
            have hcp : ∃ b1 b2 b3 L b4 b5 b6 O, encV (cpV x) = .agg [iv .i64 x.id, iv .i64 x.fr, .fslc b1 b2 b3 L, .fslc b4 b5 b6 O] := ⟨_, _, _, _, _, _, _, _, rfl⟩
            obtain ⟨b1, b2, b3, L, b4, b5, b6, O, hcp⟩ := hcp
            rw [hcp] at kx hap
            rw [show encV x = .agg [iv .i64 x.id, iv .i64 x.fr, .fslc x.nlL x.fuL x.sL (x.ls.map encLn), .fslc x.nlO x.fuO x.sO (x.os.map encO)] from rfl] at kx
            replace hcp : Hide _ := trivial
            obtain ⟨x1, x2, x3, x4, x5, x6, x7, x8, x9, x10⟩ := x
            simp only at hex kx hap
            generalize List.map encLn x6 = LL at *
            generalize List.map encO x10 = OO at *
            generalize acV 4 mo (((W.take i).map cpV).map encV) = AO at *
            repeat' (first | (refine ac_seq_h fun K hK => ?_) | (refine ac_region_h fun K hK => ?_; simp (disch := omega) [go_sem, *, ilt_true, ile_true]) | (apply Hide.out hK; clear hK K; try with_reducible dsimp only [thenA]) | (apply Hide.out ht; clear ht hf Kt Kf) | (with_reducible refine APure.gcall (kx) ?_; try simp (disch := omega) [go_sem, *]) | (refine ac_block ?_) | (refine ac_skip ?_; simp only [thenA]) | (refine ac_cond_h fun Kt Kf ht hf => ?_; simp (disch := omega) [go_sem, *]; try (refine ⟨fun hc => ?_, fun hc => ?_⟩ <;> try (exfalso; omega))))
            rw [hap.out _ _ _ _ (by simp (disch := omega) only [upd_ne]; exact g0)]
            replace hap : Hide _ := trivial
            simp (disch := omega) [go_sem, *]
            repeat' (first | (refine ac_region_h fun K hK => ?_; simp (disch := omega) [go_sem, *, wrap64_id]) | (apply Hide.out hK; clear hK K; try with_reducible dsimp only [thenA]))
            rw [← hNL.out]
            refine round_end (by simp (disch := omega) [go_sem]) (Sub.refl _) ⟨i + 1, _, n5 + 1 + 4 + 4, _, by (try simp only); omega, by omega, by (try simp only); omega, by omega, upd_same _ _ _, fun x hx => ?_, rfl⟩ (by simp [intAt, go_sem]; omega)
            simp (disch := omega) only [upd_ne]; exact g1.out x hx
          · have hii : i = W.length := by omega
            subst hii
            rw [List.take_length] at g0 ⊢
            have hne' : (W.map cpV).map encV ≠ [] := by simpa using hW0.out
            have hcl : (W.map cpV).length = W.length := List.length_map _
            rw [acO_ne hne'] at g0
            rw [acV_ne hne']
            have hel := elemsV (W.map cpV)
            have hfl := fltV_len (W.map cpV)
            have hbl : ∀ k, belowL k ((W.map cpV).map encV) := fun k => by rw [belowL_iff]; intro y hy; obtain ⟨z, _, rfl⟩ := List.mem_map.1 hy; exact below_encV k z
            have hvs : vsF (W.map cpV) = .fslc false false 4 ((W.map cpV).map encV) := by rw [vsF, if_neg (by simpa using hW0.out)]
            rw [hcl] at hel hfl
            rw [List.length_map, hcl]
            unfold fltV at hfl
            generalize (W.map cpV).map encV = R at *
            replace hel : Hide _ := hel
            replace hfl : Hide _ := hfl
            replace hbl : Hide _ := hbl
            replace hvs : Hide _ := hvs
            replace hne' : Hide _ := trivial
            replace hcl : Hide _ := trivial
            replace g0 : Hide _ := g0
            repeat' (first | (refine ac_seq_h fun K hK => ?_) | (refine ac_region_h fun K hK => ?_; simp (disch := omega) [go_sem, *]) | (apply Hide.out hK; clear hK K; try with_reducible dsimp only [thenA]) | (apply Hide.out hf; clear ht hf Kt Kf) | (clear hK K; apply Hide.out hK; clear hK K; try with_reducible dsimp only [thenA]) | (refine ac_exit ?_; simp only [thenA, blockA, if_true]) | (refine ac_cond_h fun Kt Kf ht hf => ?_; simp (disch := omega) [go_sem, *]; try (refine ⟨fun hc => ?_, fun hc => ?_⟩ <;> try (exfalso; omega))))
            refine ac_ret ?_
            try dsimp only [thenA, blockA]
            refine ⟨by simp, _, (by first | rfl | (simp (disch := omega) [go_sem, upd_ne] <;> rfl)), ?_⟩
            show RetOk _ _ (resVal [AV.slc mo 0 W.length 4, .c (.int .i64 0)]) _ _
            refine ret_freeze true (m := mo) (c := flat R) g0.out ?_
            have ef : fzT mo (flat R) true (resVal [AV.slc mo 0 W.length 4, .c (.int .i64 0)]) = .tup [.fslc false false 4 R, iv .i64 0] := by
              simp only [resVal, fzT, List.map_cons, List.map_nil, iv, fz]
              rw [if_pos ⟨trivial, by rw [hfl.out]; omega, by simp⟩, List.drop_zero, hel.out]
            rw [ef]
            refine ret_id ⟨fun x hx => ?_, ?_, ?_, by simp, by simp⟩
            · rw [upd_ne _ _ _ _ (by omega)]; exact g1.out x hx
            · simp [below, belowL, hbl.out]
            · show _ = AV.tup [vsF (W.map cpV), iv .i64 0]
              rw [hvs.out]
      · rw [if_pos (by simpa using hc)] at hT1
        subst hT1
        generalize (chkV W).1 = e4 at *
        have hne4 : (e4 != 0) = true := by simpa using hc
        replace hc : Hide _ := trivial
        repeat' (first | (refine ac_seq_h fun K hK => ?_) | (refine ac_region_h fun K hK => ?_; simp (disch := omega) [go_sem, *]) | (apply Hide.out hK; clear hK K; try with_reducible dsimp only [thenA]) | (apply Hide.out ht; clear ht hf Kt Kf) | (with_reducible refine APure.gcall (k3) ?_; try simp (disch := omega) [go_sem, *]) | (refine ac_cond_h fun Kt Kf ht hf => ?_; simp (disch := omega) [go_sem, *]; try (refine ⟨fun hc => ?_, fun hc => ?_⟩ <;> try (exfalso; omega))))
        refine ac_ret ?_
        try dsimp only [thenA, blockA]
        refine ⟨by simp, _, (by first | rfl | (simp (disch := omega) [go_sem, upd_ne] <;> rfl)), ?_⟩
        exact ret_id ⟨fun x hx => hfr5.out x hx, by simp [go_sem, below, belowL, resVal], by simp [go_sem, vsF, resVal], by simp, by simp⟩
  · rw [if_pos (by simpa using h1)] at hT1
    subst hT1
    rw [eV]
    replace eV : Hide _ := trivial
    generalize (chkV vs).2 = e2 at *
    generalize (chkV vs).1 = e1 at *
    have hne : (e1 != 0) = true := by simpa using h1
    replace h1 : Hide _ := trivial
    replace kC : Hide _ := trivial
    clear k2
    generalize List.map encV vs = VV at *
    generalize List.map encLn v.ls = VL at *
    generalize List.map encO v.os = VO at *
    repeat' (first | (refine ac_seq_h fun K hK => ?_) | (refine ac_region_h fun K hK => ?_; simp (disch := omega) [go_sem, *, Tryz.ntmps13 ]) | (apply Hide.out hK; clear hK K; try with_reducible dsimp only [thenA]) | (apply Hide.out ht; clear ht hf Kt Kf) | (with_reducible refine APure.gcall (k1) ?_; try simp (disch := omega) [go_sem, * ]) | (refine ac_cond_h fun Kt Kf ht hf => ?_; simp (disch := omega) [go_sem, * ]; try (refine ⟨fun hc => ?_, fun hc => ?_⟩ <;> try (exfalso; omega))))
    (refine ac_ret ?_; try dsimp only [thenA, blockA]; refine ⟨by simp, _, (by first | rfl | (simp (disch := omega) [go_sem, upd_ne] <;> rfl)), ?_⟩; refine ret_id ⟨fun k hk => (by first | rfl | (repeat rw [upd_ne _ _ _ _ (by omega)])), (by simp [go_sem, below, belowL]), (by simp [go_sem, vsF] <;> omega), by simp, by simp⟩)
end Go.AM
