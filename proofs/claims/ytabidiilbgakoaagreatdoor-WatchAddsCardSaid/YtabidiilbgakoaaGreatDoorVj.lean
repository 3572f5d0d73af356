/- The law WatchAdds, walked. Conditions: as each theorem says. -/
import Derived.Test.YtabidiilbgakoaaGreatDoorVi
namespace Go.AM
open Go.Proofs Cw Du
set_option maxRecDepth 10000
set_option maxHeartbeats 4000000
mutual
theorem ok_cp : ∀ c : Cnd, ok (cpC c) = ok c
  | .mk k f o n nl fu s ks => by
    rw [cpC]
    split
    · rename_i h
      have : ks = [] := by simpa using h
      subst this; rfl
    · rw [ok, ok, okL_cp ks, cpCL_len]
theorem okL_cp : ∀ l : List Cnd, okL (cpCL l) = okL l
  | [] => rfl
  | c :: r => by rw [cpCL, okL, okL, ok_cp c, okL_cp r]
end
mutual
theorem tot_cp : ∀ c : Cnd, tot (cpC c) = tot c
  | .mk k f o n nl fu s ks => by
    rw [cpC]
    split
    · rename_i h
      have : ks = [] := by simpa using h
      subst this; rfl
    · rw [tot, tot, totL_cp ks]
theorem totL_cp : ∀ l : List Cnd, totL (cpCL l) = totL l
  | [] => rfl
  | c :: r => by rw [cpCL, totL, totL, tot_cp c, totL_cp r]
end
mutual
theorem dep_cp : ∀ c : Cnd, dep (cpC c) = dep c
  | .mk k f o n nl fu s ks => by
    rw [cpC]
    split
    · rename_i h
      have : ks = [] := by simpa using h
      subst this; rfl
    · rw [dep, dep, depL_cp ks]
theorem depL_cp : ∀ l : List Cnd, depL (cpCL l) = depL l
  | [] => rfl
  | c :: r => by rw [cpCL, depL, depL, dep_cp c, depL_cp r]
end
theorem chk_cp (v : Ver) : (cpV v).chk = v.chk := by
  have h1 : (v.ls.map cpL).all lineOk = v.ls.all lineOk := by
    rw [List.all_map]
    refine List.all_congr rfl fun l => ?_
    show lineOk (cpL l) = lineOk l
    unfold cpL; split <;> rfl
  have h2 : (v.os.map cpO).all ordOk = v.os.all ordOk := by
    rw [List.all_map]
    refine List.all_congr rfl fun o => ?_
    show ordOk (cpO o) = ordOk o
    simp only [ordOk, cpO, Cw.formed, ok_cp, tot_cp, dep_cp]
  show chkW (v.ls.map cpL) (v.os.map cpO) = chkW v.ls v.os
  unfold chkW
  rw [List.length_map, List.length_map, h1, h2]
theorem errV_cp (vs : List Ver) (i : Nat) (v : Ver) : errV (vs.map cpV) i (cpV v) = errV vs i v := by
  unfold errV
  have h1 : (((vs.map cpV)[i - 1]?).map Ver.fr).getD 0 = ((vs[i - 1]?).map Ver.fr).getD 0 := by
    rw [List.getElem?_map]
    cases vs[i - 1]? <;> rfl
  have h2 : ((vs.map cpV).take i).any (fun x => decide (x.id = (cpV v).id)) = (vs.take i).any (fun x => decide (x.id = v.id)) := by
    rw [← List.map_take, List.any_map]; rfl
  rw [h1, h2, chk_cp]; rfl
theorem goV_cp (vs : List Ver) : ∀ k i, goV (vs.map cpV) k i = goV vs k i
  | 0, _ => rfl
  | k + 1, i => by
    rw [goV, goV, List.getElem?_map]
    cases vs[i]? with
    | none => rfl
    | some v => simp only [Option.map_some, errV_cp, goV_cp vs k (i + 1)]
theorem chkV_cp (vs : List Ver) : chkV (vs.map cpV) = chkV vs := by
  unfold chkV; rw [List.length_map, goV_cp]
theorem inF_cp (vs : List Ver) (day : Int) : inF (vs.map cpV) day = (inF vs day).map cpV := by
  unfold inF
  rw [List.filter_map, List.getLast?_map]; rfl
theorem force_cpV (vs : List Ver) (day : Int) : (forceV (vs.map cpV) day).2 = (forceV vs day).2 ∧ sayV (forceV (vs.map cpV) day).1 = sayV (forceV vs day).1 ∧ (forceV (vs.map cpV) day).1.id = (forceV vs day).1.id := by
  unfold forceV
  rw [chkV_cp, inF_cp]
  split
  · exact ⟨rfl, rfl, rfl⟩
  · split
    · exact ⟨rfl, rfl, rfl⟩
    · cases inF vs day with
      | none => exact ⟨rfl, rfl, rfl⟩
      | some v => exact ⟨rfl, say_cpV v, rfl⟩
def nxV (vs : List Ver) (v : Ver) : Nat → Int
  | 0 => 401
  | i + 1 => match vs[i]? with
    | some x => if v.fr < x.fr then min (nxV vs v i) x.fr else nxV vs v i
    | none => nxV vs v i
theorem nxV_lt (vs : List Ver) (v : Ver) (day : Int) : ∀ i, day < nxV vs v i ↔ day < 401 ∧ ∀ j x, j < i → vs[j]? = some x → v.fr < x.fr → day < x.fr
  | 0 => by simp [nxV]
  | i + 1 => by
    have ih := nxV_lt vs v day i
    rw [nxV]
    constructor
    · intro h
      cases hx : vs[i]? with
      | none =>
        rw [hx] at h
        obtain ⟨h1, h2⟩ := ih.1 h
        refine ⟨h1, fun j x hj hxj hlt => ?_⟩
        rcases Nat.lt_or_ge j i with h3 | h3
        · exact h2 j x h3 hxj hlt
        · have : j = i := by omega
          subst this; rw [hx] at hxj; cases hxj
      | some y =>
        rw [hx] at h
        simp only at h
        have h0 : day < nxV vs v i := by split at h <;> omega
        obtain ⟨h1, h2⟩ := ih.1 h0
        refine ⟨h1, fun j x hj hxj hlt => ?_⟩
        rcases Nat.lt_or_ge j i with h3 | h3
        · exact h2 j x h3 hxj hlt
        · have : j = i := by omega
          subst this; rw [hx] at hxj; cases hxj
          rw [if_pos hlt] at h; omega
    · rintro ⟨h1, h2⟩
      have h0 := ih.2 ⟨h1, fun j x hj => h2 j x (by omega)⟩
      cases hx : vs[i]? with
      | none => exact h0
      | some y =>
        simp only
        split
        · rename_i hlt
          have := h2 i y (by omega) hx hlt
          omega
        · exact h0
theorem addV_ok {vs : List Ver} {v : Ver} (h : (addV vs v).2 = 0) : (addV vs v).1 = insV vs v ∧ (chkV vs).1 = 0 ∧ (∀ x ∈ vs, x.fr ≠ v.fr) ∧ (chkV (insV vs v)).1 = 0 := by
  unfold addV at h ⊢
  split at h
  · rename_i h1; exact absurd h h1
  · rename_i h1
    split at h
    · cases h
    · rename_i h2
      split at h
      · rename_i h3; exact absurd h h3
      · rename_i h3
        rw [if_neg h1, if_neg h2, if_neg h3]
        refine ⟨rfl, by simpa using h1, fun x hx e => ?_, by simpa using h3⟩
        rw [clashV] at h2
        exact h2 (List.any_eq_true.2 ⟨x, hx, by simp [e]⟩)
theorem forceV_eq {vs : List Ver} (h : (chkV vs).1 = 0) (day : Int) : forceV vs day = if wi day 0 400 = false then (zeroV, (1 : Int)) else match inF vs day with
    | some v => (v, (0 : Int))
    | none => (zeroV, (5 : Int)) := by
  unfold forceV; rw [h]; rfl
theorem adds_law {vs : List Ver} {v : Ver} {day : Int} (h : (addV vs v).2 = 0) :
    (v.fr ≤ day → day < nxV vs v vs.length → forceV (addV vs v).1 day = (v, 0)) ∧ (¬ (v.fr ≤ day ∧ day < nxV vs v vs.length) → forceV (addV vs v).1 day = forceV vs day) := by
  obtain ⟨e, c1, hne, c2⟩ := addV_ok h
  have hs := chkV_srt c1
  obtain ⟨f1, f2⟩ := force_ins (day := day) hs hne
  have hmem : ∀ x ∈ vs, ∃ j, j < vs.length ∧ vs[j]? = some x := fun x hx => by
    obtain ⟨j, hj⟩ := List.getElem?_of_mem hx
    exact ⟨j, (List.getElem?_eq_some_iff.1 hj).1, hj⟩
  have hv0 : 0 ≤ v.fr := by
    obtain ⟨_, c3⟩ := chkV_zero c2
    have hvm : v ∈ insV vs v := by rw [insV]; simp
    obtain ⟨j, hj⟩ := List.getElem?_of_mem hvm
    have := (errV_zero (c3 j v hj)).2.1
    simp [wi] at this
    exact this.1
  rw [e, forceV_eq c1, forceV_eq c2]
  refine ⟨fun h1 h2 => ?_, fun h1 => ?_⟩
  · obtain ⟨h3, h4⟩ := (nxV_lt vs v day vs.length).1 h2
    have hwi : wi day 0 400 = true := by
      simp only [wi, Bool.and_eq_true, decide_eq_true_eq]; omega
    rw [hwi, f1 h1 fun x hx hlt => by obtain ⟨j, hj, hjx⟩ := hmem x hx; exact h4 j x hj hjx hlt]
    rfl
  · cases hwi : wi day 0 400 with
    | false => rfl
    | true =>
      simp only [wi, Bool.and_eq_true, decide_eq_true_eq] at hwi
      rw [f2]
      by_cases h2 : day < v.fr
      · exact .inl h2
      · refine .inr ?_
        have h3 : ¬ day < nxV vs v vs.length := fun h => h1 ⟨by omega, h⟩
        rw [nxV_lt] at h3
        have h4 : ¬ ∀ j x, j < vs.length → vs[j]? = some x → v.fr < x.fr → day < x.fr := fun h => h3 ⟨by omega, h⟩
        false_or_by_contra
        rename_i h5
        refine h4 fun j x hj hjx hlt => ?_
        false_or_by_contra
        rename_i h6
        exact h5 ⟨x, List.mem_of_getElem? hjx, hlt, by omega⟩
theorem WatchAdds_spec (nl : Bool) (vs : List Ver) (v : Ver) (hnl : vs = [] ∨ nl = false ∧ 4 = 4) (hw : ∀ v ∈ vs, inV v) (hl : vs.length ≤ 9223372036854775807) (hv : inV v) (day : Int) :
    APure Tryz.prog 4 [.fslc nl false 4 (vs.map encV), encV v, iv .i64 day] (bv true) := by
  intro h n
  have k0 := short_spec nl false 4 vs hnl hw hl
  have k8 := few_spec v.nlL v.fuL v.sL v.ls hv.l1 hv.l2 hv.l3 v.nlO v.fuO v.sO v.os hv.o1 hv.o2 hv.o4
  have k9 := Go.Proofs.SAN.sanity_ok
  refine ACalls.pure (ACalls.entry (by kernel_rfl) fun hb _ => calls_of Tryz.func4 rfl (by kernel_rfl) (by simp [Tryz.ntmps4]) ?_)
  have eV : encV v = .agg [iv .i64 v.id, iv .i64 v.fr, .fslc v.nlL v.fuL v.sL (v.ls.map encLn), .fslc v.nlO v.fuO v.sO (v.os.map encO)] := rfl
  cases hf : shortV vs with
  | false =>
    rw [hf] at k0
    rw [eV]
    clear k8 eV hf hnl hw hl hv
    generalize List.map encV vs = VV at *
    generalize List.map encLn v.ls = VL at *
    generalize List.map encO v.os = VO at *
    repeat' (first | (refine ac_seq_h fun K hK => ?_) | (refine ac_region_h fun K hK => ?_; simp (disch := omega) [go_sem, *, Tryz.ntmps4 ]) | (apply Hide.out hK; clear hK K; try with_reducible dsimp only [thenA]) | (apply Hide.out ht; clear ht hf Kt Kf) | (with_reducible refine APure.gcall (k0) ?_; try simp (disch := omega) [go_sem, * ]) | (with_reducible refine APure.gcall (k9) ?_; try simp (disch := omega) [go_sem, * ]) | (refine ac_cond_h fun Kt Kf ht hf => ?_; simp (disch := omega) [go_sem, * ]; try (refine ⟨fun hc => ?_, fun hc => ?_⟩ <;> try (exfalso; omega))))
    exact zR
  | true =>
    rw [hf] at k0
    cases hg : fewW v.ls v.os with
    | false =>
      rw [hg] at k8
      rw [eV]
      clear eV hf hnl hw hl hv hg
      generalize List.map encV vs = VV at *
      generalize List.map encLn v.ls = VL at *
      generalize List.map encO v.os = VO at *
      repeat' (first | (refine ac_seq_h fun K hK => ?_) | (refine ac_region_h fun K hK => ?_; simp (disch := omega) [go_sem, *, Tryz.ntmps4 ]) | (apply Hide.out hK; clear hK K; try with_reducible dsimp only [thenA]) | (apply Hide.out ht; clear ht hf Kt Kf) | (with_reducible refine APure.gcall (k0) ?_; try simp (disch := omega) [go_sem, * ]) | (with_reducible refine APure.gcall (k8) ?_; try simp (disch := omega) [go_sem, * ]) | (with_reducible refine APure.gcall (k9) ?_; try simp (disch := omega) [go_sem, * ]) | (refine ac_cond_h fun Kt Kf ht hf => ?_; simp (disch := omega) [go_sem, * ]; try (refine ⟨fun hc => ?_, fun hc => ?_⟩ <;> try (exfalso; omega))))
      exact zR
    | true =>
      rw [hg] at k8
      obtain ⟨w1, w2, w3⟩ := short_sm hf hw
      have w4 := in_wf hg hv
      have k3 := Add_spec nl false 4 vs v hnl w1 w4 w2 (by omega)
      by_cases he : (addV vs v).2 = 0
      · obtain ⟨L1, L2⟩ := adds_law (day := day) he
        obtain ⟨e1, _, _, _⟩ := addV_ok he
        have hAl : (addV vs v).1.length = vs.length + 1 := by rw [e1]; exact insV_len vs v
        have wA : ∀ x ∈ (addV vs v).1, wfV x := fun x hx => by
          rcases addV_mem hx with rfl | hx
          · exact w4
          · exact w1 x hx
        generalize (addV vs v).1 = W at *
        have hW0 : W.map cpV ≠ [] := fun e => by have := congrArg List.length e; rw [List.length_map, hAl] at this; simp at this
        have wC : ∀ x ∈ W.map cpV, wfV x := fun x hx => by obtain ⟨y, hy, rfl⟩ := List.mem_map.1 hx; exact wf_cpV (wA y hy)
        rw [he, vsF, if_neg hW0] at k3
        have k5 := InForce_spec nl false 4 vs hnl w1 (by omega) day
        have k6 := InForce_spec false false 4 (W.map cpV) (.inr ⟨rfl, rfl⟩) wC (by rw [List.length_map]; omega) day
        obtain ⟨p1, p2, p3⟩ := force_cpV W day
        obtain ⟨f1, f2, f3⟩ := force_cp vs day w1
        obtain ⟨g1, g2, g3⟩ := force_cp (W.map cpV) day wC
        have hin : v.fr ≤ day → day < nxV vs v vs.length → (forceV (W.map cpV) day).2 = 0 ∧ (cpz (forceV (W.map cpV) day).1 (forceV (W.map cpV) day).2).id = v.id := fun a b => by
          have := L1 a b
          rw [this] at p1 p3
          refine ⟨p1, ?_⟩
          rw [p1, cpz, if_pos rfl]
          exact p3
        have hout : ¬ (v.fr ≤ day ∧ day < nxV vs v vs.length) → (forceV (W.map cpV) day).2 = (forceV vs day).2 ∧ APure Tryz.prog 17 [.fslc false false 4 [encV (cpz (forceV vs day).1 (forceV vs day).2)], .fslc false false 4 [encV (cpz (forceV (W.map cpV) day).1 (forceV (W.map cpV) day).2)]] (bv true) := fun a => by
          rw [L2 a] at p1 p2
          refine ⟨p1, ?_⟩
          have := rsameV_spec false false 4 [cpz (forceV vs day).1 (forceV vs day).2] (.inr ⟨rfl, rfl⟩) false false 4 [cpz (forceV (W.map cpV) day).1 (forceV (W.map cpV) day).2] (.inr ⟨rfl, rfl⟩) (fun x hx => by rw [List.mem_singleton] at hx; subst hx; exact f3) (fun x hx => by rw [List.mem_singleton] at hx; subst hx; exact g3) (by simp) (by rw [List.map_singleton, List.map_singleton, f1, g1, p2])
          exact this
        have hCl : ((W.map cpV).map encV).length = vs.length + 1 := by rw [List.length_map, List.length_map]; exact hAl
        have hnb : nxV vs v vs.length ≤ 401 ∧ ∀ i, nxV vs v i ≤ 401 := by
          have : ∀ i, nxV vs v i ≤ 401 := fun i => by
            induction i with
            | zero => exact Int.le_refl _
            | succ i ih => rw [nxV]; split
                           · split <;> omega
                           · exact ih
          exact ⟨this _, this⟩
        generalize List.map encV (W.map cpV) = C1 at *
        generalize cpz (forceV vs day).1 (forceV vs day).2 = B1 at *
        generalize (forceV vs day).2 = e2 at *
        generalize cpz (forceV (W.map cpV) day).1 (forceV (W.map cpV) day).2 = B2 at *
        generalize (forceV (W.map cpV) day).2 = e3 at *
        rw [eV] at k3 ⊢
        replace hin : Hide _ := hin
        replace hout : Hide _ := hout
        have hnl := hnl
        replace hnl : Hide _ := hnl
        clear hf hg hw hl hv w1 w2 w4 f1 f2 f3 g1 g2 g3 p1 p2 p3 wA wC hW0 hAl e1 he L1 L2
        replace eV : Hide _ := trivial
        generalize List.map encLn v.ls = VL at *
        generalize List.map encO v.os = VO at *
        obtain ⟨x1, x2, x3, x4, x5, x6, x7, x8, x9, x10⟩ := B1
        obtain ⟨y1, y2, y3, y4, y5, y6, y7, y8, y9, y10⟩ := B2
        simp only [encV] at k5 k6 hout
        simp only at hin
        generalize List.map encLn x6 = X1 at *
        generalize List.map encO x10 = X2 at *
        generalize List.map encLn y6 = Y1 at *
        generalize List.map encO y10 = Y2 at *
        replace hnb : Hide _ := hnb
        repeat' (first | (refine ac_seq_h fun K hK => ?_) | (refine ac_region_h fun K hK => ?_; simp (disch := omega) [go_sem, *, Tryz.ntmps4 ]) | (apply Hide.out hK; clear hK K; try with_reducible dsimp only [thenA]) | (apply Hide.out hf; clear ht hf Kt Kf) | (with_reducible refine APure.gcall (k0) ?_; try simp (disch := omega) [go_sem, * ]) | (with_reducible refine APure.gcall (k8) ?_; try simp (disch := omega) [go_sem, * ]) | (with_reducible refine APure.gcall (k3) ?_; try simp (disch := omega) [go_sem, * ]) | (refine ac_block ?_) | (refine ac_skip ?_; simp only [thenA]) | (refine ac_cond_h fun Kt Kf ht hf => ?_; simp (disch := omega) [go_sem, * ]; try (refine ⟨fun hc => ?_, fun hc => ?_⟩ <;> try (exfalso; omega))))
        clear k0 k8 k3
        refine ac_loop_wk (fun s' => ∃ (i n' : Nat) (H : AHeap), n + 1 ≤ n' ∧ i ≤ vs.length ∧ H n = some (.cells [iv .i64 v.id, iv .i64 v.fr, .fslc v.nlL v.fuL v.sL VL, .fslc v.nlO v.fuO v.sO VO]) ∧ (∀ x, x < n → H x = h x) ∧ s' = ⟨109, [(0, .fslc nl false 4 (vs.map encV)), (2, iv .i64 day), (4, .ptr n 0), (7, .fslc false false 4 C1), (9, iv .i64 (nxV vs v i)), (10, iv .i64 i)], H, n'⟩) (fun s' => vs.length - (intAt s' 10).toNat) ?_ ?_
        · exact loop_start (by simp [go_sem, nxV]) (Sub.refl _) ⟨0, _, _, by (try simp only); omega, by omega, by simp (disch := omega) only [upd_same], fun x hx => by simp (disch := omega) only [upd_ne], rfl⟩
        · rintro s' ⟨i, n', H, hn', hi, g0, g1, rfl⟩
          replace g1 : Hide _ := g1
          by_cases hlt : i < vs.length
          · obtain ⟨x, hx⟩ : ∃ x, vs[i] = x := ⟨_, rfl⟩
            have hne : vs ≠ [] := fun e => by rw [e] at hlt; simp at hlt
            obtain ⟨rfl, _⟩ := hnl.out.resolve_left hne
            have hxs : vs[i]? = some x := by rw [List.getElem?_eq_getElem hlt, hx]
            have hex : encV vs[i] = .agg [iv .i64 x.id, iv .i64 x.fr, .fslc x.nlL x.fuL x.sL (x.ls.map encLn), .fslc x.nlO x.fuO x.sO (x.os.map encO)] := by rw [hx]; rfl
            have hst : nxV vs v (i + 1) = if v.fr < x.fr then min (nxV vs v i) x.fr else nxV vs v i := by rw [nxV, hxs]
            replace hx : Hide _ := trivial
            replace hxs : Hide _ := trivial
            clear hne
            obtain ⟨x1, x2, x3, x4, x5, x6, x7, x8, x9, x10⟩ := x
            simp only at hex hst
            generalize List.map encLn x6 = LL at *
            generalize List.map encO x10 = OO at *
            generalize nxV vs v i = z at *
            replace hst : Hide _ := hst
            by_cases hc : v.fr < x2
            · have hst2 := hst.out
              rw [if_pos hc] at hst2
              replace hst2 : Hide _ := hst2
              repeat' (first | (refine ac_seq_h fun K hK => ?_) | (refine ac_region_h fun K hK => ?_; simp (disch := omega) [go_sem, *, wrap64_id, ilt_true, ile_true]) | (refine ac_draw_h mixed (by kernel_rfl) fun K hK => ?_; simp (disch := omega) [go_sem, *, ile_true]) | (apply Hide.out hK; clear hK K; try with_reducible dsimp only [thenA]) | (apply Hide.out ht; clear ht hf Kt Kf) | (refine ac_block ?_) | (refine ac_skip ?_; simp only [thenA]) | (refine ac_cond_h fun Kt Kf ht hf => ?_; simp (disch := omega) [go_sem, *]; try (refine ⟨fun hc => ?_, fun hc => ?_⟩ <;> try (exfalso; omega))))
              exact round_end (by simp (disch := omega) [go_sem, hst2.out]) (Sub.refl _) ⟨i + 1, _, _, by (try simp only); omega, by omega, g0, g1.out, rfl⟩ (by simp [intAt, go_sem]; omega)
            · have hst2 := hst.out
              rw [if_neg hc] at hst2
              replace hst2 : Hide _ := hst2
              repeat' (first | (refine ac_seq_h fun K hK => ?_) | (refine ac_region_h fun K hK => ?_; simp (disch := omega) [go_sem, *, wrap64_id, ilt_true]) | (refine ac_draw_h mixed (by kernel_rfl) fun K hK => ?_; simp (disch := omega) [go_sem, *, ile_true]) | (apply Hide.out hK; clear hK K; try with_reducible dsimp only [thenA]) | (apply Hide.out ht; clear ht hf Kt Kf) | (apply Hide.out hf; clear ht hf Kt Kf) | (refine ac_block ?_) | (refine ac_skip ?_; simp only [thenA, blockA]) | (refine ac_cond_h fun Kt Kf ht hf => ?_; simp (disch := omega) [go_sem, *]; try (refine ⟨fun hc => ?_, fun hc => ?_⟩ <;> try (exfalso; omega))))
              exact round_end (by simp (disch := omega) [go_sem, hst2.out]) (Sub.refl _) ⟨i + 1, _, _, by (try simp only); omega, by omega, g0, g1.out, rfl⟩ (by simp [intAt, go_sem]; omega)
          · have hii : i = vs.length := by omega
            subst hii
            by_cases hc : v.fr ≤ day ∧ day < nxV vs v vs.length
            · obtain ⟨hc1, hc2⟩ := hc
              obtain ⟨r1, r2⟩ := hin.out hc1 hc2
              replace hin : Hide _ := trivial
              replace hout : Hide _ := trivial
              generalize nxV vs v vs.length = nx at *
              subst r1
              subst r2
              repeat' (first | (refine ac_seq_h fun K hK => ?_) | (refine ac_region_h fun K hK => ?_; simp (disch := omega) [go_sem, *, upd_ne]) | (apply Hide.out hK; clear hK K; try with_reducible dsimp only [thenA]) | (apply Hide.out ht; clear ht hf Kt Kf) | (apply Hide.out hf; clear ht hf Kt Kf) | (clear hK K; apply Hide.out hK; clear hK K; try with_reducible dsimp only [thenA]) | (with_reducible refine APure.gcall (k5) ?_; try simp (disch := omega) [go_sem, *]) | (with_reducible refine APure.gcall (k6) ?_; try simp (disch := omega) [go_sem, *]) | (with_reducible refine APure.gcall (k9) ?_; try simp (disch := omega) [go_sem, *, upd_ne]) | (refine ac_exit ?_; simp only [thenA, blockA, if_true]) | (refine ac_cond_h fun Kt Kf ht hf => ?_; simp (disch := omega) [go_sem, *]; try (refine ⟨fun hc => ?_, fun hc => ?_⟩ <;> try (exfalso; omega))))
              refine ac_ret ?_
              try dsimp only [thenA, blockA]
              refine ⟨by simp, _, (by first | rfl | (simp (disch := omega) [go_sem, upd_ne] <;> rfl)), ?_⟩
              exact ret_id ⟨fun x hx => by simp (disch := omega) only [upd_ne]; exact g1.out x hx, by simp [go_sem, below, resVal], by simp [go_sem, resVal], by simp, by simp⟩
            · obtain ⟨r1, r2⟩ := hout.out hc
              replace hin : Hide _ := trivial
              replace hout : Hide _ := trivial
              generalize nxV vs v vs.length = nx at *
              subst r1
              by_cases hc1 : v.fr ≤ day
              · have hc2 : nx ≤ day := by
                  have : ¬ day < nx := fun h => hc ⟨hc1, h⟩
                  omega
                replace hc : Hide _ := trivial
                repeat' (first | (refine ac_seq_h fun K hK => ?_) | (refine ac_region_h fun K hK => ?_; simp (disch := omega) [go_sem, *, upd_ne, ilt_false]) | (apply Hide.out hK; clear hK K; try with_reducible dsimp only [thenA]) | (apply Hide.out hf; clear ht hf Kt Kf) | (clear hK K; apply Hide.out hK; clear hK K; try with_reducible dsimp only [thenA]) | (with_reducible refine APure.gcall (k5) ?_; try simp (disch := omega) [go_sem, *]) | (with_reducible refine APure.gcall (k6) ?_; try simp (disch := omega) [go_sem, *]) | (with_reducible refine APure.gcall (k9) ?_; try simp (disch := omega) [go_sem, *, upd_ne]) | (with_reducible refine APure.gcall (r2) ?_; try simp (disch := omega) [go_sem, *, wrap64_id]) | (refine ac_skip ?_; simp only [thenA]) | (refine ac_exit ?_; simp only [thenA, blockA, if_true]) | (refine ac_cond_h fun Kt Kf ht hf => ?_; simp (disch := omega) [go_sem, *]; try (refine ⟨fun hc => ?_, fun hc => ?_⟩ <;> try (exfalso; omega))))
                refine ac_ret ?_
                try dsimp only [thenA, blockA]
                refine ⟨by simp, _, (by first | rfl | (simp (disch := omega) [go_sem, upd_ne] <;> rfl)), ?_⟩
                exact ret_id ⟨fun x hx => by simp (disch := omega) only [upd_ne]; exact g1.out x hx, by simp [go_sem, below, resVal], by simp [go_sem, resVal], by simp, by simp⟩
              · replace hc : Hide _ := trivial
                repeat' (first | (refine ac_seq_h fun K hK => ?_) | (refine ac_region_h fun K hK => ?_; simp (disch := omega) [go_sem, *, upd_ne]) | (apply Hide.out hK; clear hK K; try with_reducible dsimp only [thenA]) | (apply Hide.out hf; clear ht hf Kt Kf) | (clear hK K; apply Hide.out hK; clear hK K; try with_reducible dsimp only [thenA]) | (with_reducible refine APure.gcall (k5) ?_; try simp (disch := omega) [go_sem, *]) | (with_reducible refine APure.gcall (k6) ?_; try simp (disch := omega) [go_sem, *]) | (with_reducible refine APure.gcall (k9) ?_; try simp (disch := omega) [go_sem, *, upd_ne]) | (with_reducible refine APure.gcall (r2) ?_; try simp (disch := omega) [go_sem, *, wrap64_id]) | (refine ac_skip ?_; simp only [thenA]) | (refine ac_exit ?_; simp only [thenA, blockA, if_true]) | (refine ac_cond_h fun Kt Kf ht hf => ?_; simp (disch := omega) [go_sem, *]; try (refine ⟨fun hc => ?_, fun hc => ?_⟩ <;> try (exfalso; omega))))
                refine ac_ret ?_
                try dsimp only [thenA, blockA]
                refine ⟨by simp, _, (by first | rfl | (simp (disch := omega) [go_sem, upd_ne] <;> rfl)), ?_⟩
                exact ret_id ⟨fun x hx => by simp (disch := omega) only [upd_ne]; exact g1.out x hx, by simp [go_sem, below, resVal], by simp [go_sem, resVal], by simp, by simp⟩
      · have hne : ((addV vs v).2 != 0) = true := by simpa using he
        rw [eV] at k3 ⊢
        obtain ⟨a1, s1, q1, q2⟩ := vsF_is ((addV vs v).1.map cpV)
        rw [q1] at k3
        generalize (addV vs v).2 = e1 at *
        generalize List.map encV ((addV vs v).1.map cpV) = A1 at *
        clear eV hf hnl hw hl hv hg w1 w2 w3 w4 q1 q2 he
        generalize List.map encV vs = VV at *
        generalize List.map encLn v.ls = VL at *
        generalize List.map encO v.os = VO at *
        repeat' (first | (refine ac_seq_h fun K hK => ?_) | (refine ac_region_h fun K hK => ?_; simp (disch := omega) [go_sem, *, Tryz.ntmps4 ]) | (apply Hide.out hK; clear hK K; try with_reducible dsimp only [thenA]) | (apply Hide.out ht; clear ht hf Kt Kf) | (apply Hide.out hf; clear ht hf Kt Kf) | (with_reducible refine APure.gcall (k0) ?_; try simp (disch := omega) [go_sem, * ]) | (with_reducible refine APure.gcall (k8) ?_; try simp (disch := omega) [go_sem, * ]) | (with_reducible refine APure.gcall (k9) ?_; try simp (disch := omega) [go_sem, * ]) | (with_reducible refine APure.gcall (k3) ?_; try simp (disch := omega) [go_sem, * ]) | (refine ac_skip ?_; simp only [thenA]) | (refine ac_cond_h fun Kt Kf ht hf => ?_; simp (disch := omega) [go_sem, * ]; try (refine ⟨fun hc => ?_, fun hc => ?_⟩ <;> try (exfalso; omega))))
        exact zR
end Go.AM
