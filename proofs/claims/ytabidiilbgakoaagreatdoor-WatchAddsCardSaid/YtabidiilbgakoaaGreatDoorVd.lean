/- Insertion sort of versions. Conditions: as each theorem says. -/
import Derived.Test.YtabidiilbgakoaaGreatDoorVc
namespace Go.AM
open Go.Proofs Cw Du
set_option maxRecDepth 10000
set_option maxHeartbeats 4000000
theorem cmpI_spec (a b : Int) : APure Tryz.prog 51 [iv .i64 a, iv .i64 b] (iv .i64 (if a < b then -1 else if b < a then 1 else 0)) := by
  intro h n
  have kn : ∀ x : Int, APure Tryz.prog 101 [iv .i64 x] (bv false) := fun x => by
    intro h n
    refine ACalls.pure (ACalls.entry (by kernel_rfl) fun hb _ => calls_of Tryz.func101 rfl (by kernel_rfl) (by simp [Tryz.ntmps101]) ?_)
    repeat' (first | (refine ac_seq_h fun K hK => ?_) | (refine ac_region_h fun K hK => ?_; simp (disch := omega) [go_sem, *, Tryz.ntmps101]) | (apply Hide.out hK; clear hK K; try with_reducible dsimp only [thenA]))
    exact zR
  have k1 := kn a
  have k2 := kn b
  refine ACalls.pure (ACalls.entry (by kernel_rfl) fun hb _ => calls_of Tryz.func51 rfl (by kernel_rfl) (by simp [Tryz.ntmps51]) ?_)
  by_cases h1 : a < b
  · rw [if_pos h1]
    repeat' (first | (refine ac_seq_h fun K hK => ?_) | (refine ac_region_h fun K hK => ?_; simp (disch := omega) [go_sem, *, Tryz.ntmps51 ]) | (apply Hide.out hK; clear hK K; try with_reducible dsimp only [thenA]) | (apply Hide.out ht; clear ht hf Kt Kf) | (apply Hide.out hf; clear ht hf Kt Kf) | (with_reducible refine APure.gcall (k1) ?_; try simp (disch := omega) [go_sem, * ]) | (with_reducible refine APure.gcall (k2) ?_; try simp (disch := omega) [go_sem, * ]) | (refine ac_skip ?_; simp only [thenA]) | (refine ac_cond_h fun Kt Kf ht hf => ?_; simp (disch := omega) [go_sem, * ]; try (refine ⟨fun hc => ?_, fun hc => ?_⟩ <;> try (exfalso; omega))))
    exact zR
  · rw [if_neg h1]
    by_cases h2 : b < a
    · rw [if_pos h2]
      repeat' (first | (refine ac_seq_h fun K hK => ?_) | (refine ac_region_h fun K hK => ?_; simp (disch := omega) [go_sem, *, Tryz.ntmps51 ]) | (apply Hide.out hK; clear hK K; try with_reducible dsimp only [thenA]) | (apply Hide.out ht; clear ht hf Kt Kf) | (apply Hide.out hf; clear ht hf Kt Kf) | (with_reducible refine APure.gcall (k1) ?_; try simp (disch := omega) [go_sem, * ]) | (with_reducible refine APure.gcall (k2) ?_; try simp (disch := omega) [go_sem, * ]) | (refine ac_skip ?_; simp only [thenA]) | (refine ac_cond_h fun Kt Kf ht hf => ?_; simp (disch := omega) [go_sem, * ]; try (refine ⟨fun hc => ?_, fun hc => ?_⟩ <;> try (exfalso; omega))))
      exact zR
    · rw [if_neg h2]
      have e : a = b := by omega
      subst e
      repeat' (first | (refine ac_seq_h fun K hK => ?_) | (refine ac_region_h fun K hK => ?_; simp (disch := omega) [go_sem, *, Tryz.ntmps51 ]) | (apply Hide.out hK; clear hK K; try with_reducible dsimp only [thenA]) | (apply Hide.out hf; clear ht hf Kt Kf) | (with_reducible refine APure.gcall (k1) ?_; try simp (disch := omega) [go_sem, * ]) | (refine ac_skip ?_; simp only [thenA]) | (refine ac_cond_h fun Kt Kf ht hf => ?_; simp (disch := omega) [go_sem, * ]; try (refine ⟨fun hc => ?_, fun hc => ?_⟩ <;> try (exfalso; omega))))
      exact zR
def fltV (L : List Ver) : List AV := flat (L.map encV)
theorem fltV_len (L : List Ver) : (fltV L).length = L.length * 4 := by
  have := flat_len (s := 4) (L := L.map encV) (fun y hy => by obtain ⟨z, _, rfl⟩ := List.mem_map.1 hy; rfl)
  rw [fltV, this, List.length_map]
theorem fltV_at (A B : List Ver) (x : Ver) : List.drop (A.length * 4) (fltV (A ++ x :: B)) = cellsOf (encV x) ++ fltV B ∧ List.take (A.length * 4) (fltV (A ++ x :: B)) = fltV A := by
  have := flat_at (s := 4) (A.map encV) (B.map encV) (encV x) (fun y hy => by obtain ⟨z, _, rfl⟩ := List.mem_map.1 hy; rfl) rfl
  rw [List.length_map] at this
  unfold fltV
  rw [List.map_append, List.map_cons]
  exact ⟨this.1, this.2.1⟩
def cmV (x v : Ver) : Int := if x.fr < v.fr then -1 else if v.fr < x.fr then 1 else 0
theorem insV_ac (vs : List Ver) (v : Ver) (hs : srt vs) (hne : ∀ x ∈ vs, x.fr ≠ v.fr) (hl : vs.length ≤ 1000) (m : Nat) (h : AHeap) (n : Nat) (hm : h m = some (.cells (fltV (vs ++ [v])))) (_hmn : m < n) :
    ACalls Tryz.prog 169 [.slc m 0 (vs.length + 1) 4, iv .i64 0, iv .i64 ((vs.length + 1 : Nat) : Int), .func (.func 50) [] []] h n fun r h' n' => r = .tup [] ∧ n ≤ n' ∧ h' m = some (.cells (fltV (insV vs v))) ∧ ∀ x, x < n → x ≠ m → h' x = h x := by
  refine ACalls.entry (by kernel_rfl) fun hb _ => calls_of Tryz.func169 rfl (by kernel_rfl) (by simp [Tryz.ntmps169]) ?_
  repeat' (first | (refine ac_seq_h fun K hK => ?_) | (refine ac_region_h fun K hK => ?_; simp (disch := omega) [go_sem, *, wrap64_id, Tryz.ntmps169]) | (apply Hide.out hK; clear hK K; try with_reducible dsimp only [thenA]) | (refine ac_block ?_))
  have kcm : ∀ x ∈ vs ++ [v], ∀ y ∈ vs ++ [v], APure Tryz.prog 50 [encV x, encV y] (iv .i64 (cmV x y)) := fun x _ y _ => add2_spec x y (cmpI_spec _ _)
  replace kcm : Hide _ := kcm
  replace hne : Hide _ := hne
  have hs' := hs
  replace hs : Hide _ := hs
  have hget : ∀ i, i < vs.length → ∃ x, vs[i]? = some x ∧ x ∈ vs ++ [v] ∧ vs ++ [v] = vs.take i ++ x :: (vs.drop (i + 1) ++ [v]) := fun i hi => ⟨vs[i], List.getElem?_eq_getElem hi, by simp, by
    rw [← List.cons_append, ← List.append_assoc, List.getElem_cons_drop hi, List.take_append_drop]⟩
  refine ac_loop_wk (fun s' => ∃ (i n' : Nat) (H : AHeap), n ≤ n' ∧ 1 ≤ i ∧ i ≤ vs.length + 1 ∧ H m = some (.cells (fltV (if i ≤ vs.length then vs ++ [v] else insV vs v))) ∧ (∀ x, x < n → x ≠ m → H x = h x) ∧ s' = ⟨53, [(0, .slc m 0 (vs.length + 1) 4), (1, iv .i64 0), (2, iv .i64 ((vs.length + 1 : Nat) : Int)), (3, .func (.func 50) [] []), (8, iv .i64 i)], H, n'⟩) (fun s' => vs.length + 1 - (intAt s' 8).toNat) ?_ ?_
  · refine loop_start (by simp [go_sem]) (Sub.refl _) ⟨1, _, _, by (try simp only); omega, by omega, by omega, ?_, fun x _ _ => rfl, rfl⟩
    rw [hm]
    by_cases h1 : 1 ≤ vs.length
    · rw [if_pos h1]
    · have : vs = [] := List.length_eq_zero_iff.1 (by omega)
      subst this
      rw [if_neg h1]; rfl
  · rintro s' ⟨i, n', H, hn', hi1, hi2, g0, g1, rfl⟩
    replace g1 : Hide _ := g1
    by_cases hlt : i < vs.length + 1
    · rw [if_pos (by omega)] at g0
      by_cases hlast : i < vs.length
      · obtain ⟨x, hxi, hxm, hsp⟩ := hget i hlast
        obtain ⟨p, hp⟩ : ∃ p, vs[i - 1]'(by omega) = p := ⟨_, rfl⟩
        have hpm : p ∈ vs := hp ▸ List.getElem_mem _
        have hlt2 : p.fr < x.fr := by
          have h1 : vs.Pairwise (fun a b => a.fr < b.fr) := hs.out
          rw [List.pairwise_iff_getElem] at h1
          have := h1 (i - 1) i (by omega) hlast (by omega)
          rw [hp] at this
          rw [List.getElem?_eq_getElem hlast] at hxi
          rw [Option.some.inj hxi] at this
          exact this
        have hcv : cmV x p = 1 := by rw [cmV, if_neg (by omega), if_pos hlt2]
        have k1 := kcm.out x hxm p (by simp [hpm])
        rw [hcv] at k1
        have hA : (vs.take (i - 1)).length = i - 1 := by rw [List.length_take]; omega
        have hA2 : (vs.take i).length = i := by rw [List.length_take]; omega
        have hsp2 : vs ++ [v] = vs.take (i - 1) ++ p :: (x :: (vs.drop (i + 1) ++ [v])) := by
          have := List.take_succ_eq_append_getElem (show i - 1 < vs.length by omega)
          rw [show i - 1 + 1 = i by omega, hp] at this
          rw [hsp, this]; simp
        have f2 := fltV_at (vs.take i) (vs.drop (i + 1) ++ [v]) x
        have f1 := fltV_at (vs.take (i - 1)) (x :: (vs.drop (i + 1) ++ [v])) p
        rw [hA, ← hsp2] at f1
        rw [hA2, ← hsp] at f2
        have hcl := fltV_len (vs ++ [v])
        rw [List.length_append, List.length_singleton] at hcl
        have hjj : ((i : Int) - 1).toNat = i - 1 := by omega
        have hjg : (0 : Int) < i := by omega
        have hi0 : 0 < i := by omega
        have ev : cellsOf (encV x) = [iv .i64 x.id, iv .i64 x.fr, .fslc x.nlL x.fuL x.sL (x.ls.map encLn), .fslc x.nlO x.fuO x.sO (x.os.map encO)] := rfl
        have ep : cellsOf (encV p) = [iv .i64 p.id, iv .i64 p.fr, .fslc p.nlL p.fuL p.sL (p.ls.map encLn), .fslc p.nlO p.fuO p.sO (p.os.map encO)] := rfl
        have eV : encV x = .agg [iv .i64 x.id, iv .i64 x.fr, .fslc x.nlL x.fuL x.sL (x.ls.map encLn), .fslc x.nlO x.fuO x.sO (x.os.map encO)] := rfl
        have eP : encV p = .agg [iv .i64 p.id, iv .i64 p.fr, .fslc p.nlL p.fuL p.sL (p.ls.map encLn), .fslc p.nlO p.fuO p.sO (p.os.map encO)] := rfl
        rw [eV, eP] at k1
        rw [ep] at f1
        rw [ev] at f2
        obtain ⟨fd1, ft1⟩ := f1
        obtain ⟨fd2, ft2⟩ := f2
        have hg0 : Hide (H m = some (.cells (fltV (vs ++ [v])))) := g0
        generalize hCC : fltV (vs ++ [v]) = C at *
        generalize fltV (vs.take (i - 1)) = FA at *
        generalize fltV (vs.take i) = FB at *
        generalize fltV (x :: (vs.drop (i + 1) ++ [v])) = FC at *
        generalize fltV (vs.drop (i + 1) ++ [v]) = FD at *
        have hb1 : (i - 1) * 4 + 4 ≤ C.length := by omega
        have hb2 : i * 4 + 4 ≤ C.length := by omega
        replace hCC : Hide _ := hCC
        clear hpm hsp hsp2 hA hA2 hxi hxm hlt2 hcv ft1 ft2
        replace hp : Hide _ := trivial
        replace eV : Hide _ := trivial
        replace eP : Hide _ := trivial
        replace ev : Hide _ := trivial
        replace ep : Hide _ := trivial
        generalize List.map encLn x.ls = VL at *
        generalize List.map encO x.os = VO at *
        generalize List.map encLn p.ls = PL at *
        generalize List.map encO p.os = PO at *
        repeat' (first | (refine ac_seq_h fun K hK => ?_) | (refine ac_region_h fun K hK => ?_; simp (disch := omega) [go_sem, *, ilt_true]) | (apply Hide.out hK; clear hK K; try with_reducible dsimp only [thenA]) | (apply Hide.out ht; clear ht hf Kt Kf) | (refine ac_block ?_) | (refine ac_skip ?_; simp only [thenA]) | (refine ac_cond_h fun Kt Kf ht hf => ?_; simp (disch := omega) [go_sem, *]; try (refine ⟨fun hc => ?_, fun hc => ?_⟩ <;> try (exfalso; omega))))
        refine ac_loop_wk (fun s' => ∃ (n3 : Nat), n ≤ n3 ∧ s' = ⟨53, [(0, .slc m 0 (vs.length + 1) 4), (1, iv .i64 0), (2, iv .i64 ((vs.length + 1 : Nat) : Int)), (3, .func (.func 50) [] []), (8, iv .i64 i), (9, iv .i64 i)], H, n3⟩) (fun s' => 0) ?_ ?_
        · exact loop_start (by simp [go_sem]) (Sub.refl _) ⟨_, by (try simp only); omega, rfl⟩
        · rintro s' ⟨n3, hn3, rfl⟩
          repeat' (first | (refine ac_seq_h fun K hK => ?_))
          refine ac_quiet_h mixed (by kernel_rfl) fun K hK => ?_
          simp (disch := omega) [go_sem, *]
          repeat' (first | (refine ac_region_h fun K hK => ?_; simp (disch := omega) [go_sem, *, wrap64_id]) | (refine aQ_c (by simp [go_sem]) (by simp (disch := omega) [go_sem, *, wrap64_id, ilt_true, ilt_false, ile_true]; first | exact rfl | exact ⟨rfl, rfl, rfl⟩ | exact (k1).gcall ⟨rfl, rfl, rfl⟩) ?_; try simp only [pS_some]) | (refine aQ_end ?_) | (apply Hide.out hK; clear hK K; try with_reducible dsimp only [thenA]) | (apply Hide.out hf; clear ht hf Kt Kf) | (clear hK K; apply Hide.out hK; clear hK K; try with_reducible dsimp only [thenA]) | (refine ac_exit ?_; simp only [thenA, blockA, if_true, if_false, Nat.reduceEqDiff]) | (refine ac_cond_h fun Kt Kf ht hf => ?_; simp (disch := omega) [go_sem, *]; try (refine ⟨fun hc => ?_, fun hc => ?_⟩ <;> try (exfalso; omega))))
          refine round_end (by simp (disch := omega) [go_sem]) (Sub.refl _) ⟨i + 1, _, _, by (try simp only); omega, by omega, by omega, ?_, fun x h1 h2 => g1.out x h1 h2, rfl⟩ (by simp [intAt, go_sem] <;> omega)
          rw [if_pos (by omega), hCC.out]; exact hg0.out
      · have hii : i = vs.length := by omega
        subst hii
        repeat' (first | (refine ac_seq_h fun K hK => ?_) | (refine ac_region_h fun K hK => ?_; simp (disch := omega) [go_sem, *, ilt_true]) | (apply Hide.out hK; clear hK K; try with_reducible dsimp only [thenA]) | (apply Hide.out ht; clear ht hf Kt Kf) | (refine ac_block ?_) | (refine ac_skip ?_; simp only [thenA]) | (refine ac_cond_h fun Kt Kf ht hf => ?_; simp (disch := omega) [go_sem, *]; try (refine ⟨fun hc => ?_, fun hc => ?_⟩ <;> try (exfalso; omega))))
        refine ac_loop_wk (fun s' => ∃ (j n3 : Nat) (H3 : AHeap), n ≤ n3 ∧ j ≤ vs.length ∧ H3 m = some (.cells (fltV (vs.take j ++ v :: vs.drop j))) ∧ (∀ x ∈ vs.drop j, v.fr < x.fr) ∧ (∀ x, x < n → x ≠ m → H3 x = h x) ∧ s' = ⟨53, [(0, .slc m 0 (vs.length + 1) 4), (1, iv .i64 0), (2, iv .i64 ((vs.length + 1 : Nat) : Int)), (3, .func (.func 50) [] []), (8, iv .i64 vs.length), (9, iv .i64 j)], H3, n3⟩) (fun s' => (intAt s' 9).toNat) ?_ ?_
        · refine loop_start (by simp [go_sem]) (Sub.refl _) ⟨vs.length, _, _, by (try simp only); omega, by omega, ?_, fun x hx => by simp at hx, g1.out, rfl⟩
          rw [List.take_length, List.drop_length]; exact g0
        · rintro s' ⟨j, n3, H3, hn3, hj, g2, g3, g4, rfl⟩
          replace g4 : Hide _ := g4
          replace g3 : Hide _ := g3
          by_cases hj0 : 0 < j
          · obtain ⟨p, hp⟩ : ∃ p, vs[j - 1]'(by omega) = p := ⟨_, rfl⟩
            have hpm : p ∈ vs := hp ▸ List.getElem_mem _
            have htk : vs.take j = vs.take (j - 1) ++ [p] := by
              have := List.take_succ_eq_append_getElem (show j - 1 < vs.length by omega)
              rw [show j - 1 + 1 = j by omega] at this
              rw [this, hp]
            have hA : (vs.take (j - 1)).length = j - 1 := by rw [List.length_take]; omega
            have hA2 : (vs.take (j - 1) ++ [p]).length = j := by rw [List.length_append, hA]; simp; omega
            have f1 := fltV_at (vs.take (j - 1)) (v :: vs.drop j) p
            have f2 := fltV_at (vs.take (j - 1) ++ [p]) (vs.drop j) v
            have hfA := fltV_len (vs.take (j - 1))
            have hrow : vs.take (j - 1) ++ p :: v :: vs.drop j = vs.take (j - 1) ++ [p] ++ v :: vs.drop j := by simp
            have hcl := fltV_len (vs.take (j - 1) ++ [p] ++ v :: vs.drop j)
            rw [hA] at f1 hfA
            rw [hA2] at f2
            rw [htk] at g2
            rw [hrow] at f1
            have k1 := kcm.out v (by simp) p (by simp [hpm])
            have hjj : ((j : Int) - 1).toNat = j - 1 := by omega
            have hjg : (0 : Int) < j := by omega
            by_cases hc : v.fr < p.fr
            · have hcv : cmV v p = -1 := by rw [cmV, if_pos hc]
              rw [hcv] at k1
              have hst : Hide (∀ x ∈ vs.drop (j - 1), v.fr < x.fr) := fun x hx => by
                have hd : vs.drop (j - 1) = p :: vs.drop j := by
                  have := List.drop_eq_getElem_cons (show j - 1 < vs.length by omega)
                  rw [show j - 1 + 1 = j by omega, hp] at this; exact this
                rw [hd] at hx
                rcases List.mem_cons.1 hx with rfl | hx
                · exact hc
                · exact g3.out x hx
              have hnew : Hide (fltV (vs.take (j - 1)) ++ (cellsOf (encV v) ++ (cellsOf (encV p) ++ fltV (vs.drop j))) = fltV (vs.take (j - 1) ++ v :: vs.drop (j - 1))) := by
                have hd : vs.drop (j - 1) = p :: vs.drop j := by
                  have := List.drop_eq_getElem_cons (show j - 1 < vs.length by omega)
                  rw [show j - 1 + 1 = j by omega, hp] at this; exact this
                show _ = _
                rw [hd]
                simp [fltV, flat]
              have hfc : fltV (v :: vs.drop j) = cellsOf (encV v) ++ fltV (vs.drop j) := by simp [fltV, flat]
              rw [hfc] at f1
              have ev : cellsOf (encV v) = [iv .i64 v.id, iv .i64 v.fr, .fslc v.nlL v.fuL v.sL (v.ls.map encLn), .fslc v.nlO v.fuO v.sO (v.os.map encO)] := rfl
              have ep : cellsOf (encV p) = [iv .i64 p.id, iv .i64 p.fr, .fslc p.nlL p.fuL p.sL (p.ls.map encLn), .fslc p.nlO p.fuO p.sO (p.os.map encO)] := rfl
              have eV : encV v = .agg [iv .i64 v.id, iv .i64 v.fr, .fslc v.nlL v.fuL v.sL (v.ls.map encLn), .fslc v.nlO v.fuO v.sO (v.os.map encO)] := rfl
              have eP : encV p = .agg [iv .i64 p.id, iv .i64 p.fr, .fslc p.nlL p.fuL p.sL (p.ls.map encLn), .fslc p.nlO p.fuO p.sO (p.os.map encO)] := rfl
              rw [eV, eP] at k1
              rw [ev, ep] at f1 hnew
              rw [ev] at f2
              obtain ⟨fd1, ft1⟩ := f1
              obtain ⟨fd2, ft2⟩ := f2
              have hb1 : (j - 1) * 4 + 4 ≤ (fltV (vs.take (j - 1) ++ [p] ++ v :: vs.drop j)).length := by rw [hcl]; simp; omega
              have hb2 : j * 4 + 4 ≤ (fltV (vs.take (j - 1) ++ [p] ++ v :: vs.drop j)).length := by rw [hcl]; simp [hA]; omega
              have hfap : fltV (vs.take (j - 1) ++ [p]) = fltV (vs.take (j - 1)) ++ cellsOf (encV p) := by simp [fltV, flat]
              rw [ep] at hfap
              generalize fltV (vs.take (j - 1) ++ [p] ++ v :: vs.drop j) = C at *
              generalize fltV (vs.take (j - 1) ++ [p]) = FAP at *
              generalize fltV (vs.take (j - 1)) = FA at *
              generalize fltV (vs.drop j) = FB at *
              clear hpm hrow hA hA2 hcl
              replace htk : Hide _ := htk
              replace hp : Hide _ := hp
              replace hc : Hide _ := trivial
              replace hcv : Hide _ := trivial
              replace eV : Hide _ := trivial
              replace eP : Hide _ := trivial
              replace ev : Hide _ := trivial
              replace ep : Hide _ := trivial
              generalize List.map encLn v.ls = VL at *
              generalize List.map encO v.os = VO at *
              generalize List.map encLn p.ls = PL at *
              generalize List.map encO p.os = PO at *
              have hj4 : j < vs.length + 1 := by omega
              have fe2 : List.drop (j * 4 + 4) C = FB := by rw [← List.drop_drop, fd2]; rfl
              obtain ⟨C1, hC1⟩ : ∃ C1, C1 = FAP ++ iv .i64 p.id :: iv .i64 p.fr :: .fslc p.nlL p.fuL p.sL PL :: .fslc p.nlO p.fuO p.sO PO :: FB := ⟨_, rfl⟩
              have hC2 : C1 = FA ++ ([iv .i64 p.id, iv .i64 p.fr, .fslc p.nlL p.fuL p.sL PL, .fslc p.nlO p.fuO p.sO PO] ++ iv .i64 p.id :: iv .i64 p.fr :: .fslc p.nlL p.fuL p.sL PL :: .fslc p.nlO p.fuO p.sO PO :: FB) := by rw [hC1, hfap]; simp
              have gd1 : List.drop ((j - 1) * 4) C1 = [iv .i64 p.id, iv .i64 p.fr, .fslc p.nlL p.fuL p.sL PL, .fslc p.nlO p.fuO p.sO PO] ++ iv .i64 p.id :: iv .i64 p.fr :: .fslc p.nlL p.fuL p.sL PL :: .fslc p.nlO p.fuO p.sO PO :: FB := by rw [hC2]; exact List.drop_left' hfA
              have gt1 : List.take ((j - 1) * 4) C1 = FA := by rw [hC2]; exact List.take_left' hfA
              have ge1 : List.drop ((j - 1) * 4 + 4) C1 = iv .i64 p.id :: iv .i64 p.fr :: .fslc p.nlL p.fuL p.sL PL :: .fslc p.nlO p.fuO p.sO PO :: FB := by rw [← List.drop_drop, gd1]; rfl
              have hb3 : (j - 1) * 4 + 4 ≤ C1.length := by rw [hC2, List.length_append, hfA]; simp
              replace hC2 : Hide _ := trivial
              replace hC1 : Hide _ := hC1
              replace hfap : Hide _ := trivial
              repeat' (first | (refine ac_seq_h fun K hK => ?_))
              refine ac_quiet_h mixed (by kernel_rfl) fun K hK => ?_
              simp (disch := omega) [go_sem, *]
              repeat' (first | (refine ac_seq_h fun K hK => ?_) | (refine aQ_c (by simp [go_sem]) (by simp (disch := omega) [go_sem, *, wrap64_id, ilt_true, ile_true]; first | exact rfl | exact ⟨rfl, rfl, rfl⟩ | exact (k1).gcall ⟨rfl, rfl, rfl⟩) ?_; try simp only [pS_some]) | (refine aQ_end ?_) | (apply Hide.out hK; clear hK K; try with_reducible dsimp only [thenA]) | (apply Hide.out ht; clear ht hf Kt Kf) | (refine ac_block ?_) | (refine ac_skip ?_; simp only [thenA]) | (refine ac_cond_h fun Kt Kf ht hf => ?_; simp (disch := omega) [go_sem, *]; try (refine ⟨fun hc => ?_, fun hc => ?_⟩ <;> try (exfalso; omega))))
              replace k1 : Hide _ := trivial
              refine ac_chain_h [13, 15, 17] (fun h' => h' m = some (.cells C) ∨ h' m = some (.cells C1)) mixed (by kernel_rfl) (.inl g2) fun K hK => ?_
              simp (disch := omega) [go_sem, *]
              repeat' (first | (refine aC_c (by simp [go_sem]) (by decide) (fun h' hh => by rcases hh with hh | hh <;> ((try dsimp only at hh); (try simp (disch := omega) [go_sem, *, wrap64_id, ilt_true, ile_true]) <;> first | exact rfl | exact ⟨rfl, rfl, rfl⟩)) ?_; try simp only [pS_some]) | (refine aC_x (by simp [go_sem]) (by decide) (by (try simp (disch := omega) [go_sem, *]); first | exact rfl | exact ⟨rfl, rfl⟩ | exact ⟨rfl, rfl, rfl⟩) (by first | exact .inl rfl | (right; left; exact g2) | (right; right; simp (disch := omega) [go_sem, ← hC1.out])) ?_; try simp only [pS_some, pS_none]))
              rw [← hC1.out]
              refine aC_x (by simp [go_sem]) (by decide) (by simp (disch := omega) [go_sem, *]; first | exact rfl | exact ⟨rfl, rfl⟩ | exact ⟨rfl, rfl, rfl⟩) (.inl rfl) ?_
              try simp only [pS_none]
              refine aC_end ?_
              apply Hide.out hK
              clear hK K
              try with_reducible dsimp only [thenA]
              repeat' (first | (refine ac_region_h fun K hK => ?_; simp (disch := omega) [go_sem, *, wrap64_id]) | (apply Hide.out hK; clear hK K; try with_reducible dsimp only [thenA]))
              have hcast : ((j - 1 : Nat) : Int) = (j : Int) - 1 := by omega
              refine round_end (by simp (disch := omega) [go_sem, hcast]) (Sub.refl _) ⟨j - 1, _, _, by (try simp only); omega, by omega, ?_, hst.out, fun x h1 h2 => ?_, rfl⟩ (by simp [intAt, go_sem] <;> omega)
              · rw [upd_same, ← hnew.out]; rfl
              · rw [upd_ne _ _ _ _ (by omega), upd_ne _ _ _ _ (by omega)]; exact g4.out x h1 h2
            · have hge : p.fr < v.fr := by
                have := hne.out p hpm; omega
              have hcv : cmV v p = 1 := by rw [cmV, if_neg hc, if_pos hge]
              rw [hcv] at k1
              have hdone : Hide (fltV (vs.take j ++ v :: vs.drop j) = fltV (insV vs v)) := by
                show _ = _
                have hP : ∀ x ∈ vs.take j, x.fr < v.fr := fun x hx => by
                  rw [htk] at hx
                  rcases List.mem_append.1 hx with hx | hx
                  · have h1 : vs.Pairwise (fun a b => a.fr < b.fr) := hs.out
                    rw [← List.take_append_drop (j - 1) vs, List.pairwise_append] at h1
                    have := h1.2.2 x hx p (by
                      have := List.drop_eq_getElem_cons (show j - 1 < vs.length by omega)
                      rw [this, hp]; simp)
                    omega
                  · rw [List.mem_singleton] at hx; subst hx; exact hge
                have := insV_of (P := vs.take j) (Q := vs.drop j) (v := v) hP (fun x hx => by have := g3.out x hx; omega)
                rw [List.take_append_drop] at this
                rw [this]
              have hg2 : H3 m = some (.cells (fltV (insV vs v))) := by rw [← hdone.out, htk]; exact g2
              replace hg2 : Hide _ := hg2
              have hfc : fltV (v :: vs.drop j) = cellsOf (encV v) ++ fltV (vs.drop j) := by simp [fltV, flat]
              rw [hfc] at f1
              have ev : cellsOf (encV v) = [iv .i64 v.id, iv .i64 v.fr, .fslc v.nlL v.fuL v.sL (v.ls.map encLn), .fslc v.nlO v.fuO v.sO (v.os.map encO)] := rfl
              have ep : cellsOf (encV p) = [iv .i64 p.id, iv .i64 p.fr, .fslc p.nlL p.fuL p.sL (p.ls.map encLn), .fslc p.nlO p.fuO p.sO (p.os.map encO)] := rfl
              have eV : encV v = .agg [iv .i64 v.id, iv .i64 v.fr, .fslc v.nlL v.fuL v.sL (v.ls.map encLn), .fslc v.nlO v.fuO v.sO (v.os.map encO)] := rfl
              have eP : encV p = .agg [iv .i64 p.id, iv .i64 p.fr, .fslc p.nlL p.fuL p.sL (p.ls.map encLn), .fslc p.nlO p.fuO p.sO (p.os.map encO)] := rfl
              rw [eV, eP] at k1
              rw [ev, ep] at f1
              rw [ev] at f2
              obtain ⟨fd1, ft1⟩ := f1
              obtain ⟨fd2, ft2⟩ := f2
              have hb1 : (j - 1) * 4 + 4 ≤ (fltV (vs.take (j - 1) ++ [p] ++ v :: vs.drop j)).length := by rw [hcl]; simp; omega
              have hb2 : j * 4 + 4 ≤ (fltV (vs.take (j - 1) ++ [p] ++ v :: vs.drop j)).length := by rw [hcl]; simp [hA]; omega
              generalize fltV (vs.take (j - 1) ++ [p] ++ v :: vs.drop j) = C at *
              generalize fltV (vs.take (j - 1)) = FA at *
              generalize fltV (vs.drop j) = FB at *
              clear hpm hrow hA hA2 hcl
              replace htk : Hide _ := htk
              replace hp : Hide _ := hp
              replace hc : Hide _ := trivial
              replace hcv : Hide _ := trivial
              replace hge : Hide _ := trivial
              replace eV : Hide _ := trivial
              replace eP : Hide _ := trivial
              replace ev : Hide _ := trivial
              replace ep : Hide _ := trivial
              generalize List.map encLn v.ls = VL at *
              generalize List.map encO v.os = VO at *
              generalize List.map encLn p.ls = PL at *
              generalize List.map encO p.os = PO at *
              have hj4 : j < vs.length + 1 := by omega
              repeat' (first | (refine ac_seq_h fun K hK => ?_))
              refine ac_quiet_h mixed (by kernel_rfl) fun K hK => ?_
              simp (disch := omega) [go_sem, *]
              repeat' (first | (refine ac_region_h fun K hK => ?_; simp (disch := omega) [go_sem, *, wrap64_id]) | (refine aQ_c (by simp [go_sem]) (by simp (disch := omega) [go_sem, *, wrap64_id, ilt_true, ilt_false, ile_true]; first | exact rfl | exact ⟨rfl, rfl, rfl⟩ | exact (k1).gcall ⟨rfl, rfl, rfl⟩) ?_; try simp only [pS_some]) | (refine aQ_end ?_) | (apply Hide.out hK; clear hK K; try with_reducible dsimp only [thenA]) | (apply Hide.out hf; clear ht hf Kt Kf) | (clear hK K; apply Hide.out hK; clear hK K; try with_reducible dsimp only [thenA]) | (refine ac_exit ?_; simp only [thenA, blockA, if_true, if_false, Nat.reduceEqDiff]) | (refine ac_cond_h fun Kt Kf ht hf => ?_; simp (disch := omega) [go_sem, *]; try (refine ⟨fun hc => ?_, fun hc => ?_⟩ <;> try (exfalso; omega))))
              refine round_end (by simp (disch := omega) [go_sem]) (Sub.refl _) ⟨vs.length + 1, _, _, by (try simp only); omega, by omega, by omega, ?_, fun x h1 h2 => g4.out x h1 h2, rfl⟩ (by simp [intAt, go_sem] <;> omega)
              rw [if_neg (by omega)]; exact hg2.out
          · have hj1 : j = 0 := by omega
            subst hj1
            have hdone : Hide (fltV (vs.take 0 ++ v :: vs.drop 0) = fltV (insV vs v)) := by
              show _ = _
              have := insV_of (P := []) (Q := vs) (v := v) (fun x hx => by simp at hx) (fun x hx => by have := g3.out x (by simpa using hx); omega)
              rw [List.nil_append, List.nil_append] at this
              rw [this]; rfl
            rw [hdone.out] at g2
            replace g2 : Hide _ := g2
            repeat' (first | (refine ac_seq_h fun K hK => ?_))
            refine ac_quiet_h mixed (by kernel_rfl) fun K hK => ?_
            simp (disch := omega) [go_sem, *]
            repeat' (first | (refine ac_region_h fun K hK => ?_; simp (disch := omega) [go_sem, *, wrap64_id]) | (refine aQ_c (by simp [go_sem]) (by simp (disch := omega) [go_sem, *]; first | exact rfl | exact ⟨rfl, rfl, rfl⟩) ?_; try simp only [pS_some]) | (refine aQ_end ?_) | (apply Hide.out hK; clear hK K; try with_reducible dsimp only [thenA]) | (apply Hide.out hf; clear ht hf Kt Kf) | (clear hK K; apply Hide.out hK; clear hK K; try with_reducible dsimp only [thenA]) | (refine ac_exit ?_; simp only [thenA, blockA, if_true, if_false, Nat.reduceEqDiff]) | (refine ac_cond_h fun Kt Kf ht hf => ?_; simp (disch := omega) [go_sem, *]; try (refine ⟨fun hc => ?_, fun hc => ?_⟩ <;> try (exfalso; omega))))
            refine round_end (by simp (disch := omega) [go_sem]) (Sub.refl _) ⟨vs.length + 1, _, _, by (try simp only); omega, by omega, by omega, ?_, fun x h1 h2 => g4.out x h1 h2, rfl⟩ (by simp [intAt, go_sem] <;> omega)
            rw [if_neg (by omega)]; exact g2.out
    · have hii : i = vs.length + 1 := by omega
      subst hii
      rw [if_neg (by omega)] at g0
      replace g0 : Hide _ := g0
      repeat' (first | (refine ac_seq_h fun K hK => ?_) | (refine ac_region_h fun K hK => ?_; simp (disch := omega) [go_sem, *]) | (apply Hide.out hK; clear hK K; try with_reducible dsimp only [thenA]) | (apply Hide.out hf; clear ht hf Kt Kf) | (refine ac_exit ?_; simp only [thenA, blockA, if_true]) | (refine ac_cond_h fun Kt Kf ht hf => ?_; simp (disch := omega) [go_sem, *]; try (refine ⟨fun hc => ?_, fun hc => ?_⟩ <;> try (exfalso; omega))))
      refine ⟨by simp, _, (by first | rfl | (simp (disch := omega) [go_sem, upd_ne] <;> rfl)), ?_⟩
      exact ret_id ⟨rfl, by (try simp only); omega, g0.out, fun x h1 h2 => g1.out x h1 h2⟩
end Go.AM
namespace Go.AM
open Go.Proofs Cw Du
set_option maxRecDepth 10000
set_option maxHeartbeats 4000000
theorem cv_spec (nl fu : Bool) (s : Nat) (vs : List Ver) (hnl : vs = [] ∨ nl = false ∧ s = 4) (hw : ∀ v ∈ vs, wfV v) (hl : vs.length ≤ 1000000) :
    APure Tryz.prog 11 [.fslc nl fu s (vs.map encV)] (.tup [iv .i64 (chkV vs).1, iv .i64 (chkV vs).2]) := by
  intro h n
  refine ACalls.pure (ACalls.entry (by kernel_rfl) fun hb _ => calls_of Tryz.func11 rfl (by kernel_rfl) (by simp [Tryz.ntmps11]) ?_)
  obtain ⟨T, hT⟩ : ∃ T, Hide (T = chkV vs) := ⟨_, rfl⟩
  rw [← hT.out]
  replace hnl : Hide _ := hnl
  replace hw : Hide _ := hw
  by_cases h20 : 20 < vs.length
  · have hT2 : T = (2, 0) := by rw [hT.out, chkV, if_pos h20]
    subst hT2
    replace hT : Hide _ := trivial
    repeat' (first | (refine ac_seq_h fun K hK => ?_) | (refine ac_region_h fun K hK => ?_; simp (disch := omega) [go_sem, *, ilt_true, Tryz.ntmps11]) | (apply Hide.out hK; clear hK K; try with_reducible dsimp only [thenA]) | (apply Hide.out ht; clear ht hf Kt Kf) | (refine ac_cond_h fun Kt Kf ht hf => ?_; simp (disch := omega) [go_sem, *]; try (refine ⟨fun hc => ?_, fun hc => ?_⟩ <;> try (exfalso; omega))))
    (refine ac_ret ?_; try dsimp only [thenA, blockA]; refine ⟨by simp, _, (by first | rfl | (simp (disch := omega) [go_sem, upd_ne] <;> rfl)), ?_⟩; refine ret_id ⟨fun k hk => (by first | rfl | (repeat rw [upd_ne _ _ _ _ (by omega)])), (by simp [go_sem, below, belowL]), (by simp [go_sem] <;> omega), by simp, by simp⟩)
  · have hT2 : goV vs (vs.length - 0) 0 = T := by rw [hT.out, chkV, if_neg h20]; rfl
    replace hT : Hide _ := trivial
    replace hT2 : Hide _ := hT2
    repeat' (first | (refine ac_seq_h fun K hK => ?_) | (refine ac_region_h fun K hK => ?_; simp (disch := omega) [go_sem, *, ilt_false, Tryz.ntmps11]) | (apply Hide.out hK; clear hK K; try with_reducible dsimp only [thenA]) | (apply Hide.out hf; clear ht hf Kt Kf) | (refine ac_block ?_) | (refine ac_skip ?_; simp only [thenA]) | (refine ac_cond_h fun Kt Kf ht hf => ?_; simp (disch := omega) [go_sem, *]; try (refine ⟨fun hc => ?_, fun hc => ?_⟩ <;> try (exfalso; omega))))
    refine ac_loop_wk (fun s' => ∃ (i n' : Nat), n ≤ n' ∧ i ≤ vs.length ∧ goV vs (vs.length - i) i = T ∧ s' = ⟨59, [(0, .fslc nl fu s (vs.map encV)), (10, .fslc nl fu s (vs.map encV)), (11, iv .i64 vs.length), (12, iv .i64 i)], h, n'⟩)
      (fun s' => vs.length - (intAt s' 12).toNat) ?_ ?_
    · exact loop_start (by simp [go_sem]) (Sub.refl _) ⟨0, _, by omega, by omega, hT2.out, rfl⟩
    · rintro s' ⟨i, n', hn', hi, hc, rfl⟩
      by_cases hlt : i < vs.length
      · obtain ⟨v, hv⟩ : ∃ v, vs[i] = v := ⟨_, rfl⟩
        have hmem : v ∈ vs := hv ▸ List.getElem_mem hlt
        have hne : vs ≠ [] := fun e => by rw [e] at hlt; simp at hlt
        obtain ⟨rfl, rfl⟩ := hnl.out.resolve_left hne
        have hvs : vs[i]? = some v := by rw [List.getElem?_eq_getElem hlt, hv]
        have hwv := hw.out v hmem
        rw [goV_step hvs] at hc
        have hex : encV vs[i] = .agg [iv .i64 v.id, iv .i64 v.fr, .fslc v.nlL v.fuL v.sL (v.ls.map encLn), .fslc v.nlO v.fuO v.sO (v.os.map encO)] := by rw [hv]; rfl
        have k1 := within_spec v.id 1 1099511627776
        have k2 := within_spec v.fr 0 400
        have k3 := containsV 45 [.fptr [iv .i64 v.id, iv .i64 v.fr, .fslc v.nlL v.fuL v.sL (v.ls.map encLn), .fslc v.nlO v.fuO v.sO (v.os.map encO)]] (fun x => decide (x.id = v.id)) false (fu && decide ((i : Int) = vs.length)) 4 (vs.take i) (fun x _ => cv1_spec v x) (.inr ⟨rfl, rfl⟩) (by rw [List.length_take]; omega)
        rw [List.map_take] at k3
        have k4 := check_spec v.nlL v.fuL v.sL v.ls hwv.l1 hwv.l2 hwv.l3 v.nlO v.fuO v.sO v.os hwv.o1 hwv.o2 hwv.o3 hwv.o4
        obtain ⟨pf, hpf⟩ : ∃ pf, ((vs[i - 1]?).map Ver.fr).getD 0 = pf := ⟨_, rfl⟩
        have hpe : 0 < i → ∃ a c d, (List.map encV vs)[i - 1]? = some (.agg [iv .i64 a, iv .i64 pf, c, d]) := fun h0 => by
          have h1 : i - 1 < vs.length := by omega
          exact ⟨(vs[i - 1]).id, .fslc (vs[i - 1]).nlL (vs[i - 1]).fuL (vs[i - 1]).sL ((vs[i - 1]).ls.map encLn), .fslc (vs[i - 1]).nlO (vs[i - 1]).fuO (vs[i - 1]).sO ((vs[i - 1]).os.map encO), by rw [List.getElem?_map, List.getElem?_eq_getElem h1, ← hpf, List.getElem?_eq_getElem h1]; rfl⟩
        have herr : errV vs i v = if wi v.id 1 1099511627776 = false ∨ wi v.fr 0 400 = false ∨ (0 < i ∧ v.fr ≤ pf) then 1 else if (vs.take i).any (fun x => decide (x.id = v.id)) then 6 else chkW v.ls v.os := by rw [errV, hpf]; rfl
        obtain ⟨er, her⟩ : ∃ er, errV vs i v = er := ⟨_, rfl⟩
        rw [her] at hc
        rw [her] at herr
        obtain ⟨v1, v2, v3, v4, v5, v6, v7, v8, v9, v10⟩ := v
        simp only at *
        generalize List.map encLn v6 = LL at *
        generalize List.map encO v10 = OO at *
        generalize (vs.take i).any (fun x => decide (x.id = v1)) = tw at *
        generalize chkW v6 v10 = ce at *
        generalize wi v1 1 1099511627776 = w1 at *
        generalize wi v2 0 400 = w2 at *
        replace hv : Hide _ := hv
        replace hvs : Hide _ := hvs
        replace hpe : Hide _ := hpe
        clear hmem hne hwv hpf her
        cases w1 with
        | false =>
          rw [if_pos (.inl rfl)] at herr
          subst herr
          rw [if_neg (by decide)] at hc
          subst hc
          repeat' (first | (refine ac_seq_h fun K hK => ?_) | (refine ac_region_h fun K hK => ?_; simp (disch := omega) [go_sem, *, ilt_true, ile_true]) | (apply Hide.out hK; clear hK K; try with_reducible dsimp only [thenA]) | (apply Hide.out ht; clear ht hf Kt Kf) | (refine ac_block ?_) | (refine ac_skip ?_; simp only [thenA]) | (refine ac_cond_h fun Kt Kf ht hf => ?_; simp (disch := omega) [go_sem, *]; try (refine ⟨fun hc => ?_, fun hc => ?_⟩ <;> try (exfalso; omega))))
          refine ac_quiet_h mixed (by kernel_rfl) fun K hK => ?_
          simp (disch := omega) [go_sem, *]
          repeat' (first | (refine ac_seq_h fun K hK => ?_) | (refine ac_region_h fun K hK => ?_; simp (disch := omega) [go_sem, *]) | (refine aQ_c (by simp [go_sem]) (by simp (disch := omega) [go_sem, *]; first | exact rfl | exact ⟨rfl, rfl, rfl⟩ | exact (k1).gcall ⟨rfl, rfl, rfl⟩ | exact (k2).gcall ⟨rfl, rfl, rfl⟩ | exact (k3).gcall ⟨rfl, rfl, rfl⟩ | exact (k4).gcall ⟨rfl, rfl, rfl⟩) ?_; try simp only [pS_some]) | (refine aQ_end ?_) | (apply Hide.out hK; clear hK K; try with_reducible dsimp only [thenA]) | (apply Hide.out ht; clear ht hf Kt Kf) | (refine ac_cond_h fun Kt Kf ht hf => ?_; simp (disch := omega) [go_sem, *]; try (refine ⟨fun hc => ?_, fun hc => ?_⟩ <;> try (exfalso; omega))))
          (refine ac_ret ?_; try dsimp only [thenA, blockA]; refine ⟨by simp, _, (by first | rfl | (simp (disch := omega) [go_sem, upd_ne] <;> rfl)), ?_⟩; refine ret_id ⟨fun k hk => (by first | rfl | (repeat rw [upd_ne _ _ _ _ (by omega)])), (by simp [go_sem, below, belowL]), (by simp [go_sem] <;> omega), by simp, by simp⟩)
        | true =>
          cases w2 with
          | false =>
            rw [if_pos (.inr (.inl rfl))] at herr
            subst herr
            rw [if_neg (by decide)] at hc
            subst hc
            repeat' (first | (refine ac_seq_h fun K hK => ?_) | (refine ac_region_h fun K hK => ?_; simp (disch := omega) [go_sem, *, ilt_true, ile_true]) | (apply Hide.out hK; clear hK K; try with_reducible dsimp only [thenA]) | (apply Hide.out ht; clear ht hf Kt Kf) | (refine ac_block ?_) | (refine ac_skip ?_; simp only [thenA]) | (refine ac_cond_h fun Kt Kf ht hf => ?_; simp (disch := omega) [go_sem, *]; try (refine ⟨fun hc => ?_, fun hc => ?_⟩ <;> try (exfalso; omega))))
            refine ac_quiet_h mixed (by kernel_rfl) fun K hK => ?_
            simp (disch := omega) [go_sem, *]
            repeat' (first | (refine ac_seq_h fun K hK => ?_) | (refine ac_region_h fun K hK => ?_; simp (disch := omega) [go_sem, *]) | (refine aQ_c (by simp [go_sem]) (by simp (disch := omega) [go_sem, *]; first | exact rfl | exact ⟨rfl, rfl, rfl⟩ | exact (k1).gcall ⟨rfl, rfl, rfl⟩ | exact (k2).gcall ⟨rfl, rfl, rfl⟩ | exact (k3).gcall ⟨rfl, rfl, rfl⟩ | exact (k4).gcall ⟨rfl, rfl, rfl⟩) ?_; try simp only [pS_some]) | (refine aQ_end ?_) | (apply Hide.out hK; clear hK K; try with_reducible dsimp only [thenA]) | (apply Hide.out ht; clear ht hf Kt Kf) | (refine ac_cond_h fun Kt Kf ht hf => ?_; simp (disch := omega) [go_sem, *]; try (refine ⟨fun hc => ?_, fun hc => ?_⟩ <;> try (exfalso; omega))))
            (refine ac_ret ?_; try dsimp only [thenA, blockA]; refine ⟨by simp, _, (by first | rfl | (simp (disch := omega) [go_sem, upd_ne] <;> rfl)), ?_⟩; refine ret_id ⟨fun k hk => (by first | rfl | (repeat rw [upd_ne _ _ _ _ (by omega)])), (by simp [go_sem, below, belowL]), (by simp [go_sem] <;> omega), by simp, by simp⟩)
          | true =>
            by_cases h0 : 0 < i
            · obtain ⟨pa, pc, pd, hg⟩ := hpe.out h0
              replace hpe : Hide _ := trivial
              have hi1 : ((i : Int) - 1).toNat = i - 1 := by omega
              have hgt : (0 : Int) < i := by omega
              by_cases hle : v2 ≤ pf
              · rw [if_pos (.inr (.inr ⟨h0, hle⟩))] at herr
                subst herr
                rw [if_neg (by decide)] at hc
                subst hc
                repeat' (first | (refine ac_seq_h fun K hK => ?_) | (refine ac_region_h fun K hK => ?_; simp (disch := omega) [go_sem, *, ilt_true, ile_true]) | (apply Hide.out hK; clear hK K; try with_reducible dsimp only [thenA]) | (apply Hide.out ht; clear ht hf Kt Kf) | (refine ac_block ?_) | (refine ac_skip ?_; simp only [thenA]) | (refine ac_cond_h fun Kt Kf ht hf => ?_; simp (disch := omega) [go_sem, *]; try (refine ⟨fun hc => ?_, fun hc => ?_⟩ <;> try (exfalso; omega))))
                refine ac_fzbox (t := 5) (m := n' + 1 + 3) (c := [iv .i64 v1, iv .i64 v2, .fslc v3 v4 v5 LL, .fslc v7 v8 v9 OO]) (upd_same _ _ _) (by simp [go_sem]) ?_
                dsimp only
                refine ac_quiet_h mixed (by kernel_rfl) fun K hK => ?_
                simp (disch := omega) [go_sem, *]
                repeat' (first | (refine ac_seq_h fun K hK => ?_) | (refine ac_region_h fun K hK => ?_; simp (disch := omega) [go_sem, *]) | (refine aQ_c (by simp [go_sem]) (by simp (disch := omega) [go_sem, *, wrap64_id, ile_true]; first | exact rfl | exact ⟨rfl, rfl, rfl⟩ | exact (k1).gcall ⟨rfl, rfl, rfl⟩ | exact (k2).gcall ⟨rfl, rfl, rfl⟩ | exact (k3).gcall ⟨rfl, rfl, rfl⟩ | exact (k4).gcall ⟨rfl, rfl, rfl⟩) ?_; try simp only [pS_some]) | (refine aQ_end ?_) | (apply Hide.out hK; clear hK K; try with_reducible dsimp only [thenA]) | (apply Hide.out ht; clear ht hf Kt Kf) | (refine ac_cond_h fun Kt Kf ht hf => ?_; simp (disch := omega) [go_sem, *]; try (refine ⟨fun hc => ?_, fun hc => ?_⟩ <;> try (exfalso; omega))))
                (refine ac_ret ?_; try dsimp only [thenA, blockA]; refine ⟨by simp, _, (by first | rfl | (simp (disch := omega) [go_sem, upd_ne] <;> rfl)), ?_⟩; refine ret_id ⟨fun k hk => (by first | rfl | (repeat rw [upd_ne _ _ _ _ (by omega)])), (by simp [go_sem, below, belowL]), (by simp [go_sem] <;> omega), by simp, by simp⟩)
              · rw [if_neg (by rintro (h | h | h); cases h; cases h; exact hle h.2)] at herr
                cases tw with
                | true =>
                  rw [if_pos rfl] at herr
                  subst herr
                  rw [if_neg (by decide)] at hc
                  subst hc
                  repeat' (first | (refine ac_seq_h fun K hK => ?_) | (refine ac_region_h fun K hK => ?_; simp (disch := omega) [go_sem, *, ilt_true, ile_true]) | (apply Hide.out hK; clear hK K; try with_reducible dsimp only [thenA]) | (apply Hide.out ht; clear ht hf Kt Kf) | (refine ac_block ?_) | (refine ac_skip ?_; simp only [thenA]) | (refine ac_cond_h fun Kt Kf ht hf => ?_; simp (disch := omega) [go_sem, *]; try (refine ⟨fun hc => ?_, fun hc => ?_⟩ <;> try (exfalso; omega))))
                  refine ac_fzbox (t := 5) (m := n' + 1 + 3) (c := [iv .i64 v1, iv .i64 v2, .fslc v3 v4 v5 LL, .fslc v7 v8 v9 OO]) (upd_same _ _ _) (by simp [go_sem]) ?_
                  dsimp only
                  refine ac_quiet_h mixed (by kernel_rfl) fun K hK => ?_
                  simp (disch := omega) [go_sem, *]
                  repeat' (first | (refine ac_seq_h fun K hK => ?_) | (refine ac_region_h fun K hK => ?_; simp (disch := omega) [go_sem, *, ile_true]) | (refine aQ_c (by simp [go_sem]) (by simp (disch := omega) [go_sem, *, wrap64_id, ile_true]; first | exact rfl | exact ⟨rfl, rfl, rfl⟩ | exact (k1).gcall ⟨rfl, rfl, rfl⟩ | exact (k2).gcall ⟨rfl, rfl, rfl⟩ | exact (k3).gcall ⟨rfl, rfl, rfl⟩ | exact (k4).gcall ⟨rfl, rfl, rfl⟩) ?_; try simp only [pS_some]) | (refine aQ_end ?_) | (apply Hide.out hK; clear hK K; try with_reducible dsimp only [thenA]) | (apply Hide.out ht; clear ht hf Kt Kf) | (apply Hide.out hf; clear ht hf Kt Kf) | (with_reducible refine APure.gcall (k3) ?_; try simp (disch := omega) [go_sem, *]) | (refine ac_cond_h fun Kt Kf ht hf => ?_; simp (disch := omega) [go_sem, *]; try (refine ⟨fun hc => ?_, fun hc => ?_⟩ <;> try (exfalso; omega))))
                  (refine ac_ret ?_; try dsimp only [thenA, blockA]; refine ⟨by simp, _, (by first | rfl | (simp (disch := omega) [go_sem, upd_ne] <;> rfl)), ?_⟩; refine ret_id ⟨fun k hk => (by first | rfl | (repeat rw [upd_ne _ _ _ _ (by omega)])), (by simp [go_sem, below, belowL]), (by simp [go_sem] <;> omega), by simp, by simp⟩)
                | false =>
                  rw [if_neg (by simp)] at herr
                  subst herr
                  by_cases hce : er = 0
                  · rw [hce] at hc k4
                    rw [if_pos rfl] at hc
                    replace hc : Hide _ := hc
                    repeat' (first | (refine ac_seq_h fun K hK => ?_) | (refine ac_region_h fun K hK => ?_; simp (disch := omega) [go_sem, *, ilt_true, ile_true]) | (apply Hide.out hK; clear hK K; try with_reducible dsimp only [thenA]) | (apply Hide.out ht; clear ht hf Kt Kf) | (refine ac_block ?_) | (refine ac_skip ?_; simp only [thenA]) | (refine ac_cond_h fun Kt Kf ht hf => ?_; simp (disch := omega) [go_sem, *]; try (refine ⟨fun hc => ?_, fun hc => ?_⟩ <;> try (exfalso; omega))))
                    refine ac_fzbox (t := 5) (m := n' + 1 + 3) (c := [iv .i64 v1, iv .i64 v2, .fslc v3 v4 v5 LL, .fslc v7 v8 v9 OO]) (upd_same _ _ _) (by simp [go_sem]) ?_
                    dsimp only
                    refine ac_quiet_h mixed (by kernel_rfl) fun K hK => ?_
                    simp (disch := omega) [go_sem, *]
                    repeat' (first | (refine ac_seq_h fun K hK => ?_) | (refine ac_region_h fun K hK => ?_; simp (disch := omega) [go_sem, *, wrap64_id, ile_true]) | (refine aQ_c (by simp [go_sem]) (by simp (disch := omega) [go_sem, *, wrap64_id, ile_true]; first | exact rfl | exact ⟨rfl, rfl, rfl⟩ | exact (k1).gcall ⟨rfl, rfl, rfl⟩ | exact (k2).gcall ⟨rfl, rfl, rfl⟩ | exact (k3).gcall ⟨rfl, rfl, rfl⟩ | exact (k4).gcall ⟨rfl, rfl, rfl⟩) ?_; try simp only [pS_some]) | (refine aQ_end ?_) | (apply Hide.out hK; clear hK K; try with_reducible dsimp only [thenA]) | (apply Hide.out hf; clear ht hf Kt Kf) | (with_reducible refine APure.gcall (k3) ?_; try simp (disch := omega) [go_sem, *]) | (with_reducible refine APure.gcall (k4) ?_; try simp (disch := omega) [go_sem, *]) | (refine ac_skip ?_; simp only [thenA, blockA]) | (refine ac_cond_h fun Kt Kf ht hf => ?_; simp (disch := omega) [go_sem, *]; try (refine ⟨fun hc => ?_, fun hc => ?_⟩ <;> try (exfalso; omega))))
                    exact round_end (by simp (disch := omega) [go_sem]) (fun k o e => by have hk : k ≠ n' + 1 + 3 := fun hk => (by rw [hk, hb.none (by omega)] at e; cases e); rw [upd_ne _ _ _ _ hk, upd_ne _ _ _ _ hk, upd_ne _ _ _ _ hk]; exact e) ⟨i + 1, _, by omega, by omega, hc.out, rfl⟩ (by simp [intAt, go_sem]; omega)
                  · rw [if_neg hce] at hc
                    subst hc
                    have hne : (er != 0) = true := by simpa using hce
                    replace hce : Hide _ := trivial
                    repeat' (first | (refine ac_seq_h fun K hK => ?_) | (refine ac_region_h fun K hK => ?_; simp (disch := omega) [go_sem, *, ilt_true, ile_true]) | (apply Hide.out hK; clear hK K; try with_reducible dsimp only [thenA]) | (apply Hide.out ht; clear ht hf Kt Kf) | (refine ac_block ?_) | (refine ac_skip ?_; simp only [thenA]) | (refine ac_cond_h fun Kt Kf ht hf => ?_; simp (disch := omega) [go_sem, *]; try (refine ⟨fun hc => ?_, fun hc => ?_⟩ <;> try (exfalso; omega))))
                    refine ac_fzbox (t := 5) (m := n' + 1 + 3) (c := [iv .i64 v1, iv .i64 v2, .fslc v3 v4 v5 LL, .fslc v7 v8 v9 OO]) (upd_same _ _ _) (by simp [go_sem]) ?_
                    dsimp only
                    refine ac_quiet_h mixed (by kernel_rfl) fun K hK => ?_
                    simp (disch := omega) [go_sem, *]
                    repeat' (first | (refine ac_seq_h fun K hK => ?_) | (refine ac_region_h fun K hK => ?_; simp (disch := omega) [go_sem, *, ile_true]) | (refine aQ_c (by simp [go_sem]) (by simp (disch := omega) [go_sem, *, wrap64_id, ile_true]; first | exact rfl | exact ⟨rfl, rfl, rfl⟩ | exact (k1).gcall ⟨rfl, rfl, rfl⟩ | exact (k2).gcall ⟨rfl, rfl, rfl⟩ | exact (k3).gcall ⟨rfl, rfl, rfl⟩ | exact (k4).gcall ⟨rfl, rfl, rfl⟩) ?_; try simp only [pS_some]) | (refine aQ_end ?_) | (apply Hide.out hK; clear hK K; try with_reducible dsimp only [thenA]) | (apply Hide.out ht; clear ht hf Kt Kf) | (apply Hide.out hf; clear ht hf Kt Kf) | (with_reducible refine APure.gcall (k3) ?_; try simp (disch := omega) [go_sem, *]) | (with_reducible refine APure.gcall (k4) ?_; try simp (disch := omega) [go_sem, *]) | (refine ac_skip ?_; simp only [thenA, blockA]) | (refine ac_cond_h fun Kt Kf ht hf => ?_; simp (disch := omega) [go_sem, *]; try (refine ⟨fun hc => ?_, fun hc => ?_⟩ <;> try (exfalso; omega))))
                    (refine ac_ret ?_; try dsimp only [thenA, blockA]; refine ⟨by simp, _, (by first | rfl | (simp (disch := omega) [go_sem, upd_ne] <;> rfl)), ?_⟩; refine ret_id ⟨fun k hk => (by first | rfl | (repeat rw [upd_ne _ _ _ _ (by omega)])), (by simp [go_sem, below, belowL]), (by simp [go_sem] <;> omega), by simp, by simp⟩)
            · have hi0 : i = 0 := by omega
              subst hi0
              rw [List.take_zero, show ((0 : Nat) : Int) = 0 from rfl] at k3
              rw [if_neg (by rintro (h | h | h); cases h; cases h; exact h0 h.1)] at herr
              replace hpe : Hide _ := trivial
              cases tw with
              | true =>
                rw [if_pos rfl] at herr
                subst herr
                rw [if_neg (by decide)] at hc
                subst hc
                repeat' (first | (refine ac_seq_h fun K hK => ?_) | (refine ac_region_h fun K hK => ?_; simp (disch := omega) [go_sem, *]) | (apply Hide.out hK; clear hK K; try with_reducible dsimp only [thenA]) | (apply Hide.out ht; clear ht hf Kt Kf) | (refine ac_block ?_) | (refine ac_skip ?_; simp only [thenA]) | (refine ac_cond_h fun Kt Kf ht hf => ?_; simp (disch := omega) [go_sem, *]; try (refine ⟨fun hc => ?_, fun hc => ?_⟩ <;> try (exfalso; omega))))
                refine ac_fzbox (t := 5) (m := n' + 1 + 3) (c := [iv .i64 v1, iv .i64 v2, .fslc v3 v4 v5 LL, .fslc v7 v8 v9 OO]) (upd_same _ _ _) (by simp [go_sem]) ?_
                dsimp only
                refine ac_quiet_h mixed (by kernel_rfl) fun K hK => ?_
                simp (disch := omega) [go_sem, *]
                repeat' (first | (refine ac_seq_h fun K hK => ?_) | (refine ac_region_h fun K hK => ?_; simp (disch := omega) [go_sem, *, ile_true]) | (refine aQ_c (by simp [go_sem]) (by simp (disch := omega) [go_sem, *]; first | exact rfl | exact ⟨rfl, rfl, rfl⟩ | exact (k1).gcall ⟨rfl, rfl, rfl⟩ | exact (k2).gcall ⟨rfl, rfl, rfl⟩ | exact (k3).gcall ⟨rfl, rfl, rfl⟩ | exact (k4).gcall ⟨rfl, rfl, rfl⟩) ?_; try simp only [pS_some]) | (refine aQ_end ?_) | (apply Hide.out hK; clear hK K; try with_reducible dsimp only [thenA]) | (apply Hide.out ht; clear ht hf Kt Kf) | (apply Hide.out hf; clear ht hf Kt Kf) | (with_reducible refine APure.gcall (k3) ?_; try simp (disch := omega) [go_sem, *]) | (refine ac_cond_h fun Kt Kf ht hf => ?_; simp (disch := omega) [go_sem, *]; try (refine ⟨fun hc => ?_, fun hc => ?_⟩ <;> try (exfalso; omega))))
                (refine ac_ret ?_; try dsimp only [thenA, blockA]; refine ⟨by simp, _, (by first | rfl | (simp (disch := omega) [go_sem, upd_ne] <;> rfl)), ?_⟩; refine ret_id ⟨fun k hk => (by first | rfl | (repeat rw [upd_ne _ _ _ _ (by omega)])), (by simp [go_sem, below, belowL]), (by simp [go_sem] <;> omega), by simp, by simp⟩)
              | false =>
                rw [if_neg (by simp)] at herr
                subst herr
                by_cases hce : er = 0
                · rw [hce] at hc k4
                  rw [if_pos rfl] at hc
                  replace hc : Hide _ := hc
                  repeat' (first | (refine ac_seq_h fun K hK => ?_) | (refine ac_region_h fun K hK => ?_; simp (disch := omega) [go_sem, *]) | (apply Hide.out hK; clear hK K; try with_reducible dsimp only [thenA]) | (apply Hide.out ht; clear ht hf Kt Kf) | (refine ac_block ?_) | (refine ac_skip ?_; simp only [thenA]) | (refine ac_cond_h fun Kt Kf ht hf => ?_; simp (disch := omega) [go_sem, *]; try (refine ⟨fun hc => ?_, fun hc => ?_⟩ <;> try (exfalso; omega))))
                  refine ac_fzbox (t := 5) (m := n' + 1 + 3) (c := [iv .i64 v1, iv .i64 v2, .fslc v3 v4 v5 LL, .fslc v7 v8 v9 OO]) (upd_same _ _ _) (by simp [go_sem]) ?_
                  dsimp only
                  refine ac_quiet_h mixed (by kernel_rfl) fun K hK => ?_
                  simp (disch := omega) [go_sem, *]
                  repeat' (first | (refine ac_seq_h fun K hK => ?_) | (refine ac_region_h fun K hK => ?_; simp (disch := omega) [go_sem, *, wrap64_id, ile_true]) | (refine aQ_c (by simp [go_sem]) (by simp (disch := omega) [go_sem, *]; first | exact rfl | exact ⟨rfl, rfl, rfl⟩ | exact (k1).gcall ⟨rfl, rfl, rfl⟩ | exact (k2).gcall ⟨rfl, rfl, rfl⟩ | exact (k3).gcall ⟨rfl, rfl, rfl⟩ | exact (k4).gcall ⟨rfl, rfl, rfl⟩) ?_; try simp only [pS_some]) | (refine aQ_end ?_) | (apply Hide.out hK; clear hK K; try with_reducible dsimp only [thenA]) | (apply Hide.out hf; clear ht hf Kt Kf) | (with_reducible refine APure.gcall (k3) ?_; try simp (disch := omega) [go_sem, *]) | (with_reducible refine APure.gcall (k4) ?_; try simp (disch := omega) [go_sem, *]) | (refine ac_skip ?_; simp only [thenA, blockA]) | (refine ac_cond_h fun Kt Kf ht hf => ?_; simp (disch := omega) [go_sem, *]; try (refine ⟨fun hc => ?_, fun hc => ?_⟩ <;> try (exfalso; omega))))
                  exact round_end (by simp (disch := omega) [go_sem]) (fun k o e => by have hk : k ≠ n' + 1 + 3 := fun hk => (by rw [hk, hb.none (by omega)] at e; cases e); rw [upd_ne _ _ _ _ hk, upd_ne _ _ _ _ hk, upd_ne _ _ _ _ hk]; exact e) ⟨0 + 1, _, by omega, by omega, hc.out, rfl⟩ (by simp [intAt, go_sem]; omega)
                · rw [if_neg hce] at hc
                  subst hc
                  have hne : (er != 0) = true := by simpa using hce
                  replace hce : Hide _ := trivial
                  repeat' (first | (refine ac_seq_h fun K hK => ?_) | (refine ac_region_h fun K hK => ?_; simp (disch := omega) [go_sem, *]) | (apply Hide.out hK; clear hK K; try with_reducible dsimp only [thenA]) | (apply Hide.out ht; clear ht hf Kt Kf) | (refine ac_block ?_) | (refine ac_skip ?_; simp only [thenA]) | (refine ac_cond_h fun Kt Kf ht hf => ?_; simp (disch := omega) [go_sem, *]; try (refine ⟨fun hc => ?_, fun hc => ?_⟩ <;> try (exfalso; omega))))
                  refine ac_fzbox (t := 5) (m := n' + 1 + 3) (c := [iv .i64 v1, iv .i64 v2, .fslc v3 v4 v5 LL, .fslc v7 v8 v9 OO]) (upd_same _ _ _) (by simp [go_sem]) ?_
                  dsimp only
                  refine ac_quiet_h mixed (by kernel_rfl) fun K hK => ?_
                  simp (disch := omega) [go_sem, *]
                  repeat' (first | (refine ac_seq_h fun K hK => ?_) | (refine ac_region_h fun K hK => ?_; simp (disch := omega) [go_sem, *, ile_true]) | (refine aQ_c (by simp [go_sem]) (by simp (disch := omega) [go_sem, *]; first | exact rfl | exact ⟨rfl, rfl, rfl⟩ | exact (k1).gcall ⟨rfl, rfl, rfl⟩ | exact (k2).gcall ⟨rfl, rfl, rfl⟩ | exact (k3).gcall ⟨rfl, rfl, rfl⟩ | exact (k4).gcall ⟨rfl, rfl, rfl⟩) ?_; try simp only [pS_some]) | (refine aQ_end ?_) | (apply Hide.out hK; clear hK K; try with_reducible dsimp only [thenA]) | (apply Hide.out ht; clear ht hf Kt Kf) | (apply Hide.out hf; clear ht hf Kt Kf) | (with_reducible refine APure.gcall (k3) ?_; try simp (disch := omega) [go_sem, *]) | (with_reducible refine APure.gcall (k4) ?_; try simp (disch := omega) [go_sem, *]) | (refine ac_skip ?_; simp only [thenA, blockA]) | (refine ac_cond_h fun Kt Kf ht hf => ?_; simp (disch := omega) [go_sem, *]; try (refine ⟨fun hc => ?_, fun hc => ?_⟩ <;> try (exfalso; omega))))
                  (refine ac_ret ?_; try dsimp only [thenA, blockA]; refine ⟨by simp, _, (by first | rfl | (simp (disch := omega) [go_sem, upd_ne] <;> rfl)), ?_⟩; refine ret_id ⟨fun k hk => (by first | rfl | (repeat rw [upd_ne _ _ _ _ (by omega)])), (by simp [go_sem, below, belowL]), (by simp [go_sem] <;> omega), by simp, by simp⟩)
      · rw [goV_end (by omega)] at hc
        subst hc
        repeat' (first | (refine ac_seq_h fun K hK => ?_) | (refine ac_region_h fun K hK => ?_; simp (disch := omega) [go_sem, *, ilt_false]) | (apply Hide.out hK; clear hK K; try with_reducible dsimp only [thenA]) | (apply Hide.out hf; clear ht hf Kt Kf) | (clear hK K; apply Hide.out hK; clear hK K; try with_reducible dsimp only [thenA]) | (refine ac_exit ?_; simp only [thenA, blockA, if_true]) | (refine ac_cond_h fun Kt Kf ht hf => ?_; simp (disch := omega) [go_sem, *]; try (refine ⟨fun hc => ?_, fun hc => ?_⟩ <;> try (exfalso; omega))))
        (refine ac_ret ?_; try dsimp only [thenA, blockA]; refine ⟨by simp, _, (by first | rfl | (simp (disch := omega) [go_sem, upd_ne] <;> rfl)), ?_⟩; refine ret_id ⟨fun k hk => (by first | rfl | (repeat rw [upd_ne _ _ _ _ (by omega)])), (by simp [go_sem, below, belowL]), (by simp [go_sem] <;> omega), by simp, by simp⟩)
end Go.AM
