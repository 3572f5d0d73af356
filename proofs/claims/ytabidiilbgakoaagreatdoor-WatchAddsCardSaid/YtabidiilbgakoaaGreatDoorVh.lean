/- In force, by both. Conditions: as each theorem says. -/
import Derived.Test.YtabidiilbgakoaaGreatDoorVf
namespace Go.AM
open Go.Proofs Cw Du
set_option maxRecDepth 10000
set_option maxHeartbeats 4000000
theorem inF_step {vs : List Ver} {day : Int} {i : Nat} {v : Ver} (h : vs[i]? = some v) : inF (vs.take (i + 1)) day = if v.fr ≤ day then some v else inF (vs.take i) day := inF_take h
def cpz (v : Ver) (e : Int) : Ver := if e = 0 then cpV v else zeroV
theorem InForce_spec (nl fu : Bool) (s : Nat) (vs : List Ver) (hnl : vs = [] ∨ nl = false ∧ s = 4) (hw : ∀ v ∈ vs, wfV v) (hl : vs.length ≤ 1000000) (day : Int) :
    APure Tryz.prog 15 [.fslc nl fu s (vs.map encV), iv .i64 day] (.tup [encV (cpz (forceV vs day).1 (forceV vs day).2), iv .i64 (forceV vs day).2]) := by
  intro h n
  have k1 := cv_spec nl fu s vs hnl hw hl
  have k2 := within_spec day 0 400
  have kc := fun v hv => copied_spec v (hw v hv)
  refine ACalls.pure (ACalls.entry (by kernel_rfl) fun hb _ => calls_of Tryz.func15 rfl (by kernel_rfl) (by simp [Tryz.ntmps15]) ?_)
  obtain ⟨T, hT⟩ : ∃ T, Hide (T = forceV vs day) := ⟨_, rfl⟩
  rw [← hT.out]
  have hT1 := hT.out
  unfold forceV at hT1
  replace hT : Hide _ := trivial
  replace hnl : Hide _ := hnl
  replace hw : Hide _ := hw
  replace kc : Hide _ := kc
  generalize (chkV vs).2 = e2 at *
  generalize (chkV vs).1 = e1 at *
  by_cases h1 : e1 = 0
  · subst h1
    rw [if_neg (by simp)] at hT1
    cases hwi : wi day 0 400 with
    | false =>
      rw [if_pos hwi] at hT1
      rw [hwi] at k2
      subst hT1
      simp only [cpz]
      rw [if_neg (by decide)]
      generalize List.map encV vs = VV at *
      replace hwi : Hide _ := trivial
      simp only [encV, zeroV, List.map_nil]
      repeat' (first | (refine ac_seq_h fun K hK => ?_) | (refine ac_region_h fun K hK => ?_; simp (disch := omega) [go_sem, *, Tryz.ntmps15 ]) | (apply Hide.out hK; clear hK K; try with_reducible dsimp only [thenA]) | (apply Hide.out ht; clear ht hf Kt Kf) | (apply Hide.out hf; clear ht hf Kt Kf) | (with_reducible refine APure.gcall (k1) ?_; try simp (disch := omega) [go_sem, * ]) | (with_reducible refine APure.gcall (k2) ?_; try simp (disch := omega) [go_sem, * ]) | (refine ac_skip ?_; simp only [thenA]) | (refine ac_cond_h fun Kt Kf ht hf => ?_; simp (disch := omega) [go_sem, * ]; try (refine ⟨fun hc => ?_, fun hc => ?_⟩ <;> try (exfalso; omega))))
      (refine ac_ret ?_; try dsimp only [thenA, blockA]; refine ⟨by simp, _, (by first | rfl | (simp (disch := omega) [go_sem] <;> rfl)), ?_⟩; refine ret_id ⟨fun k hk => (by first | rfl | (repeat rw [upd_ne _ _ _ _ (by omega)])), (by simp [go_sem, below, belowL]), (by simp [go_sem] <;> omega), by simp, by simp⟩)
    | true =>
      rw [if_neg (by rw [hwi]; simp)] at hT1
      rw [hwi] at k2
      replace hT1 : Hide _ := hT1
      replace hwi : Hide _ := trivial
      repeat' (first | (refine ac_seq_h fun K hK => ?_) | (refine ac_region_h fun K hK => ?_; simp (disch := omega) [go_sem, *, Tryz.ntmps15 ]) | (apply Hide.out hK; clear hK K; try with_reducible dsimp only [thenA]) | (apply Hide.out hf; clear ht hf Kt Kf) | (with_reducible refine APure.gcall (k1) ?_; try simp (disch := omega) [go_sem, * ]) | (with_reducible refine APure.gcall (k2) ?_; try simp (disch := omega) [go_sem, * ]) | (refine ac_block ?_) | (refine ac_skip ?_; simp only [thenA]) | (refine ac_cond_h fun Kt Kf ht hf => ?_; simp (disch := omega) [go_sem, * ]; try (refine ⟨fun hc => ?_, fun hc => ?_⟩ <;> try (exfalso; omega))))
      refine ac_loop_wk (fun s' => ∃ (i n' : Nat) (at' : Int) (H : AHeap), n + 1 ≤ n' ∧ i ≤ vs.length ∧ ((at' = -1 ∧ inF (vs.take i) day = none) ∨ ∃ (k : Nat) (v : Ver), at' = k ∧ k < i ∧ vs[k]? = some v ∧ inF (vs.take i) day = some v) ∧ H n = some (.cells [iv .i64 0, iv .i64 0, .fslc true true 0 [], .fslc true true 0 []]) ∧ (∀ x, x < n → H x = h x) ∧ s' = ⟨45, [(0, .fslc nl fu s (vs.map encV)), (1, iv .i64 day), (4, .ptr n 0), (5, iv .i64 0), (8, iv .i64 at'), (24, .fslc nl fu s (vs.map encV)), (25, iv .i64 vs.length), (26, iv .i64 i)], H, n'⟩) (fun s' => vs.length - (intAt s' 26).toNat) ?_ ?_
      · exact loop_start (by simp [go_sem]) (Sub.refl _) ⟨0, _, -1, _, by (try simp only); omega, by omega, .inl ⟨rfl, rfl⟩, by simp (disch := omega) only [upd_same], fun x hx => by simp (disch := omega) only [upd_ne], rfl⟩
      · rintro s' ⟨i, n', at', H, hn', hi, hat, g0, g1, rfl⟩
        replace g1 : Hide _ := g1
        replace hat : Hide _ := hat
        by_cases hlt : i < vs.length
        · obtain ⟨x, hx⟩ : ∃ x, vs[i] = x := ⟨_, rfl⟩
          have hne : vs ≠ [] := fun e => by rw [e] at hlt; simp at hlt
          obtain ⟨rfl, rfl⟩ := hnl.out.resolve_left hne
          have hxs : vs[i]? = some x := by rw [List.getElem?_eq_getElem hlt, hx]
          have hst := inF_step (day := day) hxs
          have hex : encV vs[i] = .agg [iv .i64 x.id, iv .i64 x.fr, .fslc x.nlL x.fuL x.sL (x.ls.map encLn), .fslc x.nlO x.fuO x.sO (x.os.map encO)] := by rw [hx]; rfl
          clear hne
          replace hx : Hide _ := trivial
          have hnew : x.fr ≤ day → Hide (((i : Int) = -1 ∧ inF (vs.take (i + 1)) day = none) ∨ ∃ (k : Nat) (v : Ver), (i : Int) = k ∧ k < i + 1 ∧ vs[k]? = some v ∧ inF (vs.take (i + 1)) day = some v) := fun hc => .inr ⟨i, x, rfl, by omega, hxs, by rw [hst, if_pos hc]⟩
          have hold : ¬ x.fr ≤ day → Hide ((at' = -1 ∧ inF (vs.take (i + 1)) day = none) ∨ ∃ (k : Nat) (v : Ver), at' = k ∧ k < i + 1 ∧ vs[k]? = some v ∧ inF (vs.take (i + 1)) day = some v) := fun hc => by
            rw [if_neg hc] at hst
            rcases hat.out with ⟨a, b⟩ | ⟨k, v, a, b, c, d⟩
            · exact .inl ⟨a, by rw [hst, b]⟩
            · exact .inr ⟨k, v, a, by omega, c, by rw [hst, d]⟩
          replace hst : Hide _ := trivial
          replace hxs : Hide _ := trivial
          obtain ⟨x1, x2, x3, x4, x5, x6, x7, x8, x9, x10⟩ := x
          simp only at hex hnew hold
          generalize List.map encLn x6 = LL at *
          generalize List.map encO x10 = OO at *
          by_cases hc : x2 ≤ day
          · have hnew := hnew hc
            replace hold : Hide _ := trivial
            repeat' (first | (refine ac_seq_h fun K hK => ?_) | (refine ac_region_h fun K hK => ?_; simp (disch := omega) [go_sem, *, wrap64_id, ilt_true, ile_true]) | (apply Hide.out hK; clear hK K; try with_reducible dsimp only [thenA]) | (apply Hide.out ht; clear ht hf Kt Kf) | (refine ac_block ?_) | (refine ac_skip ?_; simp only [thenA]) | (refine ac_cond_h fun Kt Kf ht hf => ?_; simp (disch := omega) [go_sem, *]; try (refine ⟨fun hc => ?_, fun hc => ?_⟩ <;> try (exfalso; omega))))
            refine round_end (by simp (disch := omega) [go_sem]) (Sub.refl _) ⟨i + 1, _, _, _, by (try simp only); omega, by omega, hnew.out, ?_, fun x hx => ?_, rfl⟩ (by simp [intAt, go_sem]; omega)
            · simp (disch := omega) only [upd_ne]; exact g0
            · simp (disch := omega) only [upd_ne]; exact g1.out x hx
          · have hold := hold hc
            replace hnew : Hide _ := trivial
            repeat' (first | (refine ac_seq_h fun K hK => ?_) | (refine ac_region_h fun K hK => ?_; simp (disch := omega) [go_sem, *, wrap64_id, ilt_true, ile_true]) | (apply Hide.out hK; clear hK K; try with_reducible dsimp only [thenA]) | (apply Hide.out ht; clear ht hf Kt Kf) | (apply Hide.out hf; clear ht hf Kt Kf) | (refine ac_block ?_) | (refine ac_skip ?_; simp only [thenA, blockA]) | (refine ac_cond_h fun Kt Kf ht hf => ?_; simp (disch := omega) [go_sem, *]; try (refine ⟨fun hc => ?_, fun hc => ?_⟩ <;> try (exfalso; omega))))
            refine round_end (by simp (disch := omega) [go_sem]) (Sub.refl _) ⟨i + 1, _, _, _, by (try simp only); omega, by omega, hold.out, ?_, fun x hx => ?_, rfl⟩ (by simp [intAt, go_sem]; omega)
            · simp (disch := omega) only [upd_ne]; exact g0
            · simp (disch := omega) only [upd_ne]; exact g1.out x hx
        · have hii : i = vs.length := by omega
          subst hii
          rw [List.take_length] at hat
          rcases hat.out with ⟨rfl, ha⟩ | ⟨k, v, rfl, hk, hkv, ha⟩
          · have hT2 := hT1.out
            rw [ha] at hT2
            simp only at hT2
            subst hT2
            simp only [cpz]
            rw [if_neg (by decide)]
            replace ha : Hide _ := trivial
            replace hat : Hide _ := trivial
            replace hT1 : Hide _ := trivial
            simp only [encV, zeroV, List.map_nil]
            repeat' (first | (refine ac_seq_h fun K hK => ?_) | (refine ac_region_h fun K hK => ?_; simp (disch := omega) [go_sem, *, ilt_true]) | (apply Hide.out hK; clear hK K; try with_reducible dsimp only [thenA]) | (apply Hide.out ht; clear ht hf Kt Kf) | (apply Hide.out hf; clear ht hf Kt Kf) | (clear hK K; apply Hide.out hK; clear hK K; try with_reducible dsimp only [thenA]) | (refine ac_exit ?_; simp only [thenA, blockA, if_true]) | (refine ac_cond_h fun Kt Kf ht hf => ?_; simp (disch := omega) [go_sem, *]; try (refine ⟨fun hc => ?_, fun hc => ?_⟩ <;> try (exfalso; omega))))
            refine ac_ret ?_
            try dsimp only [thenA, blockA]
            refine ⟨by simp, _, (by first | rfl | (simp (disch := omega) [go_sem] <;> rfl)), ?_⟩
            refine ret_id ⟨fun x hx => ?_, by simp [go_sem, below, belowL, resVal], by rfl, by simp, by simp⟩
            simp (disch := omega) only [upd_ne]; exact g1.out x hx
          · have hT2 := hT1.out
            rw [ha] at hT2
            simp only at hT2
            subst hT2
            have ez : encV (cpz v 0) = encV (cpV v) := by rw [cpz, if_pos rfl]
            have hmem := List.mem_of_getElem? hkv
            have hne : vs ≠ [] := fun e => by rw [e] at hmem; simp at hmem
            obtain ⟨rfl, rfl⟩ := hnl.out.resolve_left hne
            have kx := kc.out v hmem
            have hvk : vs[k] = v := by rw [List.getElem?_eq_getElem hk] at hkv; exact Option.some.inj hkv
            have hex : encV vs[k] = .agg [iv .i64 v.id, iv .i64 v.fr, .fslc v.nlL v.fuL v.sL (v.ls.map encLn), .fslc v.nlO v.fuO v.sO (v.os.map encO)] := by rw [hvk]; rfl
            have hcp : ∃ b1 b2 b3 L b4 b5 b6 O, encV (cpV v) = .agg [iv .i64 v.id, iv .i64 v.fr, .fslc b1 b2 b3 L, .fslc b4 b5 b6 O] := ⟨_, _, _, _, _, _, _, _, rfl⟩
            have hbl := fun m => below_encV m (cpV v)
            obtain ⟨b1, b2, b3, L, b4, b5, b6, O, hcp⟩ := hcp
            rw [hcp] at kx hbl ez
            replace ez : Hide _ := ez
            rw [show encV v = .agg [iv .i64 v.id, iv .i64 v.fr, .fslc v.nlL v.fuL v.sL (v.ls.map encLn), .fslc v.nlO v.fuO v.sO (v.os.map encO)] from rfl] at kx
            replace ha : Hide _ := trivial
            replace hat : Hide _ := trivial
            replace hT1 : Hide _ := trivial
            replace hkv : Hide _ := trivial
            replace hvk : Hide _ := trivial
            replace hcp : Hide _ := trivial
            replace hbl : Hide _ := hbl
            clear hmem hne
            obtain ⟨x1, x2, x3, x4, x5, x6, x7, x8, x9, x10⟩ := v
            simp only at hex kx hbl
            generalize List.map encLn x6 = LL at *
            generalize List.map encO x10 = OO at *
            repeat' (first | (refine ac_seq_h fun K hK => ?_) | (refine ac_region_h fun K hK => ?_; simp (disch := omega) [go_sem, *, ilt_false, ile_true]) | (apply Hide.out hK; clear hK K; try with_reducible dsimp only [thenA]) | (apply Hide.out hf; clear ht hf Kt Kf) | (clear hK K; apply Hide.out hK; clear hK K; try with_reducible dsimp only [thenA]) | (with_reducible refine APure.gcall (kx) ?_; try simp (disch := omega) [go_sem, *]) | (refine ac_skip ?_; simp only [thenA]) | (refine ac_exit ?_; simp only [thenA, blockA, if_true]) | (refine ac_cond_h fun Kt Kf ht hf => ?_; simp (disch := omega) [go_sem, *]; try (refine ⟨fun hc => ?_, fun hc => ?_⟩ <;> try (exfalso; omega))))
            refine ac_ret ?_
            try dsimp only [thenA, blockA]
            refine ⟨by simp, _, (by first | rfl | (simp (disch := omega) [go_sem] <;> rfl)), ?_⟩
            refine ret_id ⟨fun x hx => ?_, ?_, by show _ = AV.tup [encV (cpz _ 0), _]; rw [ez.out]; rfl, by simp, by simp⟩
            · simp (disch := omega) only [upd_ne]; exact g1.out x hx
            · have := hbl.out
              simp [go_sem, below, belowL, resVal] at this ⊢
              exact this _
  · rw [if_pos h1] at hT1
    subst hT1
    simp only [cpz]
    rw [if_neg h1]
    have hne : (e1 != 0) = true := by simpa using h1
    replace h1 : Hide _ := trivial
    generalize List.map encV vs = VV at *
    simp only [encV, zeroV, List.map_nil]
    repeat' (first | (refine ac_seq_h fun K hK => ?_) | (refine ac_region_h fun K hK => ?_; simp (disch := omega) [go_sem, *, Tryz.ntmps15 ]) | (apply Hide.out hK; clear hK K; try with_reducible dsimp only [thenA]) | (apply Hide.out ht; clear ht hf Kt Kf) | (with_reducible refine APure.gcall (k1) ?_; try simp (disch := omega) [go_sem, * ]) | (refine ac_cond_h fun Kt Kf ht hf => ?_; simp (disch := omega) [go_sem, * ]; try (refine ⟨fun hc => ?_, fun hc => ?_⟩ <;> try (exfalso; omega))))
    (refine ac_ret ?_; try dsimp only [thenA, blockA]; refine ⟨by simp, _, (by first | rfl | (simp (disch := omega) [go_sem] <;> rfl)), ?_⟩; refine ret_id ⟨fun k hk => (by first | rfl | (repeat rw [upd_ne _ _ _ _ (by omega)])), (by simp [go_sem, below, belowL]), (by simp [go_sem] <;> omega), by simp, by simp⟩)
theorem rInForce_spec (nl fu : Bool) (s : Nat) (vs : List Ver) (hnl : vs = [] ∨ nl = false ∧ s = 4) (hw : ∀ v ∈ vs, wfV v) (hl : vs.length ≤ 1000000) (day : Int) :
    APure Tryz.prog 16 [.fslc nl fu s (vs.map encV), iv .i64 day] (.agg (cellsOf (encV (forceV vs day).1) ++ [iv .i64 (forceV vs day).2])) := by
  intro h n
  have k1 := rcv_spec nl fu s vs hnl hw hl
  have k2 := rwithin_spec day 0 400
  refine ACalls.pure (ACalls.entry (by kernel_rfl) fun hb hbel => calls_of Tryz.func16 rfl (by kernel_rfl) (by simp [Tryz.ntmps16]) ?_)
  obtain ⟨T, hT⟩ : ∃ T, Hide (T = forceV vs day) := ⟨_, rfl⟩
  rw [← hT.out]
  have hT1 := hT.out
  unfold forceV at hT1
  replace hT : Hide _ := trivial
  replace hnl : Hide _ := hnl
  replace hw : Hide _ := hw
  generalize (chkV vs).2 = e2 at *
  generalize (chkV vs).1 = e1 at *
  by_cases h1 : e1 = 0
  · subst h1
    rw [if_neg (by simp)] at hT1
    cases hwi : wi day 0 400 with
    | false =>
      rw [if_pos hwi] at hT1
      rw [hwi] at k2
      subst hT1
      generalize List.map encV vs = VV at *
      replace hwi : Hide _ := trivial
      simp only [encV, zeroV, List.map_nil, cellsOf, List.cons_append, List.nil_append]
      repeat' (first | (refine ac_seq_h fun K hK => ?_) | (refine ac_region_h fun K hK => ?_; simp (disch := omega) [go_sem, *, Tryz.ntmps16 ]) | (apply Hide.out hK; clear hK K; try with_reducible dsimp only [thenA]) | (apply Hide.out ht; clear ht hf Kt Kf) | (apply Hide.out hf; clear ht hf Kt Kf) | (with_reducible refine APure.gcall (k1) ?_; try simp (disch := omega) [go_sem, * ]) | (with_reducible refine APure.gcall (k2) ?_; try simp (disch := omega) [go_sem, * ]) | (refine ac_skip ?_; simp only [thenA]) | (refine ac_cond_h fun Kt Kf ht hf => ?_; simp (disch := omega) [go_sem, * ]; try (refine ⟨fun hc => ?_, fun hc => ?_⟩ <;> try (exfalso; omega))))
      (refine ac_ret ?_; try dsimp only [thenA, blockA]; refine ⟨by simp, _, (by first | rfl | (simp (disch := omega) [go_sem] <;> rfl)), ?_⟩; refine ret_id ⟨fun k hk => (by first | rfl | (repeat rw [upd_ne _ _ _ _ (by omega)])), (by simp [go_sem, below, belowL]), (by simp [go_sem] <;> omega), by simp, by simp⟩)
    | true =>
      rw [if_neg (by rw [hwi]; simp)] at hT1
      rw [hwi] at k2
      replace hT1 : Hide _ := hT1
      replace hwi : Hide _ := trivial
      repeat' (first | (refine ac_seq_h fun K hK => ?_) | (refine ac_region_h fun K hK => ?_; simp (disch := omega) [go_sem, *, Tryz.ntmps16 ]) | (apply Hide.out hK; clear hK K; try with_reducible dsimp only [thenA]) | (apply Hide.out hf; clear ht hf Kt Kf) | (with_reducible refine APure.gcall (k1) ?_; try simp (disch := omega) [go_sem, * ]) | (with_reducible refine APure.gcall (k2) ?_; try simp (disch := omega) [go_sem, * ]) | (refine ac_block ?_) | (refine ac_skip ?_; simp only [thenA]) | (refine ac_cond_h fun Kt Kf ht hf => ?_; simp (disch := omega) [go_sem, * ]; try (refine ⟨fun hc => ?_, fun hc => ?_⟩ <;> try (exfalso; omega))))
      refine ac_loop_wk (fun s' => ∃ (i n' mB : Nat) (R : Ver × Int) (H : AHeap), n + 2 ≤ n' ∧ n < mB ∧ i ≤ vs.length ∧ R = (match inF (vs.take i) day with | some v => (v, 0) | none => (zeroV, 5)) ∧ H n = some (.cells [iv .i64 0, iv .i64 0, .fslc true true 0 [], .fslc true true 0 [], iv .i64 0]) ∧ H mB = some (.cells (cellsOf (encV R.1) ++ [iv .i64 R.2])) ∧ mB < n' ∧ (∀ x, x < n → H x = h x) ∧ s' = ⟨44, [(0, .fslc nl fu s (vs.map encV)), (1, iv .i64 day), (4, .ptr n 0), (8, .ptr mB 0), (9, iv .i64 i)], H, n'⟩) (fun s' => vs.length - (intAt s' 9).toNat) ?_ ?_
      · refine loop_start (by simp [go_sem]) (Sub.refl _) ⟨0, _, n + 1 + 7 + 2 + 3 + 2 + 1, (zeroV, 5), _, by (try simp only); omega, by omega, by omega, rfl, by simp (disch := omega) only [upd_ne, upd_same], ?_, by (try simp only); omega, fun x hx => by simp (disch := omega) only [upd_ne], rfl⟩
        simp (disch := omega) only [upd_same]; rfl
      · rintro s' ⟨i, n', mB, R, H, hn', hm0, hi, hR, g0, g2, hn3, g1, rfl⟩
        replace g1 : Hide _ := g1
        replace hR : Hide _ := hR
        by_cases hlt : i < vs.length
        · obtain ⟨x, hx⟩ : ∃ x, vs[i] = x := ⟨_, rfl⟩
          have hne : vs ≠ [] := fun e => by rw [e] at hlt; simp at hlt
          obtain ⟨rfl, rfl⟩ := hnl.out.resolve_left hne
          have hxs : vs[i]? = some x := by rw [List.getElem?_eq_getElem hlt, hx]
          have hst := inF_step (day := day) hxs
          have hex : encV vs[i] = .agg [iv .i64 x.id, iv .i64 x.fr, .fslc x.nlL x.fuL x.sL (x.ls.map encLn), .fslc x.nlO x.fuO x.sO (x.os.map encO)] := by rw [hx]; rfl
          clear hne
          replace hx : Hide _ := trivial
          have hnew : x.fr ≤ day → Hide ((x, (0 : Int)) = (match inF (vs.take (i + 1)) day with | some v => (v, 0) | none => (zeroV, 5))) := fun hc => by
            show _ = _
            rw [hst, if_pos hc]
          have hold : ¬ x.fr ≤ day → Hide (R = (match inF (vs.take (i + 1)) day with | some v => (v, 0) | none => (zeroV, 5))) := fun hc => by
            rw [if_neg hc] at hst
            show _ = _
            rw [hst]; exact hR.out
          have hcl : cellsOf (encV R.1) = [iv .i64 R.1.id, iv .i64 R.1.fr, .fslc R.1.nlL R.1.fuL R.1.sL (R.1.ls.map encLn), .fslc R.1.nlO R.1.fuO R.1.sO (R.1.os.map encO)] := rfl
          replace hst : Hide _ := trivial
          replace hxs : Hide _ := trivial
          have g3 := g2
          rw [hcl] at g2
          simp only [List.cons_append, List.nil_append] at g2
          have hcx : cellsOf (encV x) = [iv .i64 x.id, iv .i64 x.fr, .fslc x.nlL x.fuL x.sL (x.ls.map encLn), .fslc x.nlO x.fuO x.sO (x.os.map encO)] := rfl
          replace g3 : Hide _ := g3
          replace hcl : Hide _ := trivial
          replace hcx : Hide _ := hcx
          obtain ⟨x1, x2, x3, x4, x5, x6, x7, x8, x9, x10⟩ := x
          simp only at hex hnew hold
          generalize List.map encLn R.1.ls = LR at *
          generalize List.map encO R.1.os = OR at *
          generalize hLL : List.map encLn x6 = LL at *
          generalize hOO : List.map encO x10 = OO at *
          replace hLL : Hide _ := hLL
          replace hOO : Hide _ := hOO
          by_cases hc : x2 ≤ day
          · have hnew := hnew hc
            replace hold : Hide _ := trivial
            repeat' (first | (refine ac_seq_h fun K hK => ?_) | (refine ac_region_h fun K hK => ?_; simp (disch := omega) [go_sem, *, wrap64_id, ilt_true, ile_true]) | (apply Hide.out hK; clear hK K; try with_reducible dsimp only [thenA]) | (apply Hide.out ht; clear ht hf Kt Kf) | (refine ac_block ?_) | (refine ac_skip ?_; simp only [thenA]) | (refine ac_cond_h fun Kt Kf ht hf => ?_; simp (disch := omega) [go_sem, *]; try (refine ⟨fun hc => ?_, fun hc => ?_⟩ <;> try (exfalso; omega))))
            refine round_end (by simp (disch := omega) [go_sem]) (Sub.refl _) ⟨i + 1, _, _, _, _, by (try simp only); omega, hm0, by omega, hnew.out, ?_, ?_, by (try simp only); omega, fun x hx => ?_, rfl⟩ (by simp [intAt, go_sem]; omega)
            · simp (disch := omega) only [upd_ne]; exact g0
            · rw [← hLL.out, ← hOO.out]; simp (disch := omega) only [upd_same]; rfl
            · simp (disch := omega) only [upd_ne]; exact g1.out x hx
          · have hold := hold hc
            replace hnew : Hide _ := trivial
            repeat' (first | (refine ac_seq_h fun K hK => ?_) | (refine ac_region_h fun K hK => ?_; simp (disch := omega) [go_sem, *, wrap64_id, ilt_true, ile_true]) | (apply Hide.out hK; clear hK K; try with_reducible dsimp only [thenA]) | (apply Hide.out ht; clear ht hf Kt Kf) | (apply Hide.out hf; clear ht hf Kt Kf) | (refine ac_block ?_) | (refine ac_skip ?_; simp only [thenA, blockA]) | (refine ac_cond_h fun Kt Kf ht hf => ?_; simp (disch := omega) [go_sem, *]; try (refine ⟨fun hc => ?_, fun hc => ?_⟩ <;> try (exfalso; omega))))
            refine round_end (by simp (disch := omega) [go_sem]) (Sub.refl _) ⟨i + 1, _, _, _, _, by (try simp only); omega, hm0, by omega, hold.out, ?_, ?_, by (try simp only); omega, fun x hx => ?_, rfl⟩ (by simp [intAt, go_sem]; omega)
            · exact g0
            · exact g3.out
            · exact g1.out x hx
        · have hii : i = vs.length := by omega
          subst hii
          have hRT : R = T := by
            rw [hT1.out, hR.out, List.take_length]
            cases inF vs day <;> rfl
          subst hRT
          have hbl := fun m => below_encV m R.1
          replace hR : Hide _ := trivial
          replace hT1 : Hide _ := trivial
          simp only [encV] at hbl
          simp only [encV, cellsOf, List.cons_append, List.nil_append] at g2
          replace hbl : Hide _ := hbl
          obtain ⟨V, e⟩ := R
          obtain ⟨x1, x2, x3, x4, x5, x6, x7, x8, x9, x10⟩ := V
          simp only at g2
          have hfin : (AV.agg (cellsOf (encV ⟨x1, x2, x3, x4, x5, x6, x7, x8, x9, x10⟩) ++ [iv .i64 e])) = .agg [iv .i64 x1, iv .i64 x2, .fslc x3 x4 x5 (x6.map encLn), .fslc x7 x8 x9 (x10.map encO), iv .i64 e] := rfl
          replace hfin : Hide _ := hfin
          generalize List.map encLn x6 = LL at *
          generalize List.map encO x10 = OO at *
          repeat' (first | (refine ac_seq_h fun K hK => ?_) | (refine ac_region_h fun K hK => ?_; simp (disch := omega) [go_sem, *]) | (apply Hide.out hK; clear hK K; try with_reducible dsimp only [thenA]) | (apply Hide.out hf; clear ht hf Kt Kf) | (clear hK K; apply Hide.out hK; clear hK K; try with_reducible dsimp only [thenA]) | (refine ac_exit ?_; simp only [thenA, blockA, if_true]) | (refine ac_cond_h fun Kt Kf ht hf => ?_; simp (disch := omega) [go_sem, *]; try (refine ⟨fun hc => ?_, fun hc => ?_⟩ <;> try (exfalso; omega))))
          refine ac_ret ?_
          try dsimp only [thenA, blockA]
          refine ⟨by simp, _, (by first | rfl | (simp (disch := omega) [go_sem] <;> rfl)), ?_⟩
          refine ret_id ⟨fun x hx => ?_, ?_, hfin.out.symm, by simp, by simp⟩
          · simp (disch := omega) only [upd_ne]; exact g1.out x hx
          · have := hbl.out
            simp [go_sem, below, belowL, resVal, iv] at this ⊢
            exact this _
  · rw [if_pos h1] at hT1
    subst hT1
    have hne : (e1 != 0) = true := by simpa using h1
    replace h1 : Hide _ := trivial
    generalize List.map encV vs = VV at *
    simp only [encV, zeroV, List.map_nil, cellsOf, List.cons_append, List.nil_append]
    repeat' (first | (refine ac_seq_h fun K hK => ?_) | (refine ac_region_h fun K hK => ?_; simp (disch := omega) [go_sem, *, Tryz.ntmps16 ]) | (apply Hide.out hK; clear hK K; try with_reducible dsimp only [thenA]) | (apply Hide.out ht; clear ht hf Kt Kf) | (with_reducible refine APure.gcall (k1) ?_; try simp (disch := omega) [go_sem, * ]) | (refine ac_cond_h fun Kt Kf ht hf => ?_; simp (disch := omega) [go_sem, * ]; try (refine ⟨fun hc => ?_, fun hc => ?_⟩ <;> try (exfalso; omega))))
    (refine ac_ret ?_; try dsimp only [thenA, blockA]; refine ⟨by simp, _, (by first | rfl | (simp (disch := omega) [go_sem] <;> rfl)), ?_⟩; refine ret_id ⟨fun k hk => (by first | rfl | (repeat rw [upd_ne _ _ _ _ (by omega)])), (by simp [go_sem, below, belowL]), (by simp [go_sem] <;> omega), by simp, by simp⟩)
end Go.AM
