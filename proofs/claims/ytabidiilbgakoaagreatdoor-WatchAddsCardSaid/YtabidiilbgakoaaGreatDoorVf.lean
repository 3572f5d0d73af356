/- Check of a version and Add, by the specification. Conditions: as each theorem says. -/
import Derived.Test.YtabidiilbgakoaaGreatDoorPb
import Derived.Test.YtabidiilbgakoaaGreatDoorVe
namespace Go.AM
open Go.Proofs Cw Du
set_option maxRecDepth 10000
set_option maxHeartbeats 4000000
theorem rcv_spec (nl fu : Bool) (s : Nat) (vs : List Ver) (hnl : vs = [] ∨ nl = false ∧ s = 4) (hw : ∀ v ∈ vs, wfV v) (hl : vs.length ≤ 1000000) :
    APure Tryz.prog 12 [.fslc nl fu s (vs.map encV)] (.tup [iv .i64 (chkV vs).1, iv .i64 (chkV vs).2]) := by
  intro h n
  refine ACalls.pure (ACalls.entry (by kernel_rfl) fun hb _ => calls_of Tryz.func12 rfl (by kernel_rfl) (by simp [Tryz.ntmps12]) ?_)
  obtain ⟨T, hT⟩ : ∃ T, Hide (T = chkV vs) := ⟨_, rfl⟩
  rw [← hT.out]
  replace hnl : Hide _ := hnl
  replace hw : Hide _ := hw
  by_cases h20 : 20 < vs.length
  · have hT2 : T = (2, 0) := by rw [hT.out, chkV, if_pos h20]
    subst hT2
    replace hT : Hide _ := trivial
    repeat' (first | (refine ac_seq_h fun K hK => ?_) | (refine ac_region_h fun K hK => ?_; simp (disch := omega) [go_sem, *, ilt_true, Tryz.ntmps12]) | (apply Hide.out hK; clear hK K; try with_reducible dsimp only [thenA]) | (apply Hide.out ht; clear ht hf Kt Kf) | (refine ac_cond_h fun Kt Kf ht hf => ?_; simp (disch := omega) [go_sem, *]; try (refine ⟨fun hc => ?_, fun hc => ?_⟩ <;> try (exfalso; omega))))
    (refine ac_ret ?_; try dsimp only [thenA, blockA]; refine ⟨by simp, _, (by first | rfl | (simp (disch := omega) [go_sem, upd_ne] <;> rfl)), ?_⟩; refine ret_id ⟨fun k hk => (by first | rfl | (repeat rw [upd_ne _ _ _ _ (by omega)])), (by simp [go_sem, below, belowL]), (by simp [go_sem] <;> omega), by simp, by simp⟩)
  · have hT2 : goV vs (vs.length - 0) 0 = T := by rw [hT.out, chkV, if_neg h20]; rfl
    replace hT : Hide _ := trivial
    replace hT2 : Hide _ := hT2
    repeat' (first | (refine ac_seq_h fun K hK => ?_) | (refine ac_region_h fun K hK => ?_; simp (disch := omega) [go_sem, *, ilt_false, Tryz.ntmps12]) | (apply Hide.out hK; clear hK K; try with_reducible dsimp only [thenA]) | (apply Hide.out hf; clear ht hf Kt Kf) | (refine ac_block ?_) | (refine ac_skip ?_; simp only [thenA]) | (refine ac_cond_h fun Kt Kf ht hf => ?_; simp (disch := omega) [go_sem, *]; try (refine ⟨fun hc => ?_, fun hc => ?_⟩ <;> try (exfalso; omega))))
    refine ac_loop_wk (fun s' => ∃ (i n' : Nat), n ≤ n' ∧ i ≤ vs.length ∧ goV vs (vs.length - i) i = T ∧ s' = ⟨83, [(0, .fslc nl fu s (vs.map encV)), (4, iv .i64 i)], h, n'⟩)
      (fun s' => vs.length - (intAt s' 4).toNat) ?_ ?_
    · exact loop_start (by simp [go_sem]) (Sub.refl _) ⟨0, _, by omega, by omega, hT2.out, rfl⟩
    · rintro s' ⟨i, n', hn', hi, hc, rfl⟩
      by_cases hlt : i < vs.length
      · obtain ⟨v, hv⟩ : ∃ v, vs[i] = v := ⟨_, rfl⟩
        have hmem : v ∈ vs := hv ▸ List.getElem_mem hlt
        have hne : vs ≠ [] := fun e => by rw [e] at hlt; simp at hlt
        obtain ⟨rfl, rfl⟩ := hnl.out.resolve_left hne
        have hvs : vs[i]? = some v := by rw [List.getElem?_eq_getElem hlt, hv]
        have hwv := hw.out v hmem
        rw [goV_step hvs] at hc
        have hex : encV vs[i] = .agg [iv .i64 v.id, iv .i64 v.fr, .fslc v.nlL v.fuL v.sL (v.ls.map encLn), .fslc v.nlO v.fuO v.sO (v.os.map encO)] := by rw [hv]; rfl
        have k1 := rwithin_spec v.id 1 1099511627776
        have k2 := rwithin_spec v.fr 0 400
        have k4 := rcheck_spec v.nlL v.fuL v.sL v.ls hwv.l1 hwv.l2 hwv.l3 v.nlO v.fuO v.sO v.os hwv.o1 hwv.o2 hwv.o3 hwv.o4
        obtain ⟨pf, hpf⟩ : ∃ pf, ((vs[i - 1]?).map Ver.fr).getD 0 = pf := ⟨_, rfl⟩
        have hpe : 0 < i → ∃ a c d, (List.map encV vs)[i - 1]? = some (.agg [iv .i64 a, iv .i64 pf, c, d]) := fun h0 => by
          have h1 : i - 1 < vs.length := by omega
          exact ⟨(vs[i - 1]).id, .fslc (vs[i - 1]).nlL (vs[i - 1]).fuL (vs[i - 1]).sL ((vs[i - 1]).ls.map encLn), .fslc (vs[i - 1]).nlO (vs[i - 1]).fuO (vs[i - 1]).sO ((vs[i - 1]).os.map encO), by rw [List.getElem?_map, List.getElem?_eq_getElem h1, ← hpf, List.getElem?_eq_getElem h1]; rfl⟩
        have herr : errV vs i v = if wi v.id 1 1099511627776 = false ∨ wi v.fr 0 400 = false ∨ (0 < i ∧ v.fr ≤ pf) then 1 else if (vs.take i).any (fun x => decide (x.id = v.id)) then 6 else chkW v.ls v.os := by rw [errV, hpf]; rfl
        obtain ⟨er, her⟩ : ∃ er, errV vs i v = er := ⟨_, rfl⟩
        rw [her] at hc
        rw [her] at herr
        obtain ⟨v1, v2, v3, v4, v5, v6, v7, v8, v9, v10⟩ := v
        simp only at *
        generalize List.map encLn v6 = LL at *
        generalize List.map encO v10 = OO at *
        obtain ⟨tw, htw⟩ : ∃ tw, (vs.take i).any (fun x => decide (x.id = v1)) = tw := ⟨_, rfl⟩
        rw [htw] at herr
        generalize chkW v6 v10 = ce at *
        generalize wi v1 1 1099511627776 = w1 at *
        generalize wi v2 0 400 = w2 at *
        replace hv : Hide _ := hv
        replace hvs : Hide _ := hvs
        replace hpe : Hide _ := hpe
        replace htw : Hide _ := htw
        clear hmem hne hwv hpf her
        cases w1 with
        | false =>
          rw [if_pos (.inl rfl)] at herr
          subst herr
          rw [if_neg (by decide)] at hc
          subst hc
          repeat' (first | (refine ac_seq_h fun K hK => ?_) | (refine ac_region_h fun K hK => ?_; simp (disch := omega) [go_sem, *, ilt_true, ile_true]) | (refine ac_quiet_h mixed (by kernel_rfl) fun K hK => ?_; simp (disch := omega) [go_sem, *]) | (refine aQ_c (by simp [go_sem]) (by simp (disch := omega) [go_sem, *]; first | exact rfl | exact ⟨rfl, rfl, rfl⟩ | exact (k1).gcall ⟨rfl, rfl, rfl⟩ | exact (k2).gcall ⟨rfl, rfl, rfl⟩ | exact (k4).gcall ⟨rfl, rfl, rfl⟩) ?_; try simp only [pS_some]) | (refine aQ_end ?_) | (apply Hide.out hK; clear hK K; try with_reducible dsimp only [thenA]) | (apply Hide.out ht; clear ht hf Kt Kf) | (with_reducible refine APure.gcall (k1) ?_; try simp (disch := omega) [go_sem, *]) | (with_reducible refine APure.gcall (k2) ?_; try simp (disch := omega) [go_sem, *]) | (refine ac_block ?_) | (refine ac_skip ?_; simp only [thenA]) | (refine ac_cond_h fun Kt Kf ht hf => ?_; simp (disch := omega) [go_sem, *]; try (refine ⟨fun hc => ?_, fun hc => ?_⟩ <;> try (exfalso; omega))))
          (refine ac_ret ?_; try dsimp only [thenA, blockA]; refine ⟨by simp, _, (by first | rfl | (simp (disch := omega) [go_sem, upd_ne] <;> rfl)), ?_⟩; refine ret_id ⟨fun k hk => (by first | rfl | (repeat rw [upd_ne _ _ _ _ (by omega)])), (by simp [go_sem, below, belowL]), (by simp [go_sem] <;> omega), by simp, by simp⟩)
        | true =>
          cases w2 with
          | false =>
            rw [if_pos (.inr (.inl rfl))] at herr
            subst herr
            rw [if_neg (by decide)] at hc
            subst hc
            repeat' (first | (refine ac_seq_h fun K hK => ?_) | (refine ac_region_h fun K hK => ?_; simp (disch := omega) [go_sem, *, ilt_true, ile_true]) | (refine ac_quiet_h mixed (by kernel_rfl) fun K hK => ?_; simp (disch := omega) [go_sem, *]) | (refine aQ_c (by simp [go_sem]) (by simp (disch := omega) [go_sem, *]; first | exact rfl | exact ⟨rfl, rfl, rfl⟩ | exact (k1).gcall ⟨rfl, rfl, rfl⟩ | exact (k2).gcall ⟨rfl, rfl, rfl⟩ | exact (k4).gcall ⟨rfl, rfl, rfl⟩) ?_; try simp only [pS_some]) | (refine aQ_end ?_) | (apply Hide.out hK; clear hK K; try with_reducible dsimp only [thenA]) | (apply Hide.out ht; clear ht hf Kt Kf) | (with_reducible refine APure.gcall (k1) ?_; try simp (disch := omega) [go_sem, *]) | (with_reducible refine APure.gcall (k2) ?_; try simp (disch := omega) [go_sem, *]) | (refine ac_block ?_) | (refine ac_skip ?_; simp only [thenA]) | (refine ac_cond_h fun Kt Kf ht hf => ?_; simp (disch := omega) [go_sem, *]; try (refine ⟨fun hc => ?_, fun hc => ?_⟩ <;> try (exfalso; omega))))
            (refine ac_ret ?_; try dsimp only [thenA, blockA]; refine ⟨by simp, _, (by first | rfl | (simp (disch := omega) [go_sem, upd_ne] <;> rfl)), ?_⟩; refine ret_id ⟨fun k hk => (by first | rfl | (repeat rw [upd_ne _ _ _ _ (by omega)])), (by simp [go_sem, below, belowL]), (by simp [go_sem] <;> omega), by simp, by simp⟩)
          | true =>
            by_cases hbad : 0 < i ∧ v2 ≤ pf
            · rw [if_pos (.inr (.inr hbad))] at herr
              subst herr
              rw [if_neg (by decide)] at hc
              subst hc
              obtain ⟨h0, hle⟩ := hbad
              obtain ⟨pa, pc, pd, hg⟩ := hpe.out h0
              have hi1 : ((i : Int) - 1).toNat = i - 1 := by omega
              have hmx : (if 1 < (i : Int) then (i : Int) - 1 else 0) = (i : Int) - 1 := by split <;> omega
              have hgt : (0 : Int) < i := by omega
              replace hpe : Hide _ := trivial
              repeat' (first | (refine ac_seq_h fun K hK => ?_) | (refine ac_region_h fun K hK => ?_; simp (disch := omega) [go_sem, *, ilt_true, ile_true]) | (refine ac_quiet_h mixed (by kernel_rfl) fun K hK => ?_; simp (disch := omega) [go_sem, *]) | (refine aQ_c (by simp [go_sem]) (by simp (disch := omega) [go_sem, *, wrap64_id, ile_true]; first | exact rfl | exact ⟨rfl, rfl, rfl⟩ | exact (k1).gcall ⟨rfl, rfl, rfl⟩ | exact (k2).gcall ⟨rfl, rfl, rfl⟩ | exact (k4).gcall ⟨rfl, rfl, rfl⟩) ?_; try simp only [pS_some]) | (refine aQ_end ?_) | (apply Hide.out hK; clear hK K; try with_reducible dsimp only [thenA]) | (apply Hide.out ht; clear ht hf Kt Kf) | (with_reducible refine APure.gcall (k1) ?_; try simp (disch := omega) [go_sem, *]) | (with_reducible refine APure.gcall (k2) ?_; try simp (disch := omega) [go_sem, *]) | (refine ac_block ?_) | (refine ac_skip ?_; simp only [thenA]) | (refine ac_cond_h fun Kt Kf ht hf => ?_; simp (disch := omega) [go_sem, *]; try (refine ⟨fun hc => ?_, fun hc => ?_⟩ <;> try (exfalso; omega))))
              (refine ac_ret ?_; try dsimp only [thenA, blockA]; refine ⟨by simp, _, (by first | rfl | (simp (disch := omega) [go_sem, upd_ne] <;> rfl)), ?_⟩; refine ret_id ⟨fun k hk => (by first | rfl | (repeat rw [upd_ne _ _ _ _ (by omega)])), (by simp [go_sem, below, belowL]), (by simp [go_sem] <;> omega), by simp, by simp⟩)
            · rw [if_neg (by rintro (h | h | h); cases h; cases h; exact hbad h)] at herr
              repeat' (first | (refine ac_seq_h fun K hK => ?_) | (refine ac_region_h fun K hK => ?_; simp (disch := omega) [go_sem, *, ilt_true, ile_true]) | (apply Hide.out hK; clear hK K; try with_reducible dsimp only [thenA]) | (apply Hide.out ht; clear ht hf Kt Kf) | (with_reducible refine APure.gcall (k1) ?_; try simp (disch := omega) [go_sem, *]) | (with_reducible refine APure.gcall (k2) ?_; try simp (disch := omega) [go_sem, *]) | (refine ac_block ?_) | (refine ac_skip ?_; simp only [thenA]) | (refine ac_cond_h fun Kt Kf ht hf => ?_; simp (disch := omega) [go_sem, *]; try (refine ⟨fun hc => ?_, fun hc => ?_⟩ <;> try (exfalso; omega))))
              refine ac_midV (fun st => ∃ n2, n' ≤ n2 ∧ st = ⟨83, [(0, .fslc false fu 4 (vs.map encV)), (4, iv .i64 i), (54, bv false)], h, n2⟩) ?_ ?_
              · rintro s' ⟨n2, hn2, rfl⟩
                refine hK.out _ ?_
                clear hK K
                replace hpe : Hide _ := trivial
                clear k1 k2
                repeat' (first | (refine ac_seq_h fun K hK => ?_) | (refine ac_region_h fun K hK => ?_; simp (disch := omega) [go_sem, *]) | (apply Hide.out hK; clear hK K; try with_reducible dsimp only [thenA]) | (apply Hide.out hf; clear ht hf Kt Kf) | (refine ac_block ?_) | (refine ac_skip ?_; simp only [thenA]) | (refine ac_cond_h fun Kt Kf ht hf => ?_; simp (disch := omega) [go_sem, *]; try (refine ⟨fun hc => ?_, fun hc => ?_⟩ <;> try (exfalso; omega))))
                refine ac_loop_wk (fun s' => ∃ (k n3 : Nat), n' ≤ n3 ∧ k ≤ i ∧ (∀ j x, j < k → vs[j]? = some x → x.id ≠ v1) ∧ s' = ⟨83, [(0, .fslc false fu 4 (vs.map encV)), (4, iv .i64 i), (7, iv .i64 k)], h, n3⟩) (fun s' => i - (intAt s' 7).toNat) ?_ ?_
                · exact loop_start (by simp [go_sem]) (Sub.refl _) ⟨0, _, by (try simp only); omega, by omega, fun j x hj => by omega, rfl⟩
                · rintro s' ⟨k, n3, hn3, hk, hall, rfl⟩
                  replace hall : Hide _ := hall
                  by_cases hki : k < i
                  · have hkl : k < vs.length := by omega
                    obtain ⟨w, hw2⟩ : ∃ w, vs[k] = w := ⟨_, rfl⟩
                    have hwx : encV vs[k] = .agg [iv .i64 w.id, iv .i64 w.fr, .fslc w.nlL w.fuL w.sL (w.ls.map encLn), .fslc w.nlO w.fuO w.sO (w.os.map encO)] := by rw [hw2]; rfl
                    have hws : vs[k]? = some w := by rw [List.getElem?_eq_getElem hkl, hw2]
                    replace hw2 : Hide _ := hw2
                    have hrel : (w.id == v1) = true → tw = true := fun e => by
                      rw [← htw.out, List.any_eq_true]
                      exact ⟨w, List.mem_of_getElem? (i := k) (by rw [List.getElem?_take, if_pos hki]; exact hws), by simpa using e⟩
                    replace hws : Hide _ := hws
                    obtain ⟨w1, w2, w3, w4, w5, w6, w7, w8, w9, w10⟩ := w
                    simp only at hwx hrel
                    generalize List.map encLn w6 = LW at *
                    generalize List.map encO w10 = OW at *
                    cases hq : (w1 == v1) with
                    | true =>
                      rw [hrel hq] at herr
                      rw [if_pos rfl] at herr
                      subst herr
                      rw [if_neg (by decide)] at hc
                      subst hc
                      replace hrel : Hide _ := trivial
                      repeat' (first | (refine ac_seq_h fun K hK => ?_) | (refine ac_region_h fun K hK => ?_; simp (disch := omega) [go_sem, *, ilt_true]) | (refine ac_draw_h mixed (by kernel_rfl) fun K hK => ?_; simp (disch := omega) [go_sem, *, ile_true]) | (apply Hide.out hK; clear hK K; try with_reducible dsimp only [thenA]) | (apply Hide.out ht; clear ht hf Kt Kf) | (refine ac_block ?_) | (refine ac_skip ?_; simp only [thenA]) | (refine ac_cond_h fun Kt Kf ht hf => ?_; simp (disch := omega) [go_sem, *]; try (refine ⟨fun hc => ?_, fun hc => ?_⟩ <;> try (exfalso; omega))))
                      (refine ac_ret ?_; try dsimp only [thenA, blockA]; refine ⟨by simp, _, (by first | rfl | (simp (disch := omega) [go_sem, upd_ne] <;> rfl)), ?_⟩; refine ret_id ⟨fun k hk => (by first | rfl | (repeat rw [upd_ne _ _ _ _ (by omega)])), (by simp [go_sem, below, belowL]), (by simp [go_sem] <;> omega), by simp, by simp⟩)
                    | false =>
                      replace hrel : Hide _ := trivial
                      have hall2 : Hide (∀ j x, j < k + 1 → vs[j]? = some x → x.id ≠ v1) := fun j x hj hx => by
                        rcases Nat.lt_or_ge j k with h1 | h1
                        · exact hall.out j x h1 hx
                        · have : j = k := by omega
                          subst this
                          rw [hws.out] at hx; cases hx
                          simpa using hq
                      replace herr : Hide _ := herr
                      replace hc : Hide _ := hc
                      repeat' (first | (refine ac_seq_h fun K hK => ?_) | (refine ac_region_h fun K hK => ?_; simp (disch := omega) [go_sem, *, wrap64_id, ilt_true]) | (refine ac_draw_h mixed (by kernel_rfl) fun K hK => ?_; simp (disch := omega) [go_sem, *, ile_true]) | (apply Hide.out hK; clear hK K; try with_reducible dsimp only [thenA]) | (apply Hide.out ht; clear ht hf Kt Kf) | (apply Hide.out hf; clear ht hf Kt Kf) | (refine ac_block ?_) | (refine ac_skip ?_; simp only [thenA, blockA]) | (refine ac_cond_h fun Kt Kf ht hf => ?_; simp (disch := omega) [go_sem, *]; try (refine ⟨fun hc => ?_, fun hc => ?_⟩ <;> try (exfalso; omega))))
                      exact round_end (by simp (disch := omega) [go_sem]) (Sub.refl _) ⟨k + 1, _, by omega, by omega, hall2.out, rfl⟩ (by simp [intAt, go_sem]; omega)
                  · have htf : tw = false := by
                      rw [← htw.out, List.any_eq_false]
                      intro x hx
                      obtain ⟨j, hj⟩ := List.getElem?_of_mem hx
                      have hji := (List.getElem?_eq_some_iff.1 hj).1
                      rw [List.length_take] at hji
                      rw [List.getElem?_take, if_pos (by omega)] at hj
                      simpa using hall.out j x (by omega) hj
                    rw [htf, if_neg (by simp)] at herr
                    subst herr
                    have hkk : k = i := by omega
                    subst hkk
                    by_cases hce : er = 0
                    · rw [hce] at hc k4
                      rw [if_pos rfl] at hc
                      replace hc : Hide _ := hc
                      repeat' (first | (refine ac_seq_h fun K hK => ?_) | (refine ac_region_h fun K hK => ?_; simp (disch := omega) [go_sem, *, wrap64_id, ile_true]) | (apply Hide.out hK; clear hK K; try with_reducible dsimp only [thenA]) | (apply Hide.out hf; clear ht hf Kt Kf) | (clear hK K; apply Hide.out hK; clear hK K; try with_reducible dsimp only [thenA]) | (with_reducible refine APure.gcall (k4) ?_; try simp (disch := omega) [go_sem, *]) | (refine ac_skip ?_; simp only [thenA, blockA]) | (refine ac_exit ?_; simp only [thenA, blockA, if_true, if_false, Nat.reduceEqDiff]) | (refine ac_cond_h fun Kt Kf ht hf => ?_; simp (disch := omega) [go_sem, *]; try (refine ⟨fun hc => ?_, fun hc => ?_⟩ <;> try (exfalso; omega))))
                      exact round_end (by simp (disch := omega) [go_sem]) (Sub.refl _) ⟨k + 1, _, by omega, by omega, hc.out, rfl⟩ (by simp [intAt, go_sem]; omega)
                    · rw [if_neg hce] at hc
                      subst hc
                      have hne : (er != 0) = true := by simpa using hce
                      replace hce : Hide _ := trivial
                      repeat' (first | (refine ac_seq_h fun K hK => ?_) | (refine ac_region_h fun K hK => ?_; simp (disch := omega) [go_sem, *, ile_true]) | (apply Hide.out hK; clear hK K; try with_reducible dsimp only [thenA]) | (apply Hide.out ht; clear ht hf Kt Kf) | (apply Hide.out hf; clear ht hf Kt Kf) | (clear hK K; apply Hide.out hK; clear hK K; try with_reducible dsimp only [thenA]) | (with_reducible refine APure.gcall (k4) ?_; try simp (disch := omega) [go_sem, *]) | (refine ac_exit ?_; simp only [thenA, blockA, if_true, if_false, Nat.reduceEqDiff]) | (refine ac_cond_h fun Kt Kf ht hf => ?_; simp (disch := omega) [go_sem, *]; try (refine ⟨fun hc => ?_, fun hc => ?_⟩ <;> try (exfalso; omega))))
                      (refine ac_ret ?_; try dsimp only [thenA, blockA]; refine ⟨by simp, _, (by first | rfl | (simp (disch := omega) [go_sem, upd_ne] <;> rfl)), ?_⟩; refine ret_id ⟨fun k hk => (by first | rfl | (repeat rw [upd_ne _ _ _ _ (by omega)])), (by simp [go_sem, below, belowL]), (by simp [go_sem] <;> omega), by simp, by simp⟩)
              · replace hc : Hide _ := trivial
                replace herr : Hide _ := trivial
                clear k1 k2 k4
                by_cases h0 : 0 < i
                · obtain ⟨pa, pc, pd, hg⟩ := hpe.out h0
                  have hi1 : ((i : Int) - 1).toNat = i - 1 := by omega
                  have hmx : (if 1 < (i : Int) then (i : Int) - 1 else 0) = (i : Int) - 1 := by split <;> omega
                  have hgt : (0 : Int) < i := by omega
                  have hle : ¬ v2 ≤ pf := fun e => hbad ⟨h0, e⟩
                  replace hpe : Hide _ := trivial
                  replace hK : Hide _ := trivial
                  refine ac_quiet_h mixed (by kernel_rfl) fun K hK => ?_
                  simp (disch := omega) [go_sem, *]
                  repeat' (first | (refine aQ_c (by simp [go_sem]) (by simp (disch := omega) [go_sem, *, wrap64_id, ile_true]; first | exact rfl | exact ⟨rfl, rfl, rfl⟩) ?_; try simp only [pS_some]) | (refine aQ_end ?_) | (apply Hide.out hK; clear hK K; try with_reducible dsimp only [thenA]))
                  exact ⟨_, Wk.of (by simp [go_sem]) (Sub.refl _), _, by omega, rfl⟩
                · have hi0 : i = 0 := by omega
                  subst hi0
                  replace hpe : Hide _ := trivial
                  replace hK : Hide _ := trivial
                  refine ac_quiet_h mixed (by kernel_rfl) fun K hK => ?_
                  simp (disch := omega) [go_sem, *]
                  repeat' (first | (refine aQ_c (by simp [go_sem]) (by simp (disch := omega) [go_sem, *]; first | exact rfl | exact ⟨rfl, rfl, rfl⟩) ?_; try simp only [pS_some]) | (refine aQ_end ?_) | (apply Hide.out hK; clear hK K; try with_reducible dsimp only [thenA]))
                  exact ⟨_, Wk.of (by simp [go_sem]) (Sub.refl _), _, by omega, rfl⟩
      · rw [goV_end (by omega)] at hc
        subst hc
        repeat' (first | (refine ac_seq_h fun K hK => ?_) | (refine ac_region_h fun K hK => ?_; simp (disch := omega) [go_sem, *, ilt_false]) | (apply Hide.out hK; clear hK K; try with_reducible dsimp only [thenA]) | (apply Hide.out hf; clear ht hf Kt Kf) | (clear hK K; apply Hide.out hK; clear hK K; try with_reducible dsimp only [thenA]) | (refine ac_exit ?_; simp only [thenA, blockA, if_true]) | (refine ac_cond_h fun Kt Kf ht hf => ?_; simp (disch := omega) [go_sem, *]; try (refine ⟨fun hc => ?_, fun hc => ?_⟩ <;> try (exfalso; omega))))
        (refine ac_ret ?_; try dsimp only [thenA, blockA]; refine ⟨by simp, _, (by first | rfl | (simp (disch := omega) [go_sem, upd_ne] <;> rfl)), ?_⟩; refine ret_id ⟨fun k hk => (by first | rfl | (repeat rw [upd_ne _ _ _ _ (by omega)])), (by simp [go_sem, below, belowL]), (by simp [go_sem] <;> omega), by simp, by simp⟩)
end Go.AM
namespace Go.AM
open Go.Proofs Cw Du
set_option maxRecDepth 10000
set_option maxHeartbeats 4000000
theorem apV_S (nm m : Nat) (h : AHeap) (b c : Bool) (C xs : List AV) (len : Nat) (hm : h m = some (.cells C)) (hc : C.length = len * 4) (hx : xs.length ≠ 0) (hl : len + xs.length ≤ 67108864) :
    aAppend Tryz.prog nm 22 (.slc m 0 len 4) (.fslc b c 4 xs) h = some (.slc nm 0 (len + xs.length) 4, (h.upd m none).upd nm (some (.cells (C ++ flat xs)))) := by
  have h1 : ¬ (len + xs.length) * 4 ≤ len * 4 := by omega
  simp [aAppend, eltOf22, szOf28, byOf28, zerOf28, srcCells, cellsOf, AV.scalar, h1, hl, hm, hc]
theorem apV_S0 (nm m : Nat) (h : AHeap) (b c : Bool) (s : Nat) (C : List AV) (len : Nat) (hm : h m = some (.cells C)) (hc : C.length = len * 4) :
    aAppend Tryz.prog nm 22 (.slc m 0 len 4) (.fslc b c s []) h = some (.slc m 0 len 4, h.upd m (some (.cells C))) := by
  have e : splice C (len * 4) [] = C := by simp [splice, ← hc]
  by_cases hs : s = 4
  · subst hs; simp [aAppend, eltOf22, szOf28, byOf28, zerOf28, srcCells, cellsOf, AV.scalar, flat, hm, hc, e]
  · simp [aAppend, eltOf22, szOf28, byOf28, zerOf28, srcCells, cellsOf, AV.scalar, hm, hc, e, hs]
theorem rAdd_spec (nl fu : Bool) (s : Nat) (vs : List Ver) (v : Ver) (hnl : vs = [] ∨ nl = false ∧ s = 4) (hw : ∀ v ∈ vs, wfV v) (hv : wfV v) (hl : vs.length ≤ 1000) :
    APure Tryz.prog 14 [.fslc nl fu s (vs.map encV), encV v] (.agg [vsF (addV vs v).1, iv .i64 (addV vs v).2]) := by
  intro h n
  have k1 := rcv_spec nl fu s vs hnl hw (by omega)
  refine ACalls.pure (ACalls.entry (by kernel_rfl) fun hb hbel => calls_of Tryz.func14 rfl (by kernel_rfl) (by simp [Tryz.ntmps14]) ?_)
  obtain ⟨T, hT⟩ : ∃ T, Hide (T = addV vs v) := ⟨_, rfl⟩
  rw [← hT.out]
  have hT1 := hT.out
  rw [addV, clashV] at hT1
  replace hT : Hide _ := trivial
  have eV : encV v = .agg [iv .i64 v.id, iv .i64 v.fr, .fslc v.nlL v.fuL v.sL (v.ls.map encLn), .fslc v.nlO v.fuO v.sO (v.os.map encO)] := rfl
  by_cases h1 : (chkV vs).1 = 0
  · rw [if_neg (by simpa using h1)] at hT1
    rw [h1] at k1
    have hs := chkV_srt h1
    rw [eV]
    replace hnl : Hide _ := hnl
    replace hw : Hide _ := hw
    replace hv : Hide _ := hv
    replace hs : Hide _ := hs
    replace h1 : Hide _ := h1
    replace eV : Hide _ := eV
    replace hT1 : Hide _ := hT1
    generalize (chkV vs).2 = e2 at *
    obtain ⟨VL, hVL⟩ : ∃ VL, v.ls.map encLn = VL := ⟨_, rfl⟩
    obtain ⟨VO, hVO⟩ : ∃ VO, v.os.map encO = VO := ⟨_, rfl⟩
    rw [hVL, hVO]
    replace hVL : Hide _ := hVL
    replace hVO : Hide _ := hVO
    iterate 4 (first | (refine ac_seq_h fun K hK => ?_) | (refine ac_region_h fun K hK => ?_; simp (disch := omega) [go_sem, *, Tryz.ntmps14]) | (apply Hide.out hK; clear hK K; try with_reducible dsimp only [thenA]))
    refine ac_fzbox (t := 3) (m := n) (c := [iv .i64 v.id, iv .i64 v.fr, .fslc v.nlL v.fuL v.sL VL, .fslc v.nlO v.fuO v.sO VO]) (by simp (disch := omega) only [upd_ne, upd_same]) (by simp [go_sem]) ?_
    dsimp only
    repeat' (first | (refine ac_seq_h fun K hK => ?_) | (refine ac_region_h fun K hK => ?_; simp (disch := omega) [go_sem, *]) | (apply Hide.out hK; clear hK K; try with_reducible dsimp only [thenA]) | (apply Hide.out hf; clear ht hf Kt Kf) | (with_reducible refine APure.gcall (k1) ?_; try simp (disch := omega) [go_sem, *]) | (refine ac_block ?_) | (refine ac_skip ?_; simp only [thenA]) | (refine ac_cond_h fun Kt Kf ht hf => ?_; simp (disch := omega) [go_sem, *]; try (refine ⟨fun hc => ?_, fun hc => ?_⟩ <;> try (exfalso; omega))))
    clear k1
    refine ac_loop_wk (fun s' => ∃ (i n' : Nat) (H : AHeap), n + 2 ≤ n' ∧ i ≤ vs.length ∧ (∀ j x, j < i → vs[j]? = some x → ¬ (x.id = v.id ∨ x.fr = v.fr)) ∧ H (n + 1) = some (.cells [.fslc true true 0 [], iv .i64 0]) ∧ (∀ x, x < n → H x = h x) ∧ s' = ⟨79, [(0, .fslc nl fu s (vs.map encV)), (3, .fptr [iv .i64 v.id, iv .i64 v.fr, .fslc v.nlL v.fuL v.sL VL, .fslc v.nlO v.fuO v.sO VO]), (4, .ptr (n + 1) 0), (7, iv .i64 (atV vs v i)), (8, iv .i64 i)], H, n'⟩) (fun s' => vs.length - (intAt s' 8).toNat) ?_ ?_
    · exact loop_start (by simp [go_sem, atV]) (Sub.refl _) ⟨0, _, _, by (try simp only); omega, by omega, fun j x hj => by omega, by simp (disch := omega) only [upd_ne, upd_same], fun x hx => by simp (disch := omega) only [upd_ne], rfl⟩
    · rintro s' ⟨i, n', H, hn', hi, hall, g0, g1, rfl⟩
      replace g1 : Hide _ := g1
      replace hall : Hide _ := hall
      have hai := atV_le vs v i
      by_cases hlt : i < vs.length
      · obtain ⟨x, hx⟩ : ∃ x, vs[i] = x := ⟨_, rfl⟩
        have hne : vs ≠ [] := fun e => by rw [e] at hlt; simp at hlt
        obtain ⟨rfl, rfl⟩ := hnl.out.resolve_left hne
        have hxs : vs[i]? = some x := by rw [List.getElem?_eq_getElem hlt, hx]
        have hex : encV vs[i] = .agg [iv .i64 x.id, iv .i64 x.fr, .fslc x.nlL x.fuL x.sL (x.ls.map encLn), .fslc x.nlO x.fuO x.sO (x.os.map encO)] := by rw [hx]; rfl
        have hmem : x ∈ vs := hx ▸ List.getElem_mem hlt
        have hcls : (x.id = v.id ∨ x.fr = v.fr) → T = ([], 6) := fun e => by
          rw [hT1.out, if_pos]
          rw [List.any_eq_true]
          exact ⟨x, hmem, by simpa using e⟩
        have hall2 : ¬ (x.id = v.id ∨ x.fr = v.fr) → Hide (∀ j x, j < i + 1 → vs[j]? = some x → ¬ (x.id = v.id ∨ x.fr = v.fr)) := fun e j y hj hy => by
          rcases Nat.lt_or_ge j i with h1 | h1
          · exact hall.out j y h1 hy
          · have : j = i := by omega
            subst this
            rw [hxs] at hy; cases hy; exact e
        have hat : atV vs v (i + 1) = if x.fr < v.fr then i + 1 else atV vs v i := by rw [atV, hxs]
        replace hx : Hide _ := trivial
        replace hxs : Hide _ := trivial
        clear hne hmem
        obtain ⟨x1, x2, x3, x4, x5, x6, x7, x8, x9, x10⟩ := x
        simp only at hex hcls hall2 hat
        generalize List.map encLn x6 = LL at *
        generalize List.map encO x10 = OO at *
        by_cases e1 : x1 = v.id
        · have hT2 := hcls (.inl e1)
          subst e1
          subst hT2
          replace hcls : Hide _ := trivial
          replace hall2 : Hide _ := trivial
          replace hat : Hide _ := trivial
          repeat' (first | (refine ac_seq_h fun K hK => ?_) | (refine ac_region_h fun K hK => ?_; simp (disch := omega) [go_sem, *, ilt_true]) | (refine ac_draw_h mixed (by kernel_rfl) fun K hK => ?_; simp (disch := omega) [go_sem, *, ile_true]) | (apply Hide.out hK; clear hK K; try with_reducible dsimp only [thenA]) | (apply Hide.out ht; clear ht hf Kt Kf) | (refine ac_block ?_) | (refine ac_skip ?_; simp only [thenA]) | (refine ac_cond_h fun Kt Kf ht hf => ?_; simp (disch := omega) [go_sem, *]; try (refine ⟨fun hc => ?_, fun hc => ?_⟩ <;> try (exfalso; omega))))
          refine ac_ret ?_
          try dsimp only [thenA, blockA]
          refine ⟨by simp, _, (by first | rfl | (simp (disch := omega) [go_sem] <;> rfl)), ?_⟩
          exact ret_id ⟨fun x hx => by simp (disch := omega) only [upd_ne]; exact g1.out x hx, by simp [go_sem, below, belowL, resVal], by simp [go_sem, vsF, resVal], by simp, by simp⟩
        · have b1 : (x1 == v.id) = false := by simpa using e1
          by_cases e2' : x2 = v.fr
          · have hT2 := hcls (.inr e2')
            subst e2'
            subst hT2
            replace hcls : Hide _ := trivial
            replace hall2 : Hide _ := trivial
            replace hat : Hide _ := trivial
            repeat' (first | (refine ac_seq_h fun K hK => ?_) | (refine ac_region_h fun K hK => ?_; simp (disch := omega) [go_sem, *, ilt_true]) | (refine ac_draw_h mixed (by kernel_rfl) fun K hK => ?_; simp (disch := omega) [go_sem, *, ile_true]) | (apply Hide.out hK; clear hK K; try with_reducible dsimp only [thenA]) | (apply Hide.out ht; clear ht hf Kt Kf) | (refine ac_block ?_) | (refine ac_skip ?_; simp only [thenA]) | (refine ac_cond_h fun Kt Kf ht hf => ?_; simp (disch := omega) [go_sem, *]; try (refine ⟨fun hc => ?_, fun hc => ?_⟩ <;> try (exfalso; omega))))
            refine ac_ret ?_
            try dsimp only [thenA, blockA]
            refine ⟨by simp, _, (by first | rfl | (simp (disch := omega) [go_sem] <;> rfl)), ?_⟩
            exact ret_id ⟨fun x hx => by simp (disch := omega) only [upd_ne]; exact g1.out x hx, by simp [go_sem, below, belowL, resVal], by simp [go_sem, vsF, resVal], by simp, by simp⟩
          · have b2 : (x2 == v.fr) = false := by simpa using e2'
            have hal := hall2 (by rintro (e | e); exact e1 e; exact e2' e)
            replace hcls : Hide _ := trivial
            replace hall2 : Hide _ := trivial
            by_cases hc : x2 < v.fr
            · rw [if_pos hc] at hat
              replace hat : Hide _ := hat
              repeat' (first | (refine ac_seq_h fun K hK => ?_) | (refine ac_region_h fun K hK => ?_; simp (disch := omega) [go_sem, *, wrap64_id, ilt_true]) | (refine ac_draw_h mixed (by kernel_rfl) fun K hK => ?_; simp (disch := omega) [go_sem, *, ile_true]) | (apply Hide.out hK; clear hK K; try with_reducible dsimp only [thenA]) | (apply Hide.out ht; clear ht hf Kt Kf) | (apply Hide.out hf; clear ht hf Kt Kf) | (refine ac_block ?_) | (refine ac_skip ?_; simp only [thenA]) | (refine ac_cond_h fun Kt Kf ht hf => ?_; simp (disch := omega) [go_sem, *]; try (refine ⟨fun hc => ?_, fun hc => ?_⟩ <;> try (exfalso; omega))))
              exact round_end (by simp (disch := omega) [go_sem, hat.out]) (Sub.refl _) ⟨i + 1, _, _, by (try simp only); omega, by omega, hal.out, g0, g1.out, rfl⟩ (by simp [intAt, go_sem]; omega)
            · rw [if_neg hc] at hat
              replace hat : Hide _ := hat
              repeat' (first | (refine ac_seq_h fun K hK => ?_) | (refine ac_region_h fun K hK => ?_; simp (disch := omega) [go_sem, *, wrap64_id, ilt_true]) | (refine ac_draw_h mixed (by kernel_rfl) fun K hK => ?_; simp (disch := omega) [go_sem, *, ile_true]) | (apply Hide.out hK; clear hK K; try with_reducible dsimp only [thenA]) | (apply Hide.out ht; clear ht hf Kt Kf) | (apply Hide.out hf; clear ht hf Kt Kf) | (refine ac_block ?_) | (refine ac_skip ?_; simp only [thenA, blockA]) | (refine ac_cond_h fun Kt Kf ht hf => ?_; simp (disch := omega) [go_sem, *]; try (refine ⟨fun hc => ?_, fun hc => ?_⟩ <;> try (exfalso; omega))))
              exact round_end (by simp (disch := omega) [go_sem, hat.out]) (Sub.refl _) ⟨i + 1, _, _, by (try simp only); omega, by omega, hal.out, g0, g1.out, rfl⟩ (by simp [intAt, go_sem]; omega)
      · have hii : i = vs.length := by omega
        subst hii
        have hcl : (vs.any fun x => decide (x.id = v.id) || decide (x.fr = v.fr)) = false := by
          rw [List.any_eq_false]
          intro x hx
          obtain ⟨j, hj⟩ := List.getElem?_of_mem hx
          have := hall.out j x (List.getElem?_eq_some_iff.1 hj).1 hj
          simpa using this
        have hT1 := hT1.out
        rw [hcl, if_neg (by simp)] at hT1
        have hins := atV_ins hs.out v
        replace hcl : Hide _ := trivial
        replace hall : Hide _ := trivial
        generalize atV vs v vs.length = a at *
        replace hT1 : Hide _ := hT1
        obtain ⟨W, hW⟩ : ∃ W, insV vs v = W := ⟨_, rfl⟩
        rw [hW] at hins
        have hWl : W.length = vs.length + 1 := by rw [← hW]; exact insV_len vs v
        have hWw : ∀ x ∈ W, wfV x := fun x hx => by
          rw [← hW] at hx
          rcases mem_insV hx with rfl | hx
          · exact hv.out
          · exact hw.out x hx
        replace hW : Hide _ := hW
        replace hWw : Hide _ := hWw
        replace hWl : Hide _ := hWl
        have hrow : Hide (fltV W = fltV (vs.take a) ++ (cellsOf (encV v) ++ fltV (vs.drop a))) := by
          show _ = _
          rw [← hins]; simp [fltV, flat]
        replace hins : Hide _ := trivial
        have hdl : (vs.drop a).length = vs.length - a := List.length_drop
        have htl : (vs.take a).length = a := by rw [List.length_take]; omega
        have hfT := fltV_len (vs.take a)
        rw [htl] at hfT
        have ev : cellsOf (encV v) = [iv .i64 v.id, iv .i64 v.fr, .fslc v.nlL v.fuL v.sL VL, .fslc v.nlO v.fuO v.sO VO] := by rw [← hVL.out, ← hVO.out]; rfl
        have evA : encV v = .agg [iv .i64 v.id, iv .i64 v.fr, .fslc v.nlL v.fuL v.sL VL, .fslc v.nlO v.fuO v.sO VO] := by rw [← hVL.out, ← hVO.out]; rfl
        repeat' (first | (refine ac_seq_h fun K hK => ?_) | (refine ac_region_h fun K hK => ?_; simp (disch := omega) [go_sem, *]) | (apply Hide.out hK; clear hK K; try with_reducible dsimp only [thenA]) | (apply Hide.out hf; clear ht hf Kt Kf) | (clear hK K; apply Hide.out hK; clear hK K; try with_reducible dsimp only [thenA]) | (refine ac_exit ?_; simp only [thenA, blockA, if_true]) | (refine ac_cond_h fun Kt Kf ht hf => ?_; simp (disch := omega) [go_sem, *]; try (refine ⟨fun hc => ?_, fun hc => ?_⟩ <;> try (exfalso; omega))))
        refine ac_midV (fun s' => ∃ (mo n2 : Nat) (H2 : AHeap), n + 1 < mo ∧ mo < n2 ∧ H2 mo = some (.cells (fltV W)) ∧ H2 (n + 1) = some (.cells [.fslc true true 0 [], iv .i64 0]) ∧ (∀ x, x < n → H2 x = h x) ∧ s' = ⟨79, [(4, .ptr (n + 1) 0), (9, .slc mo 0 (vs.length + 1) 4)], H2, n2⟩) ?_ ?_
        · rintro s' ⟨mo, n2, H2, m1, m2, m3, m4, m5, rfl⟩
          refine hK.out _ ?_
          clear hK K
          have hW0 : W ≠ [] := fun e => by have := hWl.out; rw [e] at this; simp at this
          have k3 := rcv_spec false false 4 W (.inr ⟨rfl, rfl⟩) hWw.out (by have := hWl.out; omega)
          replace hW0 : Hide _ := hW0
          have hWe : (W.map encV).isEmpty = false := by simpa using hW0.out
          refine ac_fzac (t := 9) (m := mo) (s := 4) (L := W.map encV) true (fun h => by cases h) (by rw [acO_ne (by simpa using hW0.out)]; exact m3) (by rw [acV_ne (by simpa using hW0.out), List.length_map, hWl.out]; simp [go_sem]) (fun x hx => by obtain ⟨y, _, rfl⟩ := List.mem_map.1 hx; rfl) (by simpa using elemsV W) ?_
          dsimp only
          rw [hWe]
          replace hWe : Hide _ := trivial
          have m6 : (H2.upd mo none) (n + 1) = some (.cells [.fslc true true 0 [], iv .i64 0]) := by rw [upd_ne _ _ _ _ (by omega)]; exact m4
          have m7 : ∀ x, x < n → (H2.upd mo none) x = h x := fun x hx => by rw [upd_ne _ _ _ _ (by omega)]; exact m5 x hx
          generalize H2.upd mo none = H5 at *
          replace m3 : Hide _ := trivial
          replace m4 : Hide _ := trivial
          replace m5 : Hide _ := trivial
          replace m7 : Hide _ := m7
          have hT1 := hT1.out
          rw [hW.out] at hT1
          generalize (chkV W).2 = e3 at *
          have hbl : ∀ k, belowL k (W.map encV) := fun k => by rw [belowL_iff]; intro y hy; obtain ⟨z, _, rfl⟩ := List.mem_map.1 hy; exact below_encV k z
          have hvs : vsF W = .fslc false false 4 (W.map encV) := by rw [vsF, if_neg hW0.out]
          generalize W.map encV = R at *
          replace hbl : Hide _ := hbl
          replace hvs : Hide _ := hvs
          by_cases hc : (chkV W).1 = 0
          · rw [if_neg (by simpa using hc)] at hT1
            subst hT1
            rw [hc] at k3
            replace hc : Hide _ := hc
            repeat' (first | (refine ac_seq_h fun K hK => ?_) | (refine ac_region_h fun K hK => ?_; simp (disch := omega) [go_sem, *]) | (apply Hide.out hK; clear hK K; try with_reducible dsimp only [thenA]) | (apply Hide.out hf; clear ht hf Kt Kf) | (with_reducible refine APure.gcall (k3) ?_; try simp (disch := omega) [go_sem, *]) | (refine ac_skip ?_; simp only [thenA]) | (refine ac_cond_h fun Kt Kf ht hf => ?_; simp (disch := omega) [go_sem, *]; try (refine ⟨fun hc => ?_, fun hc => ?_⟩ <;> try (exfalso; omega))))
            refine ac_ret ?_
            try dsimp only [thenA, blockA]
            refine ⟨by simp, _, (by first | rfl | (simp (disch := omega) [go_sem] <;> rfl)), ?_⟩
            refine ret_id ⟨fun x hx => ?_, ?_, ?_, by simp, by simp⟩
            · simp (disch := omega) only [upd_ne]; exact m7.out x hx
            · simp [go_sem, below, belowL, resVal, iv, hbl.out]
            · show _ = AV.agg [vsF W, iv .i64 0]
              rw [hvs.out]
              simp [go_sem, resVal]
          · rw [if_pos (by simpa using hc)] at hT1
            subst hT1
            generalize (chkV W).1 = e4 at *
            have hne4 : (e4 != 0) = true := by simpa using hc
            replace hc : Hide _ := trivial
            repeat' (first | (refine ac_seq_h fun K hK => ?_) | (refine ac_region_h fun K hK => ?_; simp (disch := omega) [go_sem, *]) | (apply Hide.out hK; clear hK K; try with_reducible dsimp only [thenA]) | (apply Hide.out ht; clear ht hf Kt Kf) | (with_reducible refine APure.gcall (k3) ?_; try simp (disch := omega) [go_sem, *]) | (refine ac_cond_h fun Kt Kf ht hf => ?_; simp (disch := omega) [go_sem, *]; try (refine ⟨fun hc => ?_, fun hc => ?_⟩ <;> try (exfalso; omega))))
            refine ac_ret ?_
            try dsimp only [thenA, blockA]
            refine ⟨by simp, _, (by first | rfl | (simp (disch := omega) [go_sem] <;> rfl)), ?_⟩
            exact ret_id ⟨fun x hx => by simp (disch := omega) only [upd_ne]; exact m7.out x hx, by simp [go_sem, below, belowL, resVal], by simp [go_sem, vsF, resVal], by simp, by simp⟩
        · replace hK : Hide _ := trivial
          obtain ⟨FT, hFT⟩ : ∃ FT, fltV (vs.take a) = FT := ⟨_, rfl⟩
          obtain ⟨FD, hFD⟩ : ∃ FD, fltV (vs.drop a) = FD := ⟨_, rfl⟩
          have fT : flat ((vs.map encV).take a) = FT := by rw [← List.map_take]; exact hFT
          have fD : flat ((vs.map encV).drop a) = FD := by rw [← List.map_drop]; exact hFD
          rw [hFT] at hrow hfT
          rw [hFD] at hrow
          obtain ⟨F2, hF2⟩ : ∃ F2, F2 = FT ++ cellsOf (encV v) := ⟨_, rfl⟩
          have hF2l : F2.length = (a + 1) * 4 := by rw [hF2, List.length_append, hfT, ev]; simp; omega
          have hrow2 : Hide (fltV W = F2 ++ FD) := by show _ = _; rw [hrow.out, hF2]; simp
          have hVl : (vs.map encV).length = vs.length := List.length_map _
          have lT : ((vs.map encV).take a).length = a := by rw [List.length_take]; omega
          have lD : ((vs.map encV).drop a).length = vs.length - a := by rw [List.length_drop]; omega
          have htkl : (vs.map encV).take vs.length = vs.map encV := List.take_of_length_le (by omega)
          have hnlV : vs = [] → vs.map encV = [] := fun e => by rw [e]; rfl
          have hap0 : ∀ nm (G : AHeap) b c s, aAppend Tryz.prog nm 22 (.fslc false true 4 []) (.fslc b c s []) G = some (.fslc false true 4 [], G) := fun nm G b c s => apClVr0 nm G b c s
          have hap1 : a ≠ 0 → ∀ nm (G : AHeap) b c, aAppend Tryz.prog nm 22 (.fslc false true 4 []) (.fslc b c 4 ((vs.map encV).take a)) G = some (.slc nm 0 a 4, G.upd nm (some (.cells FT))) := fun h0 nm G b c => by
            have := apClVr nm G b c ((vs.map encV).take a) (by omega) (by omega)
            rw [lT, fT] at this; exact this
          have hap2z : a = 0 → ∀ nm (G : AHeap) b c, aAppend Tryz.prog nm 22 (.fslc false true 4 []) (.fslc b c 4 [encV v]) G = some (.slc nm 0 1 4, G.upd nm (some (.cells F2))) := fun h0 nm G b c => by
            have h1 : FT = [] := List.length_eq_zero_iff.1 (by rw [hfT, h0])
            have := apClVr nm G b c [encV v] (by simp) (by simp)
            rw [this, hF2, h1]; simp [flat]
          have hap2 : ∀ nm m (G : AHeap) b c, aAppend Tryz.prog nm 22 (.slc m 0 a 4) (.fslc b c 4 [encV v]) (G.upd m (some (.cells FT))) = some (.slc nm 0 (a + 1) 4, ((G.upd m (some (.cells FT))).upd m none).upd nm (some (.cells F2))) := fun nm m G b c => by
            have := apV_S nm m (G.upd m (some (.cells FT))) b c FT [encV v] a (upd_same _ _ _) hfT (by simp) (by simp; omega)
            rw [this, hF2]; simp [flat]
          have hap3z : ∀ nm m (G : AHeap) b c s, aAppend Tryz.prog nm 22 (.slc m 0 (a + 1) 4) (.fslc b c s []) (G.upd m (some (.cells F2))) = some (.slc m 0 (a + 1) 4, (G.upd m (some (.cells F2))).upd m (some (.cells F2))) := fun nm m G b c s => apV_S0 nm m _ b c s F2 (a + 1) (upd_same _ _ _) hF2l
          have hap3 : a ≠ vs.length → ∀ nm m (G : AHeap) b c, aAppend Tryz.prog nm 22 (.slc m 0 (a + 1) 4) (.fslc b c 4 ((vs.map encV).drop a)) (G.upd m (some (.cells F2))) = some (.slc nm 0 (vs.length + 1) 4, ((G.upd m (some (.cells F2))).upd m none).upd nm (some (.cells (F2 ++ FD)))) := fun h0 nm m G b c => by
            have := apV_S nm m (G.upd m (some (.cells F2))) b c F2 ((vs.map encV).drop a) (a + 1) (upd_same _ _ _) hF2l (by omega) (by omega)
            rw [this, fD, lD, show a + 1 + (vs.length - a) = vs.length + 1 by omega]
          rw [evA] at hap2z hap2
          have hdz : a = vs.length → (vs.map encV).drop a = [] ∧ FD = [] := fun h0 => by
            have e : (vs.map encV).drop a = [] := List.length_eq_zero_iff.1 (by omega)
            exact ⟨e, by rw [← fD, e]; rfl⟩
          have hnl2 : vs.length ≠ 0 → nl = false ∧ s = 4 := fun h0 => hnl.out.resolve_left (fun e => by rw [e] at h0; exact h0 rfl)
          generalize List.map encV vs = VV at *
          replace hnlV : Hide _ := trivial
          replace fT : Hide _ := trivial
          replace fD : Hide _ := trivial
          replace lT : Hide _ := trivial
          replace lD : Hide _ := trivial
          replace hF2 : Hide _ := trivial
          replace hFT : Hide _ := trivial
          replace hFD : Hide _ := trivial
          replace hrow : Hide _ := trivial
          replace hdl : Hide _ := trivial
          replace htl : Hide _ := trivial
          replace hfT : Hide _ := trivial
          replace hF2l : Hide _ := trivial
          replace ev : Hide _ := trivial
          replace evA : Hide _ := trivial
          by_cases ha : a = 0
          · subst ha
            have hap2 := hap2z rfl
            replace hap1 : Hide _ := trivial
            replace hap2z : Hide _ := trivial
            by_cases hv0 : vs.length = 0
            · obtain ⟨hd, hd2⟩ := hdz hv0.symm
              have hVV : VV = [] := List.length_eq_zero_iff.1 (by omega)
              subst hVV
              simp only [Nat.zero_add] at hap3z
              replace hap3 : Hide _ := trivial
              replace hdz : Hide _ := trivial
              replace hnl2 : Hide _ := trivial
              refine ac_draw3_h [3] mixed (by kernel_rfl) (fun x hx => by simp at hx; subst hx; exact ⟨_, by simp [go_sem]; rfl⟩) fun K hK => ?_
              simp (disch := omega) [go_sem, *]
              refine hK.out _ ?_
              rw [hv0]
              refine ⟨_, Wk.of (by simp [go_sem]) (Sub.refl _), n' + 4 + 7, _, _, by omega, by (try simp only); omega, ?_, ?_, fun x hx => ?_, rfl⟩
              · rw [hrow2.out, hd2, List.append_nil]; simp (disch := omega) only [upd_same]
              · simp (disch := omega) only [upd_ne]; exact g0
              · simp (disch := omega) only [upd_ne]; exact g1.out x hx
            · have hap3 := hap3 (fun e => hv0 e.symm)
              rw [List.drop_zero] at hap3
              simp only [Nat.zero_add] at hap3
              obtain ⟨rfl, rfl⟩ := hnl2 hv0
              replace hap3z : Hide _ := trivial
              replace hdz : Hide _ := trivial
              replace hnl2 : Hide _ := trivial
              refine ac_draw3_h [3] mixed (by kernel_rfl) (fun x hx => by simp at hx; subst hx; exact ⟨_, by simp [go_sem]; rfl⟩) fun K hK => ?_
              simp (disch := omega) [go_sem, *, ile_true]
              refine hK.out _ ?_
              refine ⟨_, Wk.of (by simp [go_sem]) (Sub.refl _), n' + 4 + 11, _, _, by omega, by (try simp only); omega, ?_, ?_, fun x hx => ?_, rfl⟩
              · rw [hrow2.out]; simp (disch := omega) only [upd_same]
              · simp (disch := omega) only [upd_ne]; exact g0
              · simp (disch := omega) only [upd_ne]; exact g1.out x hx
          · have hap1 := hap1 ha
            replace hap0 : Hide _ := trivial
            replace hap2z : Hide _ := trivial
            obtain ⟨rfl, rfl⟩ := hnl2 (by omega)
            replace hnl2 : Hide _ := trivial
            by_cases hvl : a = vs.length
            · obtain ⟨hd, hd2⟩ := hdz hvl
              subst hvl
              rw [htkl] at hap1
              replace hap3 : Hide _ := trivial
              replace hdz : Hide _ := trivial
              refine ac_draw3_h [3] mixed (by kernel_rfl) (fun x hx => by simp at hx; subst hx; exact ⟨_, by simp [go_sem]; rfl⟩) fun K hK => ?_
              simp (disch := omega) [go_sem, *, ile_true]
              refine hK.out _ ?_
              refine ⟨_, Wk.of (by simp [go_sem]) (Sub.refl _), n' + 4 + 7, _, _, by omega, by (try simp only); omega, ?_, ?_, fun x hx => ?_, rfl⟩
              · rw [hrow2.out, hd2, List.append_nil]; simp (disch := omega) only [upd_same]
              · simp (disch := omega) only [upd_ne]; exact g0
              · simp (disch := omega) only [upd_ne]; exact g1.out x hx
            · have hap3 := hap3 hvl
              replace hap3z : Hide _ := trivial
              replace hdz : Hide _ := trivial
              refine ac_draw3_h [3] mixed (by kernel_rfl) (fun x hx => by simp at hx; subst hx; exact ⟨_, by simp [go_sem]; rfl⟩) fun K hK => ?_
              simp (disch := omega) [go_sem, *, ile_true]
              refine hK.out _ ?_
              refine ⟨_, Wk.of (by simp [go_sem]) (Sub.refl _), n' + 4 + 11, _, _, by omega, by (try simp only); omega, ?_, ?_, fun x hx => ?_, rfl⟩
              · rw [hrow2.out]; simp (disch := omega) only [upd_same]
              · simp (disch := omega) only [upd_ne]; exact g0
              · simp (disch := omega) only [upd_ne]; exact g1.out x hx
  · rw [if_pos (by simpa using h1)] at hT1
    subst hT1
    rw [eV]
    replace eV : Hide _ := trivial
    generalize (chkV vs).2 = e2 at *
    generalize (chkV vs).1 = e1 at *
    have hne : (e1 != 0) = true := by simpa using h1
    replace h1 : Hide _ := trivial
    generalize List.map encV vs = VV at *
    generalize List.map encLn v.ls = VL at *
    generalize List.map encO v.os = VO at *
    repeat' (first | (refine ac_seq_h fun K hK => ?_) | (refine ac_region_h fun K hK => ?_; simp (disch := omega) [go_sem, *, Tryz.ntmps14 ]) | (apply Hide.out hK; clear hK K; try with_reducible dsimp only [thenA]) | (apply Hide.out ht; clear ht hf Kt Kf) | (with_reducible refine APure.gcall (k1) ?_; try simp (disch := omega) [go_sem, * ]) | (refine ac_cond_h fun Kt Kf ht hf => ?_; simp (disch := omega) [go_sem, * ]; try (refine ⟨fun hc => ?_, fun hc => ?_⟩ <;> try (exfalso; omega))))
    (refine ac_ret ?_; try dsimp only [thenA, blockA]; refine ⟨by simp, _, (by first | rfl | (simp (disch := omega) [go_sem] <;> rfl)), ?_⟩; refine ret_id ⟨fun k hk => (by first | rfl | (repeat rw [upd_ne _ _ _ _ (by omega)])), (by simp [go_sem, below, belowL]), (by simp [go_sem, vsF] <;> omega), by simp, by simp⟩)
end Go.AM
