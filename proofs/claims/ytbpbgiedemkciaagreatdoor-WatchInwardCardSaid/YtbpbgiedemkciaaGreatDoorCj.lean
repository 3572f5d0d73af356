/- Conditions: turned inward. Conditions: as each theorem says. -/
import Derived.Test.YtbpbgiedemkciaaGreatDoorCa
namespace Go.AM
open Go.Proofs Cw
set_option maxRecDepth 10000
set_option maxHeartbeats 4000000
theorem winward_spec : ∀ (N : Nat) (c : Cnd), tot c ≤ N → wf c → ok c = true → ∀ t : Bool, APure Tryz.prog 49 [encC c, bv t] (encC (Cw.inw c t))
  | 0, c, hN, _, _ => by have := tot_pos c; omega
  | N + 1, .mk k f o nn nl fu s ks, hN, hw, hok => by
    intro t h n
    have IH := winward_spec N
    simp only [tot] at hN
    have hwf := hw.1
    have hwl := hw.2
    clear hw
    refine ACalls.pure (ACalls.entry (by kernel_rfl) fun hb _ => calls_of Tryz.func49 rfl (by kernel_rfl) (by simp [Tryz.ntmps49]) ?_)
    replace IH : Hide _ := IH
    replace hwf : Hide _ := hwf
    replace hwl : Hide _ := hwl
    rcases ok_cases hok with ⟨rfl, rfl, hf, ho, hn⟩ | ⟨rfl, a, rfl, ha, rfl, rfl, rfl⟩ | ⟨hk, a, b, rfl, ha, hb2, rfl, rfl, rfl⟩
    · have hh : Cw.inw (.mk 1 f o nn nl fu s []) t = .mk 1 f (if t then oppo o else o) nn true true 0 [] := by simp [Cw.inw]
      rw [hh]; clear hh hok IH hwl hwf hN
      simp only [encC, encL]
      simp only [wi, Bool.and_eq_true, decide_eq_true_eq] at ho
      obtain ⟨ho1, ho2⟩ := ho
      cases t
      · simp only [Bool.false_eq_true, if_false]
        repeat' (first | (refine ac_seq_h fun K hK => ?_) | (refine ac_region_h fun K hK => ?_; simp (disch := omega) [go_sem, *, upd_ne, Tryz.ntmps49]) | (apply Hide.out hK; clear hK K; try with_reducible dsimp only [thenA]) | (apply Hide.out ht; clear ht hf Kt Kf) | (apply Hide.out hf; clear ht hf Kt Kf) | (refine ac_block ?_) | (refine ac_skip ?_; simp only [thenA]) | (refine ac_cond_h fun Kt Kf ht hf => ?_; simp (disch := omega) [go_sem, *]; try (refine ⟨fun hc => ?_, fun hc => ?_⟩ <;> try (exfalso; omega))))
        (refine ac_ret ?_; try dsimp only [thenA, blockA]; refine ⟨by simp, _, (by first | rfl | (simp (disch := omega) [go_sem] <;> rfl)), ?_⟩; refine ret_id ⟨fun k hk => (by first | rfl | (repeat rw [upd_ne _ _ _ _ (by omega)])), (by simp [go_sem, below, belowL]), (by simp [go_sem] <;> omega), by simp, by simp⟩)
      · obtain rfl | rfl | rfl | rfl | rfl | rfl : o = 1 ∨ o = 2 ∨ o = 3 ∨ o = 4 ∨ o = 5 ∨ o = 6 := by omega
        · simp only [if_true, show oppo 1 = 2 from rfl]
          repeat' (first | (refine ac_seq_h fun K hK => ?_) | (refine ac_region_h fun K hK => ?_; simp (disch := omega) [go_sem, *, upd_ne, ilt_true, ile_true, Tryz.ntmps49]) | (apply Hide.out hK; clear hK K; try with_reducible dsimp only [thenA]) | (apply Hide.out ht; clear ht hf Kt Kf) | (apply Hide.out hf; clear ht hf Kt Kf) | (refine ac_block ?_) | (refine ac_cond_h fun Kt Kf ht hf => ?_; simp (disch := omega) [go_sem, *]; try (refine ⟨fun hc => ?_, fun hc => ?_⟩ <;> try (exfalso; omega))))
          (refine ac_ret ?_; try dsimp only [thenA, blockA]; refine ⟨by simp, _, (by first | rfl | (simp (disch := omega) [go_sem] <;> rfl)), ?_⟩; refine ret_id ⟨fun k hk => (by first | rfl | (repeat rw [upd_ne _ _ _ _ (by omega)])), (by simp [go_sem, below, belowL]), (by simp [go_sem] <;> omega), by simp, by simp⟩)
        · simp only [if_true, show oppo 2 = 1 from rfl]
          repeat' (first | (refine ac_seq_h fun K hK => ?_) | (refine ac_region_h fun K hK => ?_; simp (disch := omega) [go_sem, *, upd_ne, ilt_true, ile_true, Tryz.ntmps49]) | (apply Hide.out hK; clear hK K; try with_reducible dsimp only [thenA]) | (apply Hide.out ht; clear ht hf Kt Kf) | (apply Hide.out hf; clear ht hf Kt Kf) | (refine ac_block ?_) | (refine ac_cond_h fun Kt Kf ht hf => ?_; simp (disch := omega) [go_sem, *]; try (refine ⟨fun hc => ?_, fun hc => ?_⟩ <;> try (exfalso; omega))))
          (refine ac_ret ?_; try dsimp only [thenA, blockA]; refine ⟨by simp, _, (by first | rfl | (simp (disch := omega) [go_sem] <;> rfl)), ?_⟩; refine ret_id ⟨fun k hk => (by first | rfl | (repeat rw [upd_ne _ _ _ _ (by omega)])), (by simp [go_sem, below, belowL]), (by simp [go_sem] <;> omega), by simp, by simp⟩)
        · simp only [if_true, show oppo 3 = 6 from rfl]
          repeat' (first | (refine ac_seq_h fun K hK => ?_) | (refine ac_region_h fun K hK => ?_; simp (disch := omega) [go_sem, *, upd_ne, ilt_true, ile_true, Tryz.ntmps49]) | (apply Hide.out hK; clear hK K; try with_reducible dsimp only [thenA]) | (apply Hide.out ht; clear ht hf Kt Kf) | (apply Hide.out hf; clear ht hf Kt Kf) | (refine ac_block ?_) | (refine ac_cond_h fun Kt Kf ht hf => ?_; simp (disch := omega) [go_sem, *]; try (refine ⟨fun hc => ?_, fun hc => ?_⟩ <;> try (exfalso; omega))))
          (refine ac_ret ?_; try dsimp only [thenA, blockA]; refine ⟨by simp, _, (by first | rfl | (simp (disch := omega) [go_sem] <;> rfl)), ?_⟩; refine ret_id ⟨fun k hk => (by first | rfl | (repeat rw [upd_ne _ _ _ _ (by omega)])), (by simp [go_sem, below, belowL]), (by simp [go_sem] <;> omega), by simp, by simp⟩)
        · simp only [if_true, show oppo 4 = 5 from rfl]
          repeat' (first | (refine ac_seq_h fun K hK => ?_) | (refine ac_region_h fun K hK => ?_; simp (disch := omega) [go_sem, *, upd_ne, ilt_true, ile_true, Tryz.ntmps49]) | (apply Hide.out hK; clear hK K; try with_reducible dsimp only [thenA]) | (apply Hide.out ht; clear ht hf Kt Kf) | (apply Hide.out hf; clear ht hf Kt Kf) | (refine ac_block ?_) | (refine ac_cond_h fun Kt Kf ht hf => ?_; simp (disch := omega) [go_sem, *]; try (refine ⟨fun hc => ?_, fun hc => ?_⟩ <;> try (exfalso; omega))))
          (refine ac_ret ?_; try dsimp only [thenA, blockA]; refine ⟨by simp, _, (by first | rfl | (simp (disch := omega) [go_sem] <;> rfl)), ?_⟩; refine ret_id ⟨fun k hk => (by first | rfl | (repeat rw [upd_ne _ _ _ _ (by omega)])), (by simp [go_sem, below, belowL]), (by simp [go_sem] <;> omega), by simp, by simp⟩)
        · simp only [if_true, show oppo 5 = 4 from rfl]
          repeat' (first | (refine ac_seq_h fun K hK => ?_) | (refine ac_region_h fun K hK => ?_; simp (disch := omega) [go_sem, *, upd_ne, ilt_true, ile_true, Tryz.ntmps49]) | (apply Hide.out hK; clear hK K; try with_reducible dsimp only [thenA]) | (apply Hide.out ht; clear ht hf Kt Kf) | (apply Hide.out hf; clear ht hf Kt Kf) | (refine ac_block ?_) | (refine ac_cond_h fun Kt Kf ht hf => ?_; simp (disch := omega) [go_sem, *]; try (refine ⟨fun hc => ?_, fun hc => ?_⟩ <;> try (exfalso; omega))))
          (refine ac_ret ?_; try dsimp only [thenA, blockA]; refine ⟨by simp, _, (by first | rfl | (simp (disch := omega) [go_sem] <;> rfl)), ?_⟩; refine ret_id ⟨fun k hk => (by first | rfl | (repeat rw [upd_ne _ _ _ _ (by omega)])), (by simp [go_sem, below, belowL]), (by simp [go_sem] <;> omega), by simp, by simp⟩)
        · simp only [if_true, show oppo 6 = 3 from rfl]
          repeat' (first | (refine ac_seq_h fun K hK => ?_) | (refine ac_region_h fun K hK => ?_; simp (disch := omega) [go_sem, *, upd_ne, ilt_true, ile_true, Tryz.ntmps49]) | (apply Hide.out hK; clear hK K; try with_reducible dsimp only [thenA]) | (apply Hide.out ht; clear ht hf Kt Kf) | (apply Hide.out hf; clear ht hf Kt Kf) | (refine ac_block ?_) | (refine ac_cond_h fun Kt Kf ht hf => ?_; simp (disch := omega) [go_sem, *]; try (refine ⟨fun hc => ?_, fun hc => ?_⟩ <;> try (exfalso; omega))))
          (refine ac_ret ?_; try dsimp only [thenA, blockA]; refine ⟨by simp, _, (by first | rfl | (simp (disch := omega) [go_sem] <;> rfl)), ?_⟩; refine ret_id ⟨fun k hk => (by first | rfl | (repeat rw [upd_ne _ _ _ _ (by omega)])), (by simp [go_sem, below, belowL]), (by simp [go_sem] <;> omega), by simp, by simp⟩)
    · have hne : ([a] : List Cnd) ≠ [] := by simp
      obtain ⟨rfl, rfl⟩ := hwf.out.resolve_left hne
      clear hne
      simp only [totL] at hN
      have ka := IH.out a (by omega) hwl.out.1 ha (!t)
      have hh : Cw.inw (.mk 2 0 0 0 false fu 5 [a]) t = Cw.inw a (!t) := by simp [Cw.inw, Cw.inwL]
      rw [hh]; clear hh hok IH hwl hwf hN ha
      generalize Cw.inw a (!t) = r at *
      obtain ⟨ak, af, ao, an, anl, afu, asz, aks⟩ := a
      obtain ⟨rk, rf, ro, rn, rnl, rfu, rsz, rks⟩ := r
      simp only [encC, encL] at ka ⊢
      repeat' (first | (refine ac_seq_h fun K hK => ?_) | (refine ac_region_h fun K hK => ?_; simp (disch := omega) [go_sem, *, upd_ne, Tryz.ntmps49 ]) | (apply Hide.out hK; clear hK K; try with_reducible dsimp only [thenA]) | (apply Hide.out ht; clear ht hf Kt Kf) | (with_reducible refine APure.gcall (ka) ?_; try simp (disch := omega) [go_sem, * ]) | (refine ac_block ?_) | (refine ac_cond_h fun Kt Kf ht hf => ?_; simp (disch := omega) [go_sem, * ]; try (refine ⟨fun hc => ?_, fun hc => ?_⟩ <;> try (exfalso; omega))))
      (refine ac_ret ?_; try dsimp only [thenA, blockA]; refine ⟨by simp, _, (by first | rfl | (simp (disch := omega) [go_sem] <;> rfl)), ?_⟩; refine ret_id ⟨fun k hk => (by first | rfl | (repeat rw [upd_ne _ _ _ _ (by omega)])), (by simp [go_sem, below, belowL]), (by simp [go_sem] <;> omega), by simp, by simp⟩)
    · have hne : ([a, b] : List Cnd) ≠ [] := by simp
      obtain ⟨rfl, rfl⟩ := hwf.out.resolve_left hne
      clear hne
      simp only [totL] at hN
      have ka := IH.out a (by omega) hwl.out.1 ha t
      have kb := IH.out b (by omega) hwl.out.2.1 hb2 t
      have hh : Cw.inw (.mk k 0 0 0 false fu 5 [a, b]) t = .mk (if t then 7 - k else k) 0 0 0 false false 5 [Cw.inw a t, Cw.inw b t] := by
        rcases hk with rfl | rfl <;> simp [Cw.inw, Cw.inwL]
      rw [hh]; clear hh hok IH hwl hwf hN ha hb2
      generalize Cw.inw a t = r at *
      generalize Cw.inw b t = q at *
      obtain ⟨ak, af, ao, an, anl, afu, asz, aks⟩ := a
      obtain ⟨bk, bf, bo, bn, bnl, bfu, bsz, bks⟩ := b
      obtain ⟨rk, rf, ro, rn, rnl, rfu, rsz, rks⟩ := r
      obtain ⟨qk, qf, qo, qn, qnl, qfu, qsz, qks⟩ := q
      simp only [encC, encL] at ka kb ⊢
      rcases hk with rfl | rfl
      · cases t
        · skip
          simp only [Bool.false_eq_true, if_false, Int.reduceSub]
          repeat' (first | (refine ac_seq_h fun K hK => ?_) | (refine ac_region_h fun K hK => ?_; simp (disch := omega) [go_sem, *, upd_ne, Tryz.ntmps49]) | (apply Hide.out hK; clear hK K; try with_reducible dsimp only [thenA]) | (apply Hide.out hf; clear ht hf Kt Kf) | (refine ac_block ?_) | (refine ac_skip ?_; simp only [thenA, blockA]) | (refine ac_cond_h fun Kt Kf ht hf => ?_; simp (disch := omega) [go_sem, *]; try (refine ⟨fun hc => ?_, fun hc => ?_⟩ <;> try (exfalso; omega))))
          refine ac_chain_h [16, 17] (fun h' => h' n = some (.cells [iv .i64 3, iv .i64 0, iv .i64 0, iv .i64 0, .fslc false fu 5 [.agg [iv .i64 ak, iv .i64 af, iv .i64 ao, iv .i64 an, .fslc anl afu asz (encL aks)], .agg [iv .i64 bk, iv .i64 bf, iv .i64 bo, iv .i64 bn, .fslc bnl bfu bsz (encL bks)]]])) mixed (by kernel_rfl) (by simp (disch := omega) [go_sem, upd_ne]) fun K hK => ?_
          simp (disch := omega) [go_sem, *]
          repeat' (first | (refine aC_c (by simp [go_sem]) (by decide) (fun h' hh => by (try dsimp only at hh); (try simp (disch := omega) [go_sem, *, ile_true]); first | exact rfl | exact ⟨rfl, rfl, rfl⟩ | exact (ka).gcall ⟨rfl, rfl, rfl⟩ | exact (kb).gcall ⟨rfl, rfl, rfl⟩) ?_; try simp only [pS_some]) | (refine aC_x (by simp [go_sem]) (by decide) (by (try simp (disch := omega) [go_sem, *]); first | exact rfl | exact ⟨rfl, rfl⟩ | exact ⟨rfl, rfl, rfl⟩ | exact (ka).gcall ⟨rfl, rfl, rfl⟩ | exact (kb).gcall ⟨rfl, rfl, rfl⟩) (by first | exact .inl rfl | (right; simp (disch := omega) [go_sem, upd_ne])) ?_; try simp only [pS_some, pS_none]) | (refine aC_end ?_; apply Hide.out hK; clear hK K; try with_reducible dsimp only [thenA]))
          repeat' (first | (refine ac_seq_h fun K hK => ?_) | (refine ac_region_h fun K hK => ?_; simp (disch := omega) [go_sem, *, upd_ne]) | (apply Hide.out hK; clear hK K; try with_reducible dsimp only [thenA]) | (apply Hide.out hf; clear ht hf Kt Kf) | (refine ac_skip ?_; simp only [thenA]) | (refine ac_cond_h fun Kt Kf ht hf => ?_; simp (disch := omega) [go_sem, *]; try (refine ⟨fun hc => ?_, fun hc => ?_⟩ <;> try (exfalso; omega))))
          (refine ac_ret ?_; try dsimp only [thenA, blockA]; refine ⟨by simp, _, (by first | rfl | (simp (disch := omega) [go_sem] <;> rfl)), ?_⟩; refine ret_id ⟨fun k hk => (by first | rfl | (repeat rw [upd_ne _ _ _ _ (by omega)])), (by simp [go_sem, below, belowL]), (by simp [go_sem] <;> omega), by simp, by simp⟩)
        · skip
          simp only [if_true, Int.reduceSub]
          repeat' (first | (refine ac_seq_h fun K hK => ?_) | (refine ac_region_h fun K hK => ?_; simp (disch := omega) [go_sem, *, upd_ne, Tryz.ntmps49]) | (apply Hide.out hK; clear hK K; try with_reducible dsimp only [thenA]) | (apply Hide.out hf; clear ht hf Kt Kf) | (refine ac_block ?_) | (refine ac_skip ?_; simp only [thenA, blockA]) | (refine ac_cond_h fun Kt Kf ht hf => ?_; simp (disch := omega) [go_sem, *]; try (refine ⟨fun hc => ?_, fun hc => ?_⟩ <;> try (exfalso; omega))))
          refine ac_chain_h [16, 17] (fun h' => h' n = some (.cells [iv .i64 3, iv .i64 0, iv .i64 0, iv .i64 0, .fslc false fu 5 [.agg [iv .i64 ak, iv .i64 af, iv .i64 ao, iv .i64 an, .fslc anl afu asz (encL aks)], .agg [iv .i64 bk, iv .i64 bf, iv .i64 bo, iv .i64 bn, .fslc bnl bfu bsz (encL bks)]]])) mixed (by kernel_rfl) (by simp (disch := omega) [go_sem, upd_ne]) fun K hK => ?_
          simp (disch := omega) [go_sem, *]
          repeat' (first | (refine aC_c (by simp [go_sem]) (by decide) (fun h' hh => by (try dsimp only at hh); (try simp (disch := omega) [go_sem, *, ile_true]); first | exact rfl | exact ⟨rfl, rfl, rfl⟩ | exact (ka).gcall ⟨rfl, rfl, rfl⟩ | exact (kb).gcall ⟨rfl, rfl, rfl⟩) ?_; try simp only [pS_some]) | (refine aC_x (by simp [go_sem]) (by decide) (by (try simp (disch := omega) [go_sem, *]); first | exact rfl | exact ⟨rfl, rfl⟩ | exact ⟨rfl, rfl, rfl⟩ | exact (ka).gcall ⟨rfl, rfl, rfl⟩ | exact (kb).gcall ⟨rfl, rfl, rfl⟩) (by first | exact .inl rfl | (right; simp (disch := omega) [go_sem, upd_ne])) ?_; try simp only [pS_some, pS_none]) | (refine aC_end ?_; apply Hide.out hK; clear hK K; try with_reducible dsimp only [thenA]))
          repeat' (first | (refine ac_seq_h fun K hK => ?_) | (refine ac_region_h fun K hK => ?_; simp (disch := omega) [go_sem, *, wrap64_id, upd_ne]) | (apply Hide.out hK; clear hK K; try with_reducible dsimp only [thenA]) | (apply Hide.out ht; clear ht hf Kt Kf) | (refine ac_cond_h fun Kt Kf ht hf => ?_; simp (disch := omega) [go_sem, *]; try (refine ⟨fun hc => ?_, fun hc => ?_⟩ <;> try (exfalso; omega))))
          (refine ac_ret ?_; try dsimp only [thenA, blockA]; refine ⟨by simp, _, (by first | rfl | (simp (disch := omega) [go_sem] <;> rfl)), ?_⟩; refine ret_id ⟨fun k hk => (by first | rfl | (repeat rw [upd_ne _ _ _ _ (by omega)])), (by simp [go_sem, below, belowL]), (by simp [go_sem] <;> omega), by simp, by simp⟩)
      · cases t
        · skip
          simp only [Bool.false_eq_true, if_false, Int.reduceSub]
          repeat' (first | (refine ac_seq_h fun K hK => ?_) | (refine ac_region_h fun K hK => ?_; simp (disch := omega) [go_sem, *, upd_ne, Tryz.ntmps49]) | (apply Hide.out hK; clear hK K; try with_reducible dsimp only [thenA]) | (apply Hide.out hf; clear ht hf Kt Kf) | (refine ac_block ?_) | (refine ac_skip ?_; simp only [thenA, blockA]) | (refine ac_cond_h fun Kt Kf ht hf => ?_; simp (disch := omega) [go_sem, *]; try (refine ⟨fun hc => ?_, fun hc => ?_⟩ <;> try (exfalso; omega))))
          refine ac_chain_h [16, 17] (fun h' => h' n = some (.cells [iv .i64 4, iv .i64 0, iv .i64 0, iv .i64 0, .fslc false fu 5 [.agg [iv .i64 ak, iv .i64 af, iv .i64 ao, iv .i64 an, .fslc anl afu asz (encL aks)], .agg [iv .i64 bk, iv .i64 bf, iv .i64 bo, iv .i64 bn, .fslc bnl bfu bsz (encL bks)]]])) mixed (by kernel_rfl) (by simp (disch := omega) [go_sem, upd_ne]) fun K hK => ?_
          simp (disch := omega) [go_sem, *]
          repeat' (first | (refine aC_c (by simp [go_sem]) (by decide) (fun h' hh => by (try dsimp only at hh); (try simp (disch := omega) [go_sem, *, ile_true]); first | exact rfl | exact ⟨rfl, rfl, rfl⟩ | exact (ka).gcall ⟨rfl, rfl, rfl⟩ | exact (kb).gcall ⟨rfl, rfl, rfl⟩) ?_; try simp only [pS_some]) | (refine aC_x (by simp [go_sem]) (by decide) (by (try simp (disch := omega) [go_sem, *]); first | exact rfl | exact ⟨rfl, rfl⟩ | exact ⟨rfl, rfl, rfl⟩ | exact (ka).gcall ⟨rfl, rfl, rfl⟩ | exact (kb).gcall ⟨rfl, rfl, rfl⟩) (by first | exact .inl rfl | (right; simp (disch := omega) [go_sem, upd_ne])) ?_; try simp only [pS_some, pS_none]) | (refine aC_end ?_; apply Hide.out hK; clear hK K; try with_reducible dsimp only [thenA]))
          repeat' (first | (refine ac_seq_h fun K hK => ?_) | (refine ac_region_h fun K hK => ?_; simp (disch := omega) [go_sem, *, upd_ne]) | (apply Hide.out hK; clear hK K; try with_reducible dsimp only [thenA]) | (apply Hide.out hf; clear ht hf Kt Kf) | (refine ac_skip ?_; simp only [thenA]) | (refine ac_cond_h fun Kt Kf ht hf => ?_; simp (disch := omega) [go_sem, *]; try (refine ⟨fun hc => ?_, fun hc => ?_⟩ <;> try (exfalso; omega))))
          (refine ac_ret ?_; try dsimp only [thenA, blockA]; refine ⟨by simp, _, (by first | rfl | (simp (disch := omega) [go_sem] <;> rfl)), ?_⟩; refine ret_id ⟨fun k hk => (by first | rfl | (repeat rw [upd_ne _ _ _ _ (by omega)])), (by simp [go_sem, below, belowL]), (by simp [go_sem] <;> omega), by simp, by simp⟩)
        · skip
          simp only [if_true, Int.reduceSub]
          repeat' (first | (refine ac_seq_h fun K hK => ?_) | (refine ac_region_h fun K hK => ?_; simp (disch := omega) [go_sem, *, upd_ne, Tryz.ntmps49]) | (apply Hide.out hK; clear hK K; try with_reducible dsimp only [thenA]) | (apply Hide.out hf; clear ht hf Kt Kf) | (refine ac_block ?_) | (refine ac_skip ?_; simp only [thenA, blockA]) | (refine ac_cond_h fun Kt Kf ht hf => ?_; simp (disch := omega) [go_sem, *]; try (refine ⟨fun hc => ?_, fun hc => ?_⟩ <;> try (exfalso; omega))))
          refine ac_chain_h [16, 17] (fun h' => h' n = some (.cells [iv .i64 4, iv .i64 0, iv .i64 0, iv .i64 0, .fslc false fu 5 [.agg [iv .i64 ak, iv .i64 af, iv .i64 ao, iv .i64 an, .fslc anl afu asz (encL aks)], .agg [iv .i64 bk, iv .i64 bf, iv .i64 bo, iv .i64 bn, .fslc bnl bfu bsz (encL bks)]]])) mixed (by kernel_rfl) (by simp (disch := omega) [go_sem, upd_ne]) fun K hK => ?_
          simp (disch := omega) [go_sem, *]
          repeat' (first | (refine aC_c (by simp [go_sem]) (by decide) (fun h' hh => by (try dsimp only at hh); (try simp (disch := omega) [go_sem, *, ile_true]); first | exact rfl | exact ⟨rfl, rfl, rfl⟩ | exact (ka).gcall ⟨rfl, rfl, rfl⟩ | exact (kb).gcall ⟨rfl, rfl, rfl⟩) ?_; try simp only [pS_some]) | (refine aC_x (by simp [go_sem]) (by decide) (by (try simp (disch := omega) [go_sem, *]); first | exact rfl | exact ⟨rfl, rfl⟩ | exact ⟨rfl, rfl, rfl⟩ | exact (ka).gcall ⟨rfl, rfl, rfl⟩ | exact (kb).gcall ⟨rfl, rfl, rfl⟩) (by first | exact .inl rfl | (right; simp (disch := omega) [go_sem, upd_ne])) ?_; try simp only [pS_some, pS_none]) | (refine aC_end ?_; apply Hide.out hK; clear hK K; try with_reducible dsimp only [thenA]))
          repeat' (first | (refine ac_seq_h fun K hK => ?_) | (refine ac_region_h fun K hK => ?_; simp (disch := omega) [go_sem, *, wrap64_id, upd_ne]) | (apply Hide.out hK; clear hK K; try with_reducible dsimp only [thenA]) | (apply Hide.out ht; clear ht hf Kt Kf) | (refine ac_cond_h fun Kt Kf ht hf => ?_; simp (disch := omega) [go_sem, *]; try (refine ⟨fun hc => ?_, fun hc => ?_⟩ <;> try (exfalso; omega))))
          (refine ac_ret ?_; try dsimp only [thenA, blockA]; refine ⟨by simp, _, (by first | rfl | (simp (disch := omega) [go_sem] <;> rfl)), ?_⟩; refine ret_id ⟨fun k hk => (by first | rfl | (repeat rw [upd_ne _ _ _ _ (by omega)])), (by simp [go_sem, below, belowL]), (by simp [go_sem] <;> omega), by simp, by simp⟩)
end Go.AM

namespace Go.AM
open Go.Proofs Cw
set_option maxRecDepth 10000
set_option maxHeartbeats 4000000
end Go.AM
