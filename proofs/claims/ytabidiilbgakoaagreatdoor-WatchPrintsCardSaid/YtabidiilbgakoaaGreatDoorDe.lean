/- Check, by the program. Conditions: as each theorem says. -/
import Derived.Test.YtabidiilbgakoaaGreatDoorDd
import Derived.Test.YtabidiilbgakoaaGreatDoorEc
namespace Go.AM
open Go.Proofs Cw Du
set_option maxRecDepth 10000
set_option maxHeartbeats 4000000
def chkW (ls : List Lin) (l : List Ordr) : Int := if 60 < ls.length then 2 else if 30 < l.length then 2 else if ls.all lineOk then (if l.all ordOk then 0 else 7) else 7
def smL (ls : List Lin) : Prop := ∀ x ∈ ls, wfLn x ∧ x.exc.length ≤ 100000 ∧ x.tower.size ≤ 1000000 ∧ x.person.size ≤ 1000000 ∧ x.other.size ≤ 1000000
theorem check_spec (nlL fuL : Bool) (sL : Nat) (ls : List Lin) (hnlL : ls = [] ∨ nlL = false ∧ sL = 8) (hsL : smL ls) (hlL : ls.length ≤ 1000000) (nl fu : Bool) (s : Nat) (l : List Ordr) (hnl : l = [] ∨ nl = false ∧ s = 7) (hw : wfO l) (hs : smO l) (hl : l.length ≤ 1000000) :
    APure Tryz.prog 29 [.agg [.fslc nlL fuL sL (ls.map encLn), .fslc nl fu s (l.map encO)]] (iv .i64 (chkW ls l)) := by
  intro h n
  refine ACalls.pure (ACalls.entry (by kernel_rfl) fun hb _ => calls_of Tryz.func29 rfl (by kernel_rfl) (by simp [Tryz.ntmps29]) ?_)
  obtain ⟨T, hT⟩ : ∃ T, Hide (T = chkW ls l) := ⟨_, rfl⟩
  rw [← hT.out]
  replace hnl : Hide _ := hnl
  replace hnlL : Hide _ := hnlL
  replace hsL : Hide _ := hsL
  replace hw : Hide _ := hw
  replace hs : Hide _ := hs
  by_cases h60 : 60 < ls.length
  · have hT2 : T = 2 := by rw [hT.out, chkW, if_pos h60]
    subst hT2
    repeat' (first | (refine ac_seq_h fun K hK => ?_) | (refine ac_region_h fun K hK => ?_; simp (disch := omega) [go_sem, *, ilt_true, Tryz.ntmps29]) | (apply Hide.out hK; clear hK K; try with_reducible dsimp only [thenA]) | (apply Hide.out ht; clear ht hf Kt Kf) | (refine ac_cond_h fun Kt Kf ht hf => ?_; simp (disch := omega) [go_sem, *]; try (refine ⟨fun hc => ?_, fun hc => ?_⟩ <;> try (exfalso; omega))))
    (refine ac_ret ?_; try dsimp only [thenA, blockA]; refine ⟨by simp, _, (by first | rfl | (simp (disch := omega) [go_sem, upd_ne] <;> rfl)), ?_⟩; refine ret_id ⟨fun k hk => (by first | rfl | (repeat rw [upd_ne _ _ _ _ (by omega)])), (by simp [go_sem, below]), (by simp [go_sem] <;> omega), by simp, by simp⟩)
  · by_cases h30 : 30 < l.length
    · have hT2 : T = 2 := by rw [hT.out, chkW, if_neg h60, if_pos h30]
      subst hT2
      repeat' (first | (refine ac_seq_h fun K hK => ?_) | (refine ac_region_h fun K hK => ?_; simp (disch := omega) [go_sem, *, ilt_true, ilt_false, Tryz.ntmps29]) | (apply Hide.out hK; clear hK K; try with_reducible dsimp only [thenA]) | (apply Hide.out ht; clear ht hf Kt Kf) | (refine ac_cond_h fun Kt Kf ht hf => ?_; simp (disch := omega) [go_sem, *]; try (refine ⟨fun hc => ?_, fun hc => ?_⟩ <;> try (exfalso; omega))))
      (refine ac_ret ?_; try dsimp only [thenA, blockA]; refine ⟨by simp, _, (by first | rfl | (simp (disch := omega) [go_sem, upd_ne] <;> rfl)), ?_⟩; refine ret_id ⟨fun k hk => (by first | rfl | (repeat rw [upd_ne _ _ _ _ (by omega)])), (by simp [go_sem, below]), (by simp [go_sem] <;> omega), by simp, by simp⟩)
    · have hTL : T = if ls.all lineOk then (if l.all ordOk then 0 else 7) else 7 := by rw [hT.out, chkW, if_neg h60, if_neg h30]
      replace hTL : Hide _ := hTL
      repeat' (first | (refine ac_seq_h fun K hK => ?_) | (refine ac_region_h fun K hK => ?_; simp (disch := omega) [go_sem, *, ilt_false, Tryz.ntmps29]) | (apply Hide.out hK; clear hK K; try with_reducible dsimp only [thenA]) | (apply Hide.out hf; clear ht hf Kt Kf) | (refine ac_block ?_) | (refine ac_skip ?_; simp only [thenA]) | (refine ac_cond_h fun Kt Kf ht hf => ?_; simp (disch := omega) [go_sem, *]; try (refine ⟨fun hc => ?_, fun hc => ?_⟩ <;> try (exfalso; omega))))
      refine ac_loop_wk (fun s' => ∃ (i n' : Nat), n < n' ∧ i ≤ ls.length ∧ (∀ j o, j < i → ls[j]? = some o → lineOk o = true) ∧ s' = ⟨52, [(1, .ptr n 0), (18, .fslc nlL fuL sL (ls.map encLn)), (19, iv .i64 ls.length), (20, iv .i64 i)], h.upd n (some (.cells [.fslc nlL fuL sL (ls.map encLn), .fslc nl fu s (l.map encO)])), n'⟩)
        (fun s' => ls.length - (intAt s' 20).toNat) ?_ ?_
      · exact loop_start (by simp [go_sem]) (Sub.refl _) ⟨0, _, by omega, by omega, fun j o hj => by omega, rfl⟩
      · rintro s' ⟨i, n', hn', hi, hall, rfl⟩
        replace hall : Hide _ := hall
        by_cases hlt : i < ls.length
        · obtain ⟨x, hx⟩ : ∃ o, ls[i] = o := ⟨_, rfl⟩
          have hmem : x ∈ ls := hx ▸ List.getElem_mem hlt
          have hne : ls ≠ [] := fun e => by rw [e] at hlt; simp at hlt
          obtain ⟨rfl, rfl⟩ := hnlL.out.resolve_left hne
          obtain ⟨q1, q2, q3, q4, q5⟩ := hsL.out _ hmem
          have k1 := line_spec x q1 q2 q3 q4 q5
          have hex : encLn ls[i] = .agg [iv .i64 x.kind, sv x.tower, sv x.person, sv x.other, iv .i64 x.fr, iv .i64 x.to, iv .i64 x.ev, .fslc x.nl x.fu x.s (x.exc.map (iv .i64))] := by rw [hx]; rfl
          have hxs : ls[i]? = some x := by rw [List.getElem?_eq_getElem hlt, hx]
          have hbad : lineOk x = false → T = 7 := fun hq => by
            rw [hTL.out, if_neg]
            intro e
            have := List.all_eq_true.1 e _ hmem
            rw [hq] at this; cases this
          simp only [encLn] at k1
          generalize hz : lineOk x = z at *
          replace hx : Hide _ := hx
          replace hxs : Hide _ := hxs
          replace hz : Hide _ := hz
          clear hmem hne q1 q2 q3 q4 q5
          obtain ⟨kd, tw, pe, ot, fr, to, ev, xnl, xfu, xs, exc⟩ := x
          simp only at k1 hex
          generalize List.map (iv .i64) exc = X at *
          cases z
          · have hTf := hbad rfl
            subst hTf
            clear hbad
            repeat' (first | (refine ac_seq_h fun K hK => ?_) | (refine ac_region_h fun K hK => ?_; simp (disch := omega) [go_sem, *, ilt_true, ile_true]) | (apply Hide.out hK; clear hK K; try with_reducible dsimp only [thenA]) | (apply Hide.out ht; clear ht hf Kt Kf) | (with_reducible refine APure.gcall (k1) ?_; try simp (disch := omega) [go_sem, *]) | (refine ac_block ?_) | (refine ac_skip ?_; simp only [thenA]) | (refine ac_cond_h fun Kt Kf ht hf => ?_; simp (disch := omega) [go_sem, *]; try (refine ⟨fun hc => ?_, fun hc => ?_⟩ <;> try (exfalso; omega))))
            (refine ac_ret ?_; try dsimp only [thenA, blockA]; refine ⟨by simp, _, (by first | rfl | (simp (disch := omega) [go_sem, upd_ne] <;> rfl)), ?_⟩; refine ret_id ⟨fun k hk => (by first | rfl | (repeat rw [upd_ne _ _ _ _ (by omega)])), (by simp [go_sem, below]), (by simp [go_sem] <;> omega), by simp, by simp⟩)
          · clear hbad
            repeat' (first | (refine ac_seq_h fun K hK => ?_) | (refine ac_region_h fun K hK => ?_; simp (disch := omega) [go_sem, *, wrap64_id, ilt_true, ile_true]) | (apply Hide.out hK; clear hK K; try with_reducible dsimp only [thenA]) | (apply Hide.out ht; clear ht hf Kt Kf) | (apply Hide.out hf; clear ht hf Kt Kf) | (with_reducible refine APure.gcall (k1) ?_; try simp (disch := omega) [go_sem, *]) | (refine ac_block ?_) | (refine ac_skip ?_; simp only [thenA, blockA]) | (refine ac_cond_h fun Kt Kf ht hf => ?_; simp (disch := omega) [go_sem, *]; try (refine ⟨fun hc => ?_, fun hc => ?_⟩ <;> try (exfalso; omega))))
            exact round_end (by simp (disch := omega) [go_sem]) (by repeat (first | exact Sub.refl _ | refine Sub.upd ?_ (by rw [upd_ne _ _ _ _ (by omega)]; exact hb.none (by omega)) _)) ⟨i + 1, _, by omega, by omega, fun j y hj hy => by
              rcases Nat.lt_or_ge j i with h1 | h1
              · exact hall.out j y h1 hy
              · have : j = i := by omega
                subst this
                rw [hxs.out] at hy; cases hy; exact hz.out, rfl⟩ (by simp [intAt, go_sem]; omega)
        · have hall2 : ls.all lineOk = true := by
            rw [List.all_eq_true]
            intro o ho
            obtain ⟨j, hj, e⟩ := List.getElem_of_mem ho
            exact hall.out j o (by omega) (by rw [List.getElem?_eq_getElem hj, e])
          have hTs : T = if l.all ordOk then 0 else 7 := by rw [hTL.out, if_pos hall2]
          replace hTs : Hide _ := hTs
          clear hall2 hall hTL
          repeat' (first | (refine ac_seq_h fun K hK => ?_) | (refine ac_region_h fun K hK => ?_; simp (disch := omega) [go_sem, *, ilt_false]) | (apply Hide.out hK; clear hK K; try with_reducible dsimp only [thenA]) | (apply Hide.out hf; clear ht hf Kt Kf) | (clear hK K; apply Hide.out hK; clear hK K; try with_reducible dsimp only [thenA]) | (refine ac_block ?_) | (refine ac_exit ?_; simp only [thenA, blockA, if_true]) | (refine ac_cond_h fun Kt Kf ht hf => ?_; simp (disch := omega) [go_sem, *]; try (refine ⟨fun hc => ?_, fun hc => ?_⟩ <;> try (exfalso; omega))))
          refine ac_loop_wk (fun s' => ∃ (i n2 : Nat), n < n2 ∧ i ≤ l.length ∧ (∀ j o, j < i → l[j]? = some o → ordOk o = true) ∧ s' = ⟨52, [(1, .ptr n 0), (29, .fslc nl fu s (l.map encO)), (30, iv .i64 l.length), (31, iv .i64 i)], h.upd n (some (.cells [.fslc nlL fuL sL (ls.map encLn), .fslc nl fu s (l.map encO)])), n2⟩)
            (fun s' => l.length - (intAt s' 31).toNat) ?_ ?_
          · exact loop_start (by simp [go_sem]) (Sub.refl _) ⟨0, _, by omega, by omega, fun j o hj => by omega, rfl⟩
          · rintro s' ⟨i, n2, hn2, hi, hall, rfl⟩
            replace hall : Hide _ := hall
            by_cases hlt : i < l.length
            · obtain ⟨⟨nm, rk, k, f, o, nn, nl2, fu2, s2, ks⟩, hx⟩ : ∃ o, l[i] = o := ⟨_, rfl⟩
              have hmem : ∀ o, l[i] = o → o ∈ l := fun o e => e ▸ List.getElem_mem hlt
              have hne : l ≠ [] := fun e => by rw [e] at hlt; simp at hlt
              obtain ⟨rfl, rfl⟩ := hnl.out.resolve_left hne
              have hwc := hw.out _ (hmem _ hx)
              have hsc := hs.out _ (hmem _ hx)
              have k1 := named83 nm hsc.2
              have k2 := within_spec rk 0 100
              have k3 := formed_spec _ hwc hsc.1
              have hex : encO l[i] = .agg [sv nm, iv .i64 rk, iv .i64 k, iv .i64 f, iv .i64 o, iv .i64 nn, .fslc nl2 fu2 s2 (encL ks)] := by rw [hx]; rfl
              have hxs : l[i]? = some ⟨nm, rk, .mk k f o nn nl2 fu2 s2 ks⟩ := by rw [List.getElem?_eq_getElem hlt, hx]
              have hbad : ordOk ⟨nm, rk, .mk k f o nn nl2 fu2 s2 ks⟩ = false → T = 7 := fun hq => by
                rw [hTs.out, if_neg]
                intro e
                have := List.all_eq_true.1 e _ (hmem _ hx)
                rw [hq] at this; cases this
              have hok : ordOk ⟨nm, rk, .mk k f o nn nl2 fu2 s2 ks⟩ = (nameOk nm && wi rk 0 100 && Cw.formed (.mk k f o nn nl2 fu2 s2 ks)) := rfl
              simp only [encC] at k3
              generalize nameOk nm = x at *
              generalize wi rk 0 100 = y at *
              generalize Cw.formed (.mk k f o nn nl2 fu2 s2 ks) = z at *
              replace hx : Hide _ := hx
              replace hxs : Hide _ := hxs
              clear hmem hne hwc hsc
              cases x
              · have hTf := hbad (by rw [hok]; rfl)
                subst hTf
                clear hbad hok
                repeat' (first | (refine ac_seq_h fun K hK => ?_) | (refine ac_region_h fun K hK => ?_; simp (disch := omega) [go_sem, *, ilt_true, ile_true]) | (apply Hide.out hK; clear hK K; try with_reducible dsimp only [thenA]) | (apply Hide.out ht; clear ht hf Kt Kf) | (with_reducible refine APure.gcall (k1) ?_; try simp (disch := omega) [go_sem, *]) | (refine ac_block ?_) | (refine ac_skip ?_; simp only [thenA]) | (refine ac_cond_h fun Kt Kf ht hf => ?_; simp (disch := omega) [go_sem, *]; try (refine ⟨fun hc => ?_, fun hc => ?_⟩ <;> try (exfalso; omega))))
                (refine ac_ret ?_; try dsimp only [thenA, blockA]; refine ⟨by simp, _, (by first | rfl | (simp (disch := omega) [go_sem, upd_ne] <;> rfl)), ?_⟩; refine ret_id ⟨fun k hk => (by first | rfl | (repeat rw [upd_ne _ _ _ _ (by omega)])), (by simp [go_sem, below]), (by simp [go_sem] <;> omega), by simp, by simp⟩)
              · cases y
                · have hTf := hbad (by rw [hok]; rfl)
                  subst hTf
                  clear hbad hok
                  repeat' (first | (refine ac_seq_h fun K hK => ?_) | (refine ac_region_h fun K hK => ?_; simp (disch := omega) [go_sem, *, ilt_true, ile_true]) | (apply Hide.out hK; clear hK K; try with_reducible dsimp only [thenA]) | (apply Hide.out ht; clear ht hf Kt Kf) | (with_reducible refine APure.gcall (k1) ?_; try simp (disch := omega) [go_sem, *]) | (with_reducible refine APure.gcall (k2) ?_; try simp (disch := omega) [go_sem, *]) | (refine ac_block ?_) | (refine ac_skip ?_; simp only [thenA]) | (refine ac_cond_h fun Kt Kf ht hf => ?_; simp (disch := omega) [go_sem, *]; try (refine ⟨fun hc => ?_, fun hc => ?_⟩ <;> try (exfalso; omega))))
                  (refine ac_ret ?_; try dsimp only [thenA, blockA]; refine ⟨by simp, _, (by first | rfl | (simp (disch := omega) [go_sem, upd_ne] <;> rfl)), ?_⟩; refine ret_id ⟨fun k hk => (by first | rfl | (repeat rw [upd_ne _ _ _ _ (by omega)])), (by simp [go_sem, below]), (by simp [go_sem] <;> omega), by simp, by simp⟩)
                · cases z
                  · have hTf := hbad (by rw [hok]; rfl)
                    subst hTf
                    clear hbad hok
                    repeat' (first | (refine ac_seq_h fun K hK => ?_) | (refine ac_region_h fun K hK => ?_; simp (disch := omega) [go_sem, *, ilt_true, ile_true]) | (apply Hide.out hK; clear hK K; try with_reducible dsimp only [thenA]) | (apply Hide.out ht; clear ht hf Kt Kf) | (with_reducible refine APure.gcall (k1) ?_; try simp (disch := omega) [go_sem, *]) | (with_reducible refine APure.gcall (k2) ?_; try simp (disch := omega) [go_sem, *]) | (with_reducible refine APure.gcall (k3) ?_; try simp (disch := omega) [go_sem, *]) | (refine ac_block ?_) | (refine ac_skip ?_; simp only [thenA]) | (refine ac_cond_h fun Kt Kf ht hf => ?_; simp (disch := omega) [go_sem, *]; try (refine ⟨fun hc => ?_, fun hc => ?_⟩ <;> try (exfalso; omega))))
                    (refine ac_ret ?_; try dsimp only [thenA, blockA]; refine ⟨by simp, _, (by first | rfl | (simp (disch := omega) [go_sem, upd_ne] <;> rfl)), ?_⟩; refine ret_id ⟨fun k hk => (by first | rfl | (repeat rw [upd_ne _ _ _ _ (by omega)])), (by simp [go_sem, below]), (by simp [go_sem] <;> omega), by simp, by simp⟩)
                  · have hok2 : ordOk ⟨nm, rk, .mk k f o nn nl2 fu2 s2 ks⟩ = true := by rw [hok]; rfl
                    replace hok2 : Hide _ := hok2
                    clear hbad hok
                    repeat' (first | (refine ac_seq_h fun K hK => ?_) | (refine ac_region_h fun K hK => ?_; simp (disch := omega) [go_sem, *, wrap64_id, ilt_true, ile_true]) | (apply Hide.out hK; clear hK K; try with_reducible dsimp only [thenA]) | (apply Hide.out ht; clear ht hf Kt Kf) | (apply Hide.out hf; clear ht hf Kt Kf) | (with_reducible refine APure.gcall (k1) ?_; try simp (disch := omega) [go_sem, *]) | (with_reducible refine APure.gcall (k2) ?_; try simp (disch := omega) [go_sem, *]) | (with_reducible refine APure.gcall (k3) ?_; try simp (disch := omega) [go_sem, *]) | (refine ac_block ?_) | (refine ac_skip ?_; simp only [thenA, blockA]) | (refine ac_cond_h fun Kt Kf ht hf => ?_; simp (disch := omega) [go_sem, *]; try (refine ⟨fun hc => ?_, fun hc => ?_⟩ <;> try (exfalso; omega))))
                    exact round_end (by simp (disch := omega) [go_sem]) (by repeat (first | exact Sub.refl _ | refine Sub.upd ?_ (by rw [upd_ne _ _ _ _ (by omega)]; exact hb.none (by omega)) _)) ⟨i + 1, _, by omega, by omega, fun j y hj hy => by
                      rcases Nat.lt_or_ge j i with h1 | h1
                      · exact hall.out j y h1 hy
                      · have : j = i := by omega
                        subst this
                        rw [hxs.out] at hy; cases hy; exact hok2.out, rfl⟩ (by simp [intAt, go_sem]; omega)
            · have hall2 : l.all ordOk = true := by
                rw [List.all_eq_true]
                intro o ho
                obtain ⟨j, hj, e⟩ := List.getElem_of_mem ho
                exact hall.out j o (by omega) (by rw [List.getElem?_eq_getElem hj, e])
              have hT0 : T = 0 := by rw [hTs.out, hall2]; rfl
              subst hT0
              clear hall2
              repeat' (first | (refine ac_seq_h fun K hK => ?_) | (refine ac_region_h fun K hK => ?_; simp (disch := omega) [go_sem, *, ilt_false]) | (apply Hide.out hK; clear hK K; try with_reducible dsimp only [thenA]) | (apply Hide.out hf; clear ht hf Kt Kf) | (clear hK K; apply Hide.out hK; clear hK K; try with_reducible dsimp only [thenA]) | (refine ac_exit ?_; simp only [thenA, blockA, if_true]) | (refine ac_cond_h fun Kt Kf ht hf => ?_; simp (disch := omega) [go_sem, *]; try (refine ⟨fun hc => ?_, fun hc => ?_⟩ <;> try (exfalso; omega))))
              (refine ac_ret ?_; try dsimp only [thenA, blockA]; refine ⟨by simp, _, (by first | rfl | (simp (disch := omega) [go_sem, upd_ne] <;> rfl)), ?_⟩; refine ret_id ⟨fun k hk => (by first | rfl | (repeat rw [upd_ne _ _ _ _ (by omega)])), (by simp [go_sem, below]), (by simp [go_sem] <;> omega), by simp, by simp⟩)
end Go.AM
