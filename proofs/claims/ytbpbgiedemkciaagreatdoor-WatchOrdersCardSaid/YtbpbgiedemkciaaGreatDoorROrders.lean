/- The law WatchOrders returns true for every input that reads as data. Conditions: as each theorem says. -/
import Derived.Deep.DeepWitnessRowRef
import Derived.Lib.SpaceR
import Derived.Test.YtbpbgiedemkciaaGreatDoorEi
import Derived.Test.YtbpbgiedemkciaaGreatDoorDo
namespace Go.AM
open Go.Proofs Cw
set_option maxRecDepth 10000
set_option maxHeartbeats 4000000
/-- what Unused and Decide say, where both are without error -/
theorem both_fine {l : List Ordr} {fs : Fs} (h1 : (unO l).2 = 0) (h2 : (decO l fs).2.2 = 0) : chk l = 0 ∧ fewP (condsO l) = true ∧ fs.ok = true ∧ (unO l).1 = unusU (used l) l.length ∧ decO l fs = (max (giv l fs) 0, decide (giv l fs ≥ 0), 0) := by
  have hc : chk l = 0 := by
    by_cases hc : chk l = 0
    · exact hc
    · unfold unO at h1
      rw [if_pos hc] at h1
      exact absurd h1 hc
  have hf : fewP (condsO l) = true := by
    by_cases hf : fewP (condsO l) = true
    · exact hf
    · unfold unO at h1
      rw [if_neg (by simpa using hc), if_neg hf] at h1
      exact absurd h1 (by simp)
  have ho : fs.ok = true := by
    by_cases ho : fs.ok = true
    · exact ho
    · unfold decO at h2
      rw [if_neg (by simpa using hc), if_neg ho] at h2
      exact absurd h2 (by simp)
  refine ⟨hc, hf, ho, ?_, ?_⟩
  · unfold unO
    rw [if_neg (by simpa using hc), if_pos hf]; rfl
  · unfold decO
    rw [if_neg (by simpa using hc), if_pos ho]
theorem keep_ok {l : List Ordr} (p : Nat → Bool) (hw : wfO l) (hf : fewO l = true) (h6 : l.length ≤ 6) : wfO (keepO p 0 l) ∧ fewO (keepO p 0 l) = true := by
  refine ⟨fun o ho => hw o (keepO_mem _ _ _ o ho), ?_⟩
  have h := keepO_len p l 0
  simp only [fewO, Bool.and_eq_true, Bool.or_eq_true, decide_eq_true_eq, List.all_eq_true] at hf ⊢
  exact ⟨fun o ho => hf.1 o (keepO_mem _ _ _ o ho), .inl (by omega)⟩
theorem chk_keep {l : List Ordr} (p : Nat → Bool) (h1 : chk l = 0) : chk (keepO p 0 l) = 0 := by
  have hz := chk_zero h1
  have h3 := keepO_len p l 0
  unfold chk
  rw [if_neg (by omega), if_pos]
  rw [List.all_eq_true]
  exact fun o ho => List.all_eq_true.1 hz.1 o (keepO_mem _ _ _ o ho)
theorem WatchOrders_spec (nl : Bool) (l : List Ordr) (hnl : l = [] ∨ nl = false ∧ 7 = 7) (hw : wfO l) (hl : l.length ≤ 9223372036854775807) (fs : Fs) :
    APure Tryz.prog 7 [.fslc nl false 7 (l.map encO), encF fs] (bv true) := by
  intro h n
  have k0 := Go.Proofs.SAN.sanity_ok
  have k1 := few21 nl false 7 l hnl hw hl
  refine ACalls.pure (ACalls.entry (by kernel_rfl) fun hb _ => calls_of Tryz.func7 rfl (by kernel_rfl) (by simp [Tryz.ntmps7]) ?_)
  by_cases h1 : fewO l = true
  · rw [h1] at k1
    by_cases h6 : l.length ≤ 6
    · have lu := unO_len l
      have k3 := Unused24 nl false 7 l hnl hw h1
      have k4 := Decide22 nl false 7 l hnl hw (few_sm h1) (by omega) fs
      have kf := free29 (unO l).1 (by omega)
      obtain ⟨r1, r2, r3, r4, hr⟩ : ∃ a b c d, rowF (unO l).1 = .fslc a b c d := by
        unfold rowF
        split <;> exact ⟨_, _, _, _, rfl⟩
      rw [hr] at k3
      simp only [hr] at kf
      clear hr lu
      by_cases he1 : (unO l).2 = 0
      · by_cases he2 : (decO l fs).2.2 = 0
        · obtain ⟨hc, hfw, hfo, hU, hD⟩ := both_fine he1 he2
          rw [he1] at k3
          rw [he2] at k4
          rw [hU] at kf
          have hok := all_okO hw (chk_zero hc).1
          obtain ⟨hwk, hfk⟩ := keep_ok (used l) hw h1 h6
          have hkl := keepO_len (used l) l 0
          have k5 := Decide22 ((keepO (used l) 0 l).map encO).isEmpty false 7 (keepO (used l) 0 l) (by cases keepO (used l) 0 l <;> simp) hwk (few_sm hfk) (by omega) fs
          have k6 := SameOrders26 nl false 7 l hnl hw h1 ((keepO (used l) 0 l).map encO).isEmpty false 7 (keepO (used l) 0 l) (by cases keepO (used l) 0 l <;> simp) hwk hfk
          rw [sameO_used l hc hfw] at k6
          have hgk := giv_keep (used l) l fs fun g hg => giv_used l hok fs hfo g hg
          have hck := chk_keep (used l) hc
          have hD2 : decO (keepO (used l) 0 l) fs = (max (giv (keepO (used l) 0 l) fs) 0, decide (giv (keepO (used l) 0 l) fs ≥ 0), 0) := by
            unfold decO
            rw [if_neg (by simpa using hck), if_pos hfo]
          rw [hD] at k4
          rw [hD2] at k5
          simp only at k4 k5
          have hbest := giv_best l fs
          have hus : ∀ g : Nat, giv l fs = g → used l g = true := fun g hg => giv_used l hok fs hfo g hg
          have hfu : ∀ i : Nat, i < l.length → (decide ((i : Int) ∉ unusU (used l) l.length)) = used l i := fun i hi => by
            have := mem_unusU (used l) l.length i hi
            cases hu : used l i with
            | true => rw [hu] at this; simpa using this
            | false => rw [hu] at this; simpa using this
          have kh : ∀ o ∈ l, APure Tryz.prog 10 [encC o.cond, encF fs] (.tup [bv (holds o.cond fs), iv .i64 0]) := fun o ho => by
            have hfm : Cw.formed o.cond = true := by
              have := List.all_eq_true.1 (chk_zero hc).1 o ho
              simp only [ordOk, Bool.and_eq_true] at this
              exact this.2
            have k := Holds_spec o.cond (hw o ho) (by have := few_sm h1 o ho; omega) fs
            have e : outH o.cond fs = (holds o.cond fs, 0) := by simp [outH, hfm, hfo]
            rw [e] at k; exact k
          have htk : ∀ i (hi : i < l.length), keepO (used l) 0 (l.take (i + 1)) = if used l i then keepO (used l) 0 (l.take i) ++ [l[i]] else keepO (used l) 0 (l.take i) := fun i hi => keepO_take (used l) l i hi
          have hkt : ∀ i, (keepO (used l) 0 (l.take i)).length ≤ 6 := fun i => by
            have := keepO_len (used l) (l.take i) 0
            have := List.length_take_le i l
            rw [List.length_take] at this
            have h3 : (l.take i).length ≤ l.length := by rw [List.length_take]; omega
            omega
          have hall : keepO (used l) 0 (l.take l.length) = keepO (used l) 0 l := by rw [List.take_length]
          have h6b : (List.map encO l).length ≤ 6 := by simpa using h6
          clear hD hD2 hck hfo hc hfw hU he1 he2 hok hwk hfk
          replace hbest : Hide _ := hbest
          replace hus : Hide _ := hus
          replace hfu : Hide _ := hfu
          replace kh : Hide _ := kh
          replace htk : Hide _ := htk
          replace hkt : Hide _ := hkt
          replace hall : Hide _ := hall
          replace kf : Hide _ := kf
          replace hw : Hide _ := hw
          replace hnl : Hide _ := hnl
          obtain ⟨g0, g1, g2, g3, g4⟩ := fs
          simp only [encF] at k4 k5 kh ⊢
          rcases hgk with ⟨ga, gb⟩ | ⟨g, k, o, ga, gb, gl, gw⟩
          · have hno : ∀ x ∈ l, holds x.cond ⟨g0, g1, g2, g3, g4⟩ = false := by
              rcases hbest.out with ⟨_, e⟩ | ⟨g', o', e1, _⟩
              · exact e
              · omega
            rw [ga] at k4
            rw [gb] at k5
            have q1 : max (-1 : Int) 0 = 0 := by omega
            have q2 : decide ((-1 : Int) ≥ 0) = false := by decide
            rw [q1, q2] at k4
            rw [q1, q2] at k5
            clear q1 q2 ga gb hbest hus
            replace hno : Hide _ := hno
            repeat' (first | (refine ac_seq_h fun K hK => ?_) | (refine ac_region_h fun K hK => ?_; simp (disch := omega) [go_sem, *, Tryz.ntmps7 ]) | (apply Hide.out hK; clear hK K; try with_reducible dsimp only [thenA]) | (apply Hide.out hf; clear ht hf Kt Kf) | (with_reducible refine APure.gcall (k1) ?_; try simp (disch := omega) [go_sem, *, ilt_false ]) | (with_reducible refine APure.gcall (k3) ?_; try simp (disch := omega) [go_sem, * ]) | (with_reducible refine APure.gcall (k4) ?_; try simp (disch := omega) [go_sem, * ]) | (refine ac_block ?_) | (refine ac_skip ?_; simp only [thenA]) | (refine ac_cond_h fun Kt Kf ht hf => ?_; simp (disch := omega) [go_sem, * ]; try (refine ⟨fun hc => ?_, fun hc => ?_⟩ <;> try (exfalso; omega))))
            refine ac_loop_wk (fun s' => ∃ (i n' m : Nat) (H : AHeap), n < n' ∧ i ≤ l.length ∧ n < m ∧ H n = some (.cells [iv .i64 g0, iv .i64 g1, iv .i64 g2, iv .i64 g3, iv .i64 g4]) ∧ H m = acO ((keepO (used l) 0 (l.take i)).map encO) ∧ (∀ x, x < n → H x = h x) ∧
                s' = ⟨171, [(0, .fslc nl false 7 (l.map encO)), (3, .ptr n 0), (5, .fslc r1 r2 r3 r4), (7, iv .i64 0), (8, bv false), (10, acV 7 m ((keepO (used l) 0 (l.take i)).map encO)), (11, iv .i64 i)], H, n'⟩)
              (fun s' => l.length - (intAt s' 11).toNat) ?_ ?_
            · refine loop_start ?_ (Sub.refl _) ⟨0, _, n + 1, _, by omega, by omega, by omega, by simp (disch := omega) only [upd_same], ?_, fun x hx => by simp (disch := omega) only [upd_ne], rfl⟩
              · rw [show (keepO (used l) 0 (l.take 0)).map encO = [] from rfl, ac_nil]; simp [go_sem]
              · rw [upd_ne _ _ _ _ (by omega)]
                cases hx : h (n + 1) with
                | none => rfl
                | some o => have := (hb _ _ hx).1; omega
            · rintro s' ⟨i, n', m, H, hn', hi, hnm, hHn, hHm, hfr, rfl⟩
              replace hfr : Hide _ := hfr
              by_cases hlt : i < l.length
              · obtain ⟨⟨nm, rk, ck, cf, co, cn, cl, cu, cs, ks⟩, hx⟩ : ∃ o, l[i] = o := ⟨_, rfl⟩
                have hmem : (⟨nm, rk, .mk ck cf co cn cl cu cs ks⟩ : Ordr) ∈ l := hx ▸ List.getElem_mem hlt
                have hne : l ≠ [] := fun e => by rw [e] at hlt; simp at hlt
                obtain ⟨rfl, _⟩ := hnl.out.resolve_left hne
                have hex : encO l[i] = .agg [sv nm, iv .i64 rk, iv .i64 ck, iv .i64 cf, iv .i64 co, iv .i64 cn, .fslc cl cu cs (encL ks)] := by rw [hx]; rfl
                have c1 := kf.out i
                rw [hfu.out i hlt] at c1
                have c2 := kh.out _ hmem
                rw [hno.out _ hmem] at c2
                have c3 := htk.out i hlt
                rw [hx] at c3
                have c4 := hkt.out i
                have hap := fun (q : Nat) (H0 : AHeap) (b c : Bool) (he : H0 m = acO ((keepO (used l) 0 (l.take i)).map encO)) => ap_ord (nm := q) (m := m) (l := keepO (used l) 0 (l.take i)) (x := ⟨nm, rk, .mk ck cf co cn cl cu cs ks⟩) (h := H0) (b := b) (c := c) he (by omega)
                simp only [encO] at hap
                simp only [encC] at c2
                generalize used l i = u at c1 c3
                generalize keepO (used l) 0 (l.take i) = W at *
                replace hx : Hide _ := hx
                replace c3 : Hide _ := c3
                replace hap : Hide _ := hap
                replace hmem : Hide _ := trivial
                clear hne
                cases u with
                | true =>
                  repeat' (first | (refine ac_seq_h fun K hK => ?_) | (refine ac_region_h fun K hK => ?_; simp (disch := omega) [go_sem, *, ilt_true, ile_true]) | (apply Hide.out hK; clear hK K; try with_reducible dsimp only [thenA]) | (apply Hide.out ht; clear ht hf Kt Kf) | (with_reducible refine APure.gcall (c1) ?_; try simp (disch := omega) [go_sem, *]) | (refine ac_block ?_) | (refine ac_skip ?_; simp only [thenA]) | (refine ac_cond_h fun Kt Kf ht hf => ?_; simp (disch := omega) [go_sem, *]; try (refine ⟨fun hc => ?_, fun hc => ?_⟩ <;> try (exfalso; omega))))
                  rw [hap.out _ _ _ _ hHm]
                  have p1 : ((H.upd m none).upd (n' + 4 + 3 + 6) (acO ((W ++ [(⟨nm, rk, .mk ck cf co cn cl cu cs ks⟩ : Ordr)]).map encO))) n = some (.cells [iv .i64 g0, iv .i64 g1, iv .i64 g2, iv .i64 g3, iv .i64 g4]) := by rw [upd_ne _ _ _ _ (by omega), upd_ne _ _ _ _ (by omega), hHn]
                  have p2 := upd_same (H.upd m none) (n' + 4 + 3 + 6) (acO ((W ++ [(⟨nm, rk, .mk ck cf co cn cl cu cs ks⟩ : Ordr)]).map encO))
                  have p3 : ∀ x, x < n → ((H.upd m none).upd (n' + 4 + 3 + 6) (acO ((W ++ [(⟨nm, rk, .mk ck cf co cn cl cu cs ks⟩ : Ordr)]).map encO))) x = h x := fun x hx => by rw [upd_ne _ _ _ _ (by omega), upd_ne _ _ _ _ (by omega), hfr.out x hx]
                  generalize (H.upd m none).upd (n' + 4 + 3 + 6) (acO ((W ++ [(⟨nm, rk, .mk ck cf co cn cl cu cs ks⟩ : Ordr)]).map encO)) = H1 at *
                  replace p2 : Hide _ := p2
                  replace p3 : Hide _ := p3
                  clear hap hHn hHm hfr
                  simp (disch := omega) [go_sem]
                  repeat' (first | (refine ac_seq_h fun K hK => ?_) | (refine ac_region_h fun K hK => ?_; simp (disch := omega) [go_sem, *, wrap64_id]) | (refine ac_draw_h mixed (by kernel_rfl) fun K hK => ?_; simp (disch := omega) [go_sem, *, ile_true]) | (apply Hide.out hK; clear hK K; try with_reducible dsimp only [thenA]) | (apply Hide.out hf; clear ht hf Kt Kf) | (with_reducible refine APure.gcall (c2) ?_; try simp (disch := omega) [go_sem, *]) | (refine ac_skip ?_; simp only [thenA, blockA]) | (refine ac_cond_h fun Kt Kf ht hf => ?_; simp (disch := omega) [go_sem, *]; try (refine ⟨fun hc => ?_, fun hc => ?_⟩ <;> try (exfalso; omega))))
                  refine round_end ?_ (Sub.refl _) ⟨i + 1, _, n' + 4 + 3 + 6, _, by omega, by omega, by omega, p1, ?_, p3.out, rfl⟩ (by simp [intAt, go_sem]; omega)
                  · have := c3.out
                    simp only [if_true] at this
                    rw [this]
                    simp (disch := omega) [go_sem]
                  · have := c3.out
                    simp only [if_true] at this
                    rw [this]
                    exact p2.out
                | false =>
                  clear hap
                  repeat' (first | (refine ac_seq_h fun K hK => ?_) | (refine ac_region_h fun K hK => ?_; simp (disch := omega) [go_sem, *, wrap64_id, ilt_true]) | (refine ac_draw_h mixed (by kernel_rfl) fun K hK => ?_; simp (disch := omega) [go_sem, *, ile_true]) | (apply Hide.out hK; clear hK K; try with_reducible dsimp only [thenA]) | (apply Hide.out ht; clear ht hf Kt Kf) | (apply Hide.out hf; clear ht hf Kt Kf) | (with_reducible refine APure.gcall (c1) ?_; try simp (disch := omega) [go_sem, *]) | (with_reducible refine APure.gcall (c2) ?_; try simp (disch := omega) [go_sem, *]) | (refine ac_block ?_) | (refine ac_skip ?_; simp only [thenA, blockA]) | (refine ac_cond_h fun Kt Kf ht hf => ?_; simp (disch := omega) [go_sem, *]; try (refine ⟨fun hc => ?_, fun hc => ?_⟩ <;> try (exfalso; omega))))
                  refine round_end ?_ (Sub.refl _) ⟨i + 1, _, m, _, by omega, by omega, by omega, hHn, ?_, hfr.out, rfl⟩ (by simp [intAt, go_sem]; omega)
                  · have := c3.out
                    simp only [Bool.false_eq_true, if_false] at this
                    rw [this]
                    simp (disch := omega) [go_sem]
                  · have := c3.out
                    simp only [Bool.false_eq_true, if_false] at this
                    rw [this]
                    exact hHm
              · have hii : i = l.length := by omega
                subst hii
                rw [hall.out] at hHm ⊢
                generalize keepO (used l) 0 l = W at *
                clear htk hkt hall kf hfu hno kh hnl
                refine ac_fzac (t := 10) (m := m) (s := 7) (L := W.map encO) true (by simp) hHm (by simp [go_sem]) (fun y hy => by obtain ⟨o, _, rfl⟩ := List.mem_map.1 hy; exact cellsO_len o) (elemsO W) ?_
                have q1 : (H.upd m none) n = some (.cells [iv .i64 g0, iv .i64 g1, iv .i64 g2, iv .i64 g3, iv .i64 g4]) := by rw [upd_ne _ _ _ _ (by omega)]; exact hHn
                have q2 : ∀ x, x < n → (H.upd m none) x = h x := fun x hx => by rw [upd_ne _ _ _ _ (by omega)]; exact hfr.out x hx
                simp only
                generalize H.upd m none = H2 at *
                generalize (W.map encO).isEmpty = we at *
                clear hHn hHm hfr
                replace q2 : Hide _ := q2
                simp only [outDP, encF] at k6
                repeat' (first | (refine ac_seq_h fun K hK => ?_) | (refine ac_region_h fun K hK => ?_; simp (disch := omega) [go_sem, *]) | (refine ac_draw_h mixed (by kernel_rfl) fun K hK => ?_; simp (disch := omega) [go_sem, *]) | (apply Hide.out hK; clear hK K; try with_reducible dsimp only [thenA]) | (apply Hide.out hf; clear ht hf Kt Kf) | (clear hK K; apply Hide.out hK; clear hK K; try with_reducible dsimp only [thenA]) | (with_reducible refine APure.gcall (k0) ?_; try simp (disch := omega) [go_sem, *]) | (with_reducible refine APure.gcall (k5) ?_; try simp (disch := omega) [go_sem, *]) | (with_reducible refine APure.gcall (k6) ?_; try simp (disch := omega) [go_sem, *]) | (refine ac_exit ?_; simp only [thenA, blockA, if_true]) | (refine ac_cond_h fun Kt Kf ht hf => ?_; simp (disch := omega) [go_sem, *]; try (refine ⟨fun hc => ?_, fun hc => ?_⟩ <;> try (exfalso; omega))))
                refine ac_ret ?_
                try dsimp only [thenA, blockA]
                refine ⟨by simp, _, (by first | rfl | (simp (disch := omega) [go_sem, upd_ne] <;> rfl)), ?_⟩
                refine ret_id ⟨fun k hk => ?_, ?_, rfl, trivial, trivial⟩
                · simp (disch := omega) only [upd_ne]; exact q2.out k hk
                · simp [go_sem, below, resVal]
          · obtain ⟨ho, hmax⟩ : holds o.cond ⟨g0, g1, g2, g3, g4⟩ = true ∧ ∀ x ∈ l, holds x.cond ⟨g0, g1, g2, g3, g4⟩ = true → x.rank ≤ o.rank := by
              rcases hbest.out with ⟨e, _⟩ | ⟨g', o', e1, e2, e3, e4⟩
              · rw [ga] at e; omega
              · have : g' = g := by omega
                subst this
                rw [gl] at e2; cases e2
                exact ⟨e3, e4⟩
            have hug := hus.out g ga
            rw [ga] at k4
            rw [gb] at k5
            have q1 : max ((g : Nat) : Int) 0 = g := by omega
            have q2 : decide (((g : Nat) : Int) ≥ 0) = true := by simp
            have q3 : max ((k : Nat) : Int) 0 = k := by omega
            have q4 : decide (((k : Nat) : Int) ≥ 0) = true := by simp
            rw [q1, q2] at k4
            rw [q3, q4] at k5
            clear q1 q2 q3 q4 ga gb hbest hus
            replace ho : Hide _ := ho
            replace hmax : Hide _ := hmax
            replace hug : Hide _ := hug
            replace gl : Hide _ := gl
            replace gw : Hide _ := gw
            repeat' (first | (refine ac_seq_h fun K hK => ?_) | (refine ac_region_h fun K hK => ?_; simp (disch := omega) [go_sem, *, Tryz.ntmps7 ]) | (apply Hide.out hK; clear hK K; try with_reducible dsimp only [thenA]) | (apply Hide.out hf; clear ht hf Kt Kf) | (with_reducible refine APure.gcall (k1) ?_; try simp (disch := omega) [go_sem, *, ilt_false ]) | (with_reducible refine APure.gcall (k3) ?_; try simp (disch := omega) [go_sem, * ]) | (with_reducible refine APure.gcall (k4) ?_; try simp (disch := omega) [go_sem, * ]) | (refine ac_block ?_) | (refine ac_skip ?_; simp only [thenA]) | (refine ac_cond_h fun Kt Kf ht hf => ?_; simp (disch := omega) [go_sem, * ]; try (refine ⟨fun hc => ?_, fun hc => ?_⟩ <;> try (exfalso; omega))))
            refine ac_loop_wk (fun s' => ∃ (i n' m : Nat) (H : AHeap), n < n' ∧ i ≤ l.length ∧ n < m ∧ H n = some (.cells [iv .i64 g0, iv .i64 g1, iv .i64 g2, iv .i64 g3, iv .i64 g4]) ∧ H m = acO ((keepO (used l) 0 (l.take i)).map encO) ∧ (∀ x, x < n → H x = h x) ∧
                s' = ⟨171, [(0, .fslc nl false 7 (l.map encO)), (3, .ptr n 0), (5, .fslc r1 r2 r3 r4), (7, iv .i64 g), (8, bv true), (10, acV 7 m ((keepO (used l) 0 (l.take i)).map encO)), (11, iv .i64 i)], H, n'⟩)
              (fun s' => l.length - (intAt s' 11).toNat) ?_ ?_
            · refine loop_start ?_ (Sub.refl _) ⟨0, _, n + 1, _, by omega, by omega, by omega, by simp (disch := omega) only [upd_same], ?_, fun x hx => by simp (disch := omega) only [upd_ne], rfl⟩
              · rw [show (keepO (used l) 0 (l.take 0)).map encO = [] from rfl, ac_nil]; simp [go_sem]
              · rw [upd_ne _ _ _ _ (by omega)]
                cases hx : h (n + 1) with
                | none => rfl
                | some o => have := (hb _ _ hx).1; omega
            · rintro s' ⟨i, n', m, H, hn', hi, hnm, hHn, hHm, hfr, rfl⟩
              replace hfr : Hide _ := hfr
              by_cases hlt : i < l.length
              · obtain ⟨⟨nm, rk, ck, cf, co, cn, cl, cu, cs, ks⟩, hx⟩ : ∃ o, l[i] = o := ⟨_, rfl⟩
                have hmem : (⟨nm, rk, .mk ck cf co cn cl cu cs ks⟩ : Ordr) ∈ l := hx ▸ List.getElem_mem hlt
                have hne : l ≠ [] := fun e => by rw [e] at hlt; simp at hlt
                obtain ⟨rfl, _⟩ := hnl.out.resolve_left hne
                have hex : encO l[i] = .agg [sv nm, iv .i64 rk, iv .i64 ck, iv .i64 cf, iv .i64 co, iv .i64 cn, .fslc cl cu cs (encL ks)] := by rw [hx]; rfl
                have c1 := kf.out i
                rw [hfu.out i hlt] at c1
                have c2 := kh.out _ hmem
                have c3 := htk.out i hlt
                rw [hx] at c3
                have c4 := hkt.out i
                have hmx := hmax.out _ hmem
                have hig : i = g → (⟨nm, rk, .mk ck cf co cn cl cu cs ks⟩ : Ordr) = o ∧ used l i = true := fun e => by
                  subst e
                  have := gl.out
                  rw [List.getElem?_eq_getElem hlt, hx] at this
                  cases this
                  exact ⟨rfl, hug.out⟩
                obtain ⟨hgl, hgx⟩ := List.getElem?_eq_some_iff.1 gl.out
                have hap := fun (q : Nat) (H0 : AHeap) (b c : Bool) (he : H0 m = acO ((keepO (used l) 0 (l.take i)).map encO)) => ap_ord (nm := q) (m := m) (l := keepO (used l) 0 (l.take i)) (x := ⟨nm, rk, .mk ck cf co cn cl cu cs ks⟩) (h := H0) (b := b) (c := c) he (by omega)
                simp only [encO] at hap
                simp only [encC] at c2
                generalize hh : holds (.mk ck cf co cn cl cu cs ks) ⟨g0, g1, g2, g3, g4⟩ = hv at c2 hmx
                generalize used l i = u at c1 c3 hig
                generalize keepO (used l) 0 (l.take i) = W at *
                replace hx : Hide _ := hx
                replace c3 : Hide _ := c3
                replace hap : Hide _ := hap
                replace hh : Hide _ := hh
                replace hmem : Hide _ := trivial
                by_cases hg : i = g
                · obtain ⟨e1, e2⟩ := hig hg
                  subst e1
                  subst e2
                  subst hg
                  have e3 : hv = true := by rw [← hh.out]; exact ho.out
                  subst e3
                  clear hig hmx hne hgx hgl
                  repeat' (first | (refine ac_seq_h fun K hK => ?_) | (refine ac_region_h fun K hK => ?_; simp (disch := omega) [go_sem, *, ilt_true, ile_true]) | (apply Hide.out hK; clear hK K; try with_reducible dsimp only [thenA]) | (apply Hide.out ht; clear ht hf Kt Kf) | (with_reducible refine APure.gcall (c1) ?_; try simp (disch := omega) [go_sem, *]) | (refine ac_block ?_) | (refine ac_skip ?_; simp only [thenA]) | (refine ac_cond_h fun Kt Kf ht hf => ?_; simp (disch := omega) [go_sem, *]; try (refine ⟨fun hc => ?_, fun hc => ?_⟩ <;> try (exfalso; omega))))
                  rw [hap.out _ _ _ _ hHm]
                  have p1 : ((H.upd m none).upd (n' + 4 + 3 + 6) (acO ((W ++ [(⟨nm, rk, .mk ck cf co cn cl cu cs ks⟩ : Ordr)]).map encO))) n = some (.cells [iv .i64 g0, iv .i64 g1, iv .i64 g2, iv .i64 g3, iv .i64 g4]) := by rw [upd_ne _ _ _ _ (by omega), upd_ne _ _ _ _ (by omega), hHn]
                  have p2 := upd_same (H.upd m none) (n' + 4 + 3 + 6) (acO ((W ++ [(⟨nm, rk, .mk ck cf co cn cl cu cs ks⟩ : Ordr)]).map encO))
                  have p3 : ∀ x, x < n → ((H.upd m none).upd (n' + 4 + 3 + 6) (acO ((W ++ [(⟨nm, rk, .mk ck cf co cn cl cu cs ks⟩ : Ordr)]).map encO))) x = h x := fun x hx => by rw [upd_ne _ _ _ _ (by omega), upd_ne _ _ _ _ (by omega), hfr.out x hx]
                  generalize (H.upd m none).upd (n' + 4 + 3 + 6) (acO ((W ++ [(⟨nm, rk, .mk ck cf co cn cl cu cs ks⟩ : Ordr)]).map encO)) = H1 at *
                  replace p2 : Hide _ := p2
                  replace p3 : Hide _ := p3
                  clear hap hHn hHm hfr
                  simp (disch := omega) [go_sem]
                  repeat' (first | (refine ac_seq_h fun K hK => ?_) | (refine ac_region_h fun K hK => ?_; simp (disch := omega) [go_sem, *, wrap64_id]) | (refine ac_draw_h mixed (by kernel_rfl) fun K hK => ?_; simp (disch := omega) [go_sem, *, ile_true]) | (apply Hide.out hK; clear hK K; try with_reducible dsimp only [thenA]) | (apply Hide.out hf; clear ht hf Kt Kf) | (with_reducible refine APure.gcall (c1) ?_; try simp (disch := omega) [go_sem, *]) | (with_reducible refine APure.gcall (c2) ?_; try simp (disch := omega) [go_sem, *]) | (refine ac_skip ?_; simp only [thenA, blockA]) | (refine ac_cond_h fun Kt Kf ht hf => ?_; simp (disch := omega) [go_sem, *]; try (refine ⟨fun hc => ?_, fun hc => ?_⟩ <;> try (exfalso; omega))))
                  refine round_end ?_ (Sub.refl _) ⟨i + 1, _, n' + 4 + 3 + 6, _, by omega, by omega, by omega, p1, ?_, p3.out, rfl⟩ (by simp [intAt, go_sem]; omega)
                  · have := c3.out
                    simp only [if_true] at this
                    rw [this]
                    simp (disch := omega) [go_sem]
                  · have := c3.out
                    simp only [if_true] at this
                    rw [this]
                    exact p2.out
                · obtain ⟨onm, ork, ok1, ok2, ok3, ok4, ol, ou, os, oks⟩ := o
                  have hexg : encO l[g] = .agg [sv onm, iv .i64 ork, iv .i64 ok1, iv .i64 ok2, iv .i64 ok3, iv .i64 ok4, .fslc ol ou os (encL oks)] := by rw [hgx]; rfl
                  have higb : ((i : Int) == (g : Int)) = false := by rw [beq_eq_false_iff_ne]; omega
                  clear hig hne
                  replace hgx : Hide _ := hgx
                  replace gl : Hide _ := trivial
                  cases u with
                  | true =>
                    cases hv with
                    | true =>
                      have hrk : rk ≤ ork := hmx rfl
                      clear hmx
                      repeat' (first | (refine ac_seq_h fun K hK => ?_) | (refine ac_region_h fun K hK => ?_; simp (disch := omega) [go_sem, *, ilt_true, ile_true]) | (apply Hide.out hK; clear hK K; try with_reducible dsimp only [thenA]) | (apply Hide.out ht; clear ht hf Kt Kf) | (with_reducible refine APure.gcall (c1) ?_; try simp (disch := omega) [go_sem, *]) | (refine ac_block ?_) | (refine ac_skip ?_; simp only [thenA]) | (refine ac_cond_h fun Kt Kf ht hf => ?_; simp (disch := omega) [go_sem, *]; try (refine ⟨fun hc => ?_, fun hc => ?_⟩ <;> try (exfalso; omega))))
                      rw [hap.out _ _ _ _ hHm]
                      have p1 : ((H.upd m none).upd (n' + 4 + 3 + 6) (acO ((W ++ [(⟨nm, rk, .mk ck cf co cn cl cu cs ks⟩ : Ordr)]).map encO))) n = some (.cells [iv .i64 g0, iv .i64 g1, iv .i64 g2, iv .i64 g3, iv .i64 g4]) := by rw [upd_ne _ _ _ _ (by omega), upd_ne _ _ _ _ (by omega), hHn]
                      have p2 := upd_same (H.upd m none) (n' + 4 + 3 + 6) (acO ((W ++ [(⟨nm, rk, .mk ck cf co cn cl cu cs ks⟩ : Ordr)]).map encO))
                      have p3 : ∀ x, x < n → ((H.upd m none).upd (n' + 4 + 3 + 6) (acO ((W ++ [(⟨nm, rk, .mk ck cf co cn cl cu cs ks⟩ : Ordr)]).map encO))) x = h x := fun x hx => by rw [upd_ne _ _ _ _ (by omega), upd_ne _ _ _ _ (by omega), hfr.out x hx]
                      generalize (H.upd m none).upd (n' + 4 + 3 + 6) (acO ((W ++ [(⟨nm, rk, .mk ck cf co cn cl cu cs ks⟩ : Ordr)]).map encO)) = H1 at *
                      replace p2 : Hide _ := p2
                      replace p3 : Hide _ := p3
                      clear hap hHn hHm hfr
                      simp (disch := omega) [go_sem]
                      repeat' (first | (refine ac_seq_h fun K hK => ?_) | (refine ac_region_h fun K hK => ?_; simp (disch := omega) [go_sem, *, wrap64_id]) | (refine ac_draw_h mixed (by kernel_rfl) fun K hK => ?_; simp (disch := omega) [go_sem, *, ilt_false, ile_true]) | (apply Hide.out hK; clear hK K; try with_reducible dsimp only [thenA]) | (apply Hide.out hf; clear ht hf Kt Kf) | (with_reducible refine APure.gcall (c2) ?_; try simp (disch := omega) [go_sem, *]) | (refine ac_skip ?_; simp only [thenA, blockA]) | (refine ac_cond_h fun Kt Kf ht hf => ?_; simp (disch := omega) [go_sem, *]; try (refine ⟨fun hc => ?_, fun hc => ?_⟩ <;> try (exfalso; omega))))
                      refine round_end ?_ (Sub.refl _) ⟨i + 1, _, n' + 4 + 3 + 6, _, by omega, by omega, by omega, p1, ?_, p3.out, rfl⟩ (by simp [intAt, go_sem]; omega)
                      · have := c3.out
                        simp only [if_true] at this
                        rw [this]
                        simp (disch := omega) [go_sem]
                      · have := c3.out
                        simp only [if_true] at this
                        rw [this]
                        exact p2.out
                    | false =>
                      clear hmx
                      repeat' (first | (refine ac_seq_h fun K hK => ?_) | (refine ac_region_h fun K hK => ?_; simp (disch := omega) [go_sem, *, ilt_true, ile_true]) | (apply Hide.out hK; clear hK K; try with_reducible dsimp only [thenA]) | (apply Hide.out ht; clear ht hf Kt Kf) | (with_reducible refine APure.gcall (c1) ?_; try simp (disch := omega) [go_sem, *]) | (refine ac_block ?_) | (refine ac_skip ?_; simp only [thenA]) | (refine ac_cond_h fun Kt Kf ht hf => ?_; simp (disch := omega) [go_sem, *]; try (refine ⟨fun hc => ?_, fun hc => ?_⟩ <;> try (exfalso; omega))))
                      rw [hap.out _ _ _ _ hHm]
                      have p1 : ((H.upd m none).upd (n' + 4 + 3 + 6) (acO ((W ++ [(⟨nm, rk, .mk ck cf co cn cl cu cs ks⟩ : Ordr)]).map encO))) n = some (.cells [iv .i64 g0, iv .i64 g1, iv .i64 g2, iv .i64 g3, iv .i64 g4]) := by rw [upd_ne _ _ _ _ (by omega), upd_ne _ _ _ _ (by omega), hHn]
                      have p2 := upd_same (H.upd m none) (n' + 4 + 3 + 6) (acO ((W ++ [(⟨nm, rk, .mk ck cf co cn cl cu cs ks⟩ : Ordr)]).map encO))
                      have p3 : ∀ x, x < n → ((H.upd m none).upd (n' + 4 + 3 + 6) (acO ((W ++ [(⟨nm, rk, .mk ck cf co cn cl cu cs ks⟩ : Ordr)]).map encO))) x = h x := fun x hx => by rw [upd_ne _ _ _ _ (by omega), upd_ne _ _ _ _ (by omega), hfr.out x hx]
                      generalize (H.upd m none).upd (n' + 4 + 3 + 6) (acO ((W ++ [(⟨nm, rk, .mk ck cf co cn cl cu cs ks⟩ : Ordr)]).map encO)) = H1 at *
                      replace p2 : Hide _ := p2
                      replace p3 : Hide _ := p3
                      clear hap hHn hHm hfr
                      simp (disch := omega) [go_sem]
                      repeat' (first | (refine ac_seq_h fun K hK => ?_) | (refine ac_region_h fun K hK => ?_; simp (disch := omega) [go_sem, *, wrap64_id]) | (refine ac_draw_h mixed (by kernel_rfl) fun K hK => ?_; simp (disch := omega) [go_sem, *, ile_true]) | (apply Hide.out hK; clear hK K; try with_reducible dsimp only [thenA]) | (apply Hide.out hf; clear ht hf Kt Kf) | (with_reducible refine APure.gcall (c2) ?_; try simp (disch := omega) [go_sem, *]) | (refine ac_skip ?_; simp only [thenA, blockA]) | (refine ac_cond_h fun Kt Kf ht hf => ?_; simp (disch := omega) [go_sem, *]; try (refine ⟨fun hc => ?_, fun hc => ?_⟩ <;> try (exfalso; omega))))
                      refine round_end ?_ (Sub.refl _) ⟨i + 1, _, n' + 4 + 3 + 6, _, by omega, by omega, by omega, p1, ?_, p3.out, rfl⟩ (by simp [intAt, go_sem]; omega)
                      · have := c3.out
                        simp only [if_true] at this
                        rw [this]
                        simp (disch := omega) [go_sem]
                      · have := c3.out
                        simp only [if_true] at this
                        rw [this]
                        exact p2.out
                  | false =>
                    clear hap
                    cases hv with
                    | true =>
                      have hrk : rk ≤ ork := hmx rfl
                      clear hmx
                      repeat' (first | (refine ac_seq_h fun K hK => ?_) | (refine ac_region_h fun K hK => ?_; simp (disch := omega) [go_sem, *, wrap64_id, ilt_true]) | (refine ac_draw_h mixed (by kernel_rfl) fun K hK => ?_; simp (disch := omega) [go_sem, *, ilt_false, ile_true]) | (apply Hide.out hK; clear hK K; try with_reducible dsimp only [thenA]) | (apply Hide.out ht; clear ht hf Kt Kf) | (apply Hide.out hf; clear ht hf Kt Kf) | (with_reducible refine APure.gcall (c1) ?_; try simp (disch := omega) [go_sem, *]) | (with_reducible refine APure.gcall (c2) ?_; try simp (disch := omega) [go_sem, *]) | (refine ac_block ?_) | (refine ac_skip ?_; simp only [thenA, blockA]) | (refine ac_cond_h fun Kt Kf ht hf => ?_; simp (disch := omega) [go_sem, *]; try (refine ⟨fun hc => ?_, fun hc => ?_⟩ <;> try (exfalso; omega))))
                      refine round_end ?_ (Sub.refl _) ⟨i + 1, _, m, _, by omega, by omega, by omega, hHn, ?_, hfr.out, rfl⟩ (by simp [intAt, go_sem]; omega)
                      · have := c3.out
                        simp only [Bool.false_eq_true, if_false] at this
                        rw [this]
                        simp (disch := omega) [go_sem]
                      · have := c3.out
                        simp only [Bool.false_eq_true, if_false] at this
                        rw [this]
                        exact hHm
                    | false =>
                      clear hmx
                      repeat' (first | (refine ac_seq_h fun K hK => ?_) | (refine ac_region_h fun K hK => ?_; simp (disch := omega) [go_sem, *, wrap64_id, ilt_true]) | (refine ac_draw_h mixed (by kernel_rfl) fun K hK => ?_; simp (disch := omega) [go_sem, *, ile_true]) | (apply Hide.out hK; clear hK K; try with_reducible dsimp only [thenA]) | (apply Hide.out ht; clear ht hf Kt Kf) | (apply Hide.out hf; clear ht hf Kt Kf) | (with_reducible refine APure.gcall (c1) ?_; try simp (disch := omega) [go_sem, *]) | (with_reducible refine APure.gcall (c2) ?_; try simp (disch := omega) [go_sem, *]) | (refine ac_block ?_) | (refine ac_skip ?_; simp only [thenA, blockA]) | (refine ac_cond_h fun Kt Kf ht hf => ?_; simp (disch := omega) [go_sem, *]; try (refine ⟨fun hc => ?_, fun hc => ?_⟩ <;> try (exfalso; omega))))
                      refine round_end ?_ (Sub.refl _) ⟨i + 1, _, m, _, by omega, by omega, by omega, hHn, ?_, hfr.out, rfl⟩ (by simp [intAt, go_sem]; omega)
                      · have := c3.out
                        simp only [Bool.false_eq_true, if_false] at this
                        rw [this]
                        simp (disch := omega) [go_sem]
                      · have := c3.out
                        simp only [Bool.false_eq_true, if_false] at this
                        rw [this]
                        exact hHm
              · have hii : i = l.length := by omega
                subst hii
                rw [hall.out] at hHm ⊢
                obtain ⟨hgl, hgx⟩ := List.getElem?_eq_some_iff.1 gl.out
                obtain ⟨hkl2, hkx⟩ := List.getElem?_eq_some_iff.1 gw.out
                have hne : l ≠ [] := fun e => by rw [e] at hgl; simp at hgl
                obtain ⟨rfl, _⟩ := hnl.out.resolve_left hne
                obtain ⟨onm, ork, ok1, ok2, ok3, ok4, ol, ou, os, oks⟩ := o
                have hexg : encO l[g] = .agg [sv onm, iv .i64 ork, iv .i64 ok1, iv .i64 ok2, iv .i64 ok3, iv .i64 ok4, .fslc ol ou os (encL oks)] := by rw [hgx]; rfl
                generalize keepO (used l) 0 l = W at *
                have hexk : encO W[k] = .agg [sv onm, iv .i64 ork, iv .i64 ok1, iv .i64 ok2, iv .i64 ok3, iv .i64 ok4, .fslc ol ou os (encL oks)] := by rw [hkx]; rfl
                have hWe : (W.map encO).isEmpty = false := by cases W <;> simp at hkl2 ⊢
                rw [hWe] at k5 k6
                clear hne htk hkt hall kf hfu hmax ho hug kh
                replace gl : Hide _ := trivial
                replace gw : Hide _ := trivial
                replace hgx : Hide _ := trivial
                replace hkx : Hide _ := trivial
                refine ac_fzac (t := 10) (m := m) (s := 7) (L := W.map encO) true (by simp) hHm (by simp [go_sem]) (fun y hy => by obtain ⟨o, _, rfl⟩ := List.mem_map.1 hy; exact cellsO_len o) (elemsO W) ?_
                rw [hWe]
                have q1 : (H.upd m none) n = some (.cells [iv .i64 g0, iv .i64 g1, iv .i64 g2, iv .i64 g3, iv .i64 g4]) := by rw [upd_ne _ _ _ _ (by omega)]; exact hHn
                have q2 : ∀ x, x < n → (H.upd m none) x = h x := fun x hx => by rw [upd_ne _ _ _ _ (by omega)]; exact hfr.out x hx
                simp only
                generalize H.upd m none = H2 at *
                clear hHn hHm hfr
                replace q2 : Hide _ := q2
                simp only [outDP, encF] at k6
                repeat' (first | (refine ac_seq_h fun K hK => ?_) | (refine ac_region_h fun K hK => ?_; simp (disch := omega) [go_sem, *]) | (refine ac_draw_h mixed (by kernel_rfl) fun K hK => ?_; simp (disch := omega) [go_sem, *]) | (apply Hide.out hK; clear hK K; try with_reducible dsimp only [thenA]) | (apply Hide.out hf; clear ht hf Kt Kf) | (clear hK K; apply Hide.out hK; clear hK K; try with_reducible dsimp only [thenA]) | (with_reducible refine APure.gcall (k0) ?_; try simp (disch := omega) [go_sem, *, ile_true]) | (with_reducible refine APure.gcall (k5) ?_; try simp (disch := omega) [go_sem, *]) | (with_reducible refine APure.gcall (k6) ?_; try simp (disch := omega) [go_sem, *]) | (refine ac_exit ?_; simp only [thenA, blockA, if_true]) | (refine ac_cond_h fun Kt Kf ht hf => ?_; simp (disch := omega) [go_sem, *]; try (refine ⟨fun hc => ?_, fun hc => ?_⟩ <;> try (exfalso; omega))))
                refine ac_ret ?_
                try dsimp only [thenA, blockA]
                refine ⟨by simp, _, (by first | rfl | (simp (disch := omega) [go_sem, upd_ne] <;> rfl)), ?_⟩
                refine ret_id ⟨fun k hk => ?_, ?_, rfl, trivial, trivial⟩
                · simp (disch := omega) only [upd_ne]; exact q2.out k hk
                · simp [go_sem, below, resVal]
        · have hne : ((decO l fs).2.2 != 0) = true := by simpa using he2
          rw [he1] at k3
          clear kf h1 hnl hw hl he1 he2
          generalize (decO l fs).1 = d1 at *
          generalize (decO l fs).2.1 = d2 at *
          generalize (decO l fs).2.2 = d3 at *
          simp only [encF] at k4 ⊢
          obtain ⟨g0, g1, g2, g3, g4⟩ := fs
          have h6b : (List.map encO l).length ≤ 6 := by simpa using h6
          generalize List.map encO l = A at *
          repeat' (first | (refine ac_seq_h fun K hK => ?_) | (refine ac_region_h fun K hK => ?_; simp (disch := omega) [go_sem, *, Tryz.ntmps7 ]) | (apply Hide.out hK; clear hK K; try with_reducible dsimp only [thenA]) | (apply Hide.out ht; clear ht hf Kt Kf) | (apply Hide.out hf; clear ht hf Kt Kf) | (with_reducible refine APure.gcall (k0) ?_; try simp (disch := omega) [go_sem, * ]) | (with_reducible refine APure.gcall (k1) ?_; try simp (disch := omega) [go_sem, *, ilt_false ]) | (with_reducible refine APure.gcall (k3) ?_; try simp (disch := omega) [go_sem, * ]) | (with_reducible refine APure.gcall (k4) ?_; try simp (disch := omega) [go_sem, * ]) | (refine ac_skip ?_; simp only [thenA]) | (refine ac_cond_h fun Kt Kf ht hf => ?_; simp (disch := omega) [go_sem, * ]; try (refine ⟨fun hc => ?_, fun hc => ?_⟩ <;> try (exfalso; omega))))
          (refine ac_ret ?_; try dsimp only [thenA, blockA]; refine ⟨by simp, _, (by first | rfl | (simp (disch := omega) [go_sem, upd_ne] <;> rfl)), ?_⟩; refine ret_id ⟨fun k hk => (by first | rfl | (repeat rw [upd_ne _ _ _ _ (by omega)])), (by simp [go_sem, below]), (by simp [go_sem] <;> omega), by simp, by simp⟩)
      · have hne : ((unO l).2 != 0) = true := by simpa using he1
        clear kf h1 hnl hw hl he1
        generalize (decO l fs).1 = d1 at *
        generalize (decO l fs).2.1 = d2 at *
        generalize (decO l fs).2.2 = d3 at *
        generalize (unO l).2 = d4 at *
        simp only [encF] at k4 ⊢
        obtain ⟨g0, g1, g2, g3, g4⟩ := fs
        have h6b : (List.map encO l).length ≤ 6 := by simpa using h6
        generalize List.map encO l = A at *
        repeat' (first | (refine ac_seq_h fun K hK => ?_) | (refine ac_region_h fun K hK => ?_; simp (disch := omega) [go_sem, *, Tryz.ntmps7 ]) | (apply Hide.out hK; clear hK K; try with_reducible dsimp only [thenA]) | (apply Hide.out ht; clear ht hf Kt Kf) | (apply Hide.out hf; clear ht hf Kt Kf) | (with_reducible refine APure.gcall (k0) ?_; try simp (disch := omega) [go_sem, * ]) | (with_reducible refine APure.gcall (k1) ?_; try simp (disch := omega) [go_sem, *, ilt_false ]) | (with_reducible refine APure.gcall (k3) ?_; try simp (disch := omega) [go_sem, * ]) | (with_reducible refine APure.gcall (k4) ?_; try simp (disch := omega) [go_sem, * ]) | (refine ac_skip ?_; simp only [thenA]) | (refine ac_cond_h fun Kt Kf ht hf => ?_; simp (disch := omega) [go_sem, * ]; try (refine ⟨fun hc => ?_, fun hc => ?_⟩ <;> try (exfalso; omega))))
        (refine ac_ret ?_; try dsimp only [thenA, blockA]; refine ⟨by simp, _, (by first | rfl | (simp (disch := omega) [go_sem, upd_ne] <;> rfl)), ?_⟩; refine ret_id ⟨fun k hk => (by first | rfl | (repeat rw [upd_ne _ _ _ _ (by omega)])), (by simp [go_sem, below]), (by simp [go_sem] <;> omega), by simp, by simp⟩)
    · clear h1 hnl hw
      simp only [encF] at k1 ⊢
      obtain ⟨g0, g1, g2, g3, g4⟩ := fs
      have h6b : ¬ (List.map encO l).length ≤ 6 := by simpa using h6
      have h6c : (List.map encO l).length ≤ 9223372036854775807 := by simpa using hl
      generalize List.map encO l = A at *
      repeat' (first | (refine ac_seq_h fun K hK => ?_) | (refine ac_region_h fun K hK => ?_; simp (disch := omega) [go_sem, *, Tryz.ntmps7 ]) | (apply Hide.out hK; clear hK K; try with_reducible dsimp only [thenA]) | (apply Hide.out ht; clear ht hf Kt Kf) | (with_reducible refine APure.gcall (k0) ?_; try simp (disch := omega) [go_sem, * ]) | (with_reducible refine APure.gcall (k1) ?_; try simp (disch := omega) [go_sem, *, ilt_true ]) | (refine ac_cond_h fun Kt Kf ht hf => ?_; simp (disch := omega) [go_sem, * ]; try (refine ⟨fun hc => ?_, fun hc => ?_⟩ <;> try (exfalso; omega))))
      (refine ac_ret ?_; try dsimp only [thenA, blockA]; refine ⟨by simp, _, (by first | rfl | (simp (disch := omega) [go_sem, upd_ne] <;> rfl)), ?_⟩; refine ret_id ⟨fun k hk => (by first | rfl | (repeat rw [upd_ne _ _ _ _ (by omega)])), (by simp [go_sem, below]), (by simp [go_sem] <;> omega), by simp, by simp⟩)
  · rw [show fewO l = false by simpa using h1] at k1
    clear h1 hnl hw hl
    simp only [encF] at k1 ⊢
    obtain ⟨g0, g1, g2, g3, g4⟩ := fs
    generalize List.map encO l = A at *
    repeat' (first | (refine ac_seq_h fun K hK => ?_) | (refine ac_region_h fun K hK => ?_; simp (disch := omega) [go_sem, *, Tryz.ntmps7 ]) | (apply Hide.out hK; clear hK K; try with_reducible dsimp only [thenA]) | (apply Hide.out ht; clear ht hf Kt Kf) | (with_reducible refine APure.gcall (k0) ?_; try simp (disch := omega) [go_sem, * ]) | (with_reducible refine APure.gcall (k1) ?_; try simp (disch := omega) [go_sem, * ]) | (refine ac_cond_h fun Kt Kf ht hf => ?_; simp (disch := omega) [go_sem, * ]; try (refine ⟨fun hc => ?_, fun hc => ?_⟩ <;> try (exfalso; omega))))
    (refine ac_ret ?_; try dsimp only [thenA, blockA]; refine ⟨by simp, _, (by first | rfl | (simp (disch := omega) [go_sem, upd_ne] <;> rfl)), ?_⟩; refine ret_id ⟨fun k hk => (by first | rfl | (repeat rw [upd_ne _ _ _ _ (by omega)])), (by simp [go_sem, below]), (by simp [go_sem] <;> omega), by simp, by simp⟩)
end Go.AM

namespace Go.Proofs.YtbpbgiedemkciaaGreatDoor
open Go.ChangeShapes Go.WideShapes Go.ChangeAt Go.RowKit Go.AM
theorem own : ownKnob Tryz.prog.godebug = none := by kernel_rfl
/-- a listed table's cells -/
def rowOf : DataW Unit → Array Value
  | .agg l => (l.map fun d => match d with | .lit (.int k z) => Value.int k z | _ => .nilFunc).toArray
  | _ => #[]
theorem table {W : World} (h : laidMet Tryz.prog Rows.watchOrdersRow.laid W) : Lib.TabIs Tryz.prog W "strings.asciiSpace" .u8 Lib.asciiSpaceTab := by
  have h6 : laidMet Tryz.prog [("strings.asciiSpace", Rows.laid_strings_asciiSpace)] W := h.tail.tail.tail.tail.tail.tail
  have e : (Rows.laid_strings_asciiSpace : DataW Unit) = Lib.tabData .u8 Lib.asciiSpaceTab := by kernel_rfl
  rw [e] at h6
  exact Lib.tabIs_of_head (rest := []) gSpace gSpaceType und288 Tryz.underlying5 cells5 cells288 h6
/-- a world in which all seven variables read as listed: the settled one, with four blocks more -/
noncomputable def laidWorld (os : Os) : World :=
  let N := (World.settled Tryz.prog os).heap.size
  let w0 := World.holding Tryz.prog os ⟨#[.cells #[.string ⟨#[105, 110, 118, 97, 108, 105, 100, 32, 115, 121, 110, 116, 97, 120]⟩] 315, .cells #[.string ⟨#[118, 97, 108, 117, 101, 32, 111, 117, 116, 32, 111, 102, 32, 114, 97, 110, 103, 101]⟩] 315,
    .cells (Lib.whiteT.map fun (z : Nat) => Value.int .u16 (z : Int)).toArray 324, .cells #[.slice (some ⟨N + 2, 0, none⟩) 7 7, .slice none 0 0, .int .i64 2] 321], #[], []⟩
  let put (h : Array Obj) (g : Nat) (cs : Array Value) : Array Obj := h.modify g fun
    | .cells _ t frozen => .cells cs t frozen
    | o => o
  let h0 := put w0.heap 0 (rowOf Rows.laid_internal_strconv_uint64pow10)
  let h1 := put h0 1 (rowOf Rows.laid_strings_asciiSpace)
  let h2 := put h1 2 #[.iface 313 (.pointer (some ⟨N, 0, none⟩))]
  let h3 := put h2 3 #[.iface 313 (.pointer (some ⟨N + 1, 0, none⟩))]
  let h5 := put h3 5 #[.pointer (some ⟨N + 3, 0, none⟩)]
  let h6 := put h5 6 (rowOf Rows.laid_math_bits_deBruijn32tab)
  let h7 := put h6 7 (rowOf Rows.laid_math_bits_deBruijn64tab)
  { w0 with heap := h7 }
def zArgs : Array Value := #[.slice none 0 0, .agg #[.int .i64 0, .int .i64 0, .int .i64 0, .int .i64 0, .int .i64 0]]
theorem laid_met (os : Os) : laidMet Tryz.prog Rows.watchOrdersRow.laid ((laidWorld os).forCall (fun _ _ => 0) ⟨#[], zArgs, []⟩).memory :=
  laidMet_of_run' 12 (by kernel_rfl) (by kernel_rfl)
theorem reads (os : Os) {H : Type} (enc : TypeId × Value → H) : ∃ places, DataW.whole enc Tryz.prog ((laidWorld os).forCall (fun _ _ => 0) ⟨#[], zArgs, []⟩).memory Tryz.f7.params.toList Rows.watchOrdersSpec.vars false zArgs.toList 8 =
    some ([.nil, .agg [.lit (.int .i64 0), .lit (.int .i64 0), .lit (.int .i64 0), .lit (.int .i64 0), .lit (.int .i64 0)]], [], places) :=
  ⟨[], by kernel_rfl⟩
set_option maxRecDepth 100000 in
theorem contract (H : Type) (enc : TypeId × Value → H) (W : World) (base : Nat) (args : Array Value) (ds gs : List (DataW H)) (before : List MemPlace)
    (hval : ∀ (j : Nat) t v, Tryz.f7.params[j]? = some t → args[j]? = some v → Value.okWide Tryz.prog W .any base t v)
    (hW : DataW.Whole enc Tryz.prog Tryz.f7.params.toList Rows.watchOrdersSpec.vars false W args.toList ds gs before) (hL : laidMet Tryz.prog Rows.watchOrdersRow.laid W) :
    Calls Tryz.prog 7 args W fun e W' => ∃ v, e = .returned v ∧ Rows.watchOrdersSpec.post enc Tryz.prog Tryz.f7 false true false false W args v W' := by
  have hW' := hW
  obtain ⟨p, q, hA0, hV, rfl, _, _⟩ := hW
  have hA : DataW.TrodAll enc Tryz.prog W 0 (fun _ => true) true Tryz.f7.params.toList args.toList ds p := hA0
  have hA2 := hA
  rw [Tryz.params7] at hA hval
  obtain ⟨v0, vs0, d0, ds0, p0, q0, e0, rfl, rfl, h0, hA⟩ := trodAll_cons hA
  obtain ⟨v1, vs1, d1, ds1, p1, q1, rfl, rfl, rfl, h1, hA⟩ := trodAll_cons hA
  obtain ⟨rfl, rfl, rfl⟩ := trodAll_nil hA
  obtain ⟨rfl, rfl⟩ := trodVars_none hV
  obtain ⟨la⟩ := args
  have e0 : la = [v0, v1] := e0
  subst e0
  obtain ⟨nl0, x0, a0, w0, b0, g0⟩ := rd_orders (hval 0 42 v0 rfl rfl) h0
  obtain ⟨x1, g1⟩ := rd_facts (hval 1 25 v1 rfl rfl) h1
  refine (run_true (WatchOrders_spec nl0 x0 a0 w0 b0 x1) W (vars_of_table (table hL)) #[v0, v1] ⟨_, _, rfl, g0, _, _, rfl, g1, rfl⟩).mono fun e W' ⟨he, hb⟩ => ?_
  refine ⟨_, he, [d0, d1], [], _, [], _, [], hW', trodAll_mk1 (shut_bool Tryz.underlying4 true), trodAll_below hb ?_ (fun x hx => hW'.lt x (List.mem_append.2 (.inl hx))) hA2, rfl, hb.frame _, fun h => by cases h⟩
  rw [Tryz.params7]
  intro t ht
  simp at ht
  rcases ht with rfl | rfl <;> exact ⟨by kernel_rfl, of_decide_eq_true (by kernel_rfl)⟩
set_option maxRecDepth 100000 in
theorem lifted (os : Os) (started : os.Started) (H : Type) (enc : TypeId × Value → H) (F : Stop.Interp) :
    ReturnsInHanded {} Tryz.checked os 7 .any ((OpenSpec.ofChange Rows.watchOrdersSpec).preRow enc Tryz.prog Tryz.f7 Rows.watchOrdersRow.domain false Rows.watchOrdersRow.laid) (((OpenSpec.ofChange Rows.watchOrdersSpec).at F).post enc Tryz.prog Tryz.f7 false true false false) := by
  obtain ⟨places, hx⟩ := reads os enc
  refine returnsInHanded_of_row (C := Tryz.checked) (s := OpenSpec.ofChange Rows.watchOrdersSpec) own started (by kernel_rfl) Tryz.func7
    (witness_row_atRef (enc := enc) (C := Tryz.checked) false (laidWorld os) zArgs rfl (by kernel_rfl) (by kernel_rfl) (by kernel_rfl)
      (OpenSpec.preRow_of_cond 8 hx (by kernel_rfl) (fun k hk => by cases hk) (by kernel_rfl) (laid_met os))) ?_
  intro W base args ds gs before hval hW _ _ _ hL _ _
  exact contract H enc W base args ds gs before hval hW hL
end Go.Proofs.YtbpbgiedemkciaaGreatDoor
