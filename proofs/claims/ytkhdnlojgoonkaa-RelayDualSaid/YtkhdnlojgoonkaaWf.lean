/- Bounds that are accepted lie below all ways; RelayProves over the abstract machine. Conditions: as each theorem says. -/
import Derived.Test.YtkhdnlojgoonkaaWe
namespace Nets
theorem cbE_zero {N : Net} {s t : Int} {b : List Int} (h : cbE N s t b = 0) : (b.length : Int) = N.st ∧ Vals b ∧ 0 ≤ at' b s ∧ at' b s ≤ t ∧ ∀ x ∈ N.links, cbStep b x = true := by
  unfold cbE at h
  split at h
  · cases h
  · rename_i h1
    split at h
    · cases h
    · rename_i h2
      split at h
      · cases h
      · rename_i h3
        split at h
        · rename_i h4
          simp only [Bool.not_eq_false, within, Bool.and_eq_true, decide_eq_true_eq] at h3
          exact ⟨by simpa using h1, Go.AM.vals_of_any (Bool.eq_false_iff.2 h2), h3.1, h3.2, List.all_eq_true.1 h4⟩
        · cases h
theorem cw_bound {N : Net} {b : List Int} (hok : ∀ l ∈ N.links, LOk N.st l) (hc : ∀ x ∈ N.links, cbStep b x = true) : ∀ (l : List Hop) (v0 now v m : Int), 0 ≤ at' b v0 → at' b v0 ≤ now → cwGo N.links v0 now l = some (v, m) → 0 ≤ at' b v ∧ at' b v ≤ m
  | [], v0, now, v, m, h0, h1, h => by
    simp only [cwGo, Option.some.injEq, Prod.mk.injEq] at h
    obtain ⟨rfl, rfl⟩ := h
    exact ⟨h0, h1⟩
  | x :: r, v0, now, v, m, h0, h1, h => by
    simp only [cwGo] at h
    split at h
    · cases h
    · split at h
      · cases h
      · rename_i y hy
        have hym := List.mem_of_getElem? hy
        have hlm := hok y hym
        split at h
        · cases h
        · rename_i h2
          split at h
          · cases h
          · rename_i h3
            have hfr : y.fr = v0 := Decidable.byContradiction fun e => h2 (.inl e)
            have htk : ¬ x.tick < now := fun e => h2 (.inr e)
            have hl2 : (leave y x.tick).2 = true := by
              cases e : (leave y x.tick).2
              · exact absurd (.inl e) h3
              · rfl
            have hl1 : (leave y x.tick).1 = x.tick := Decidable.byContradiction fun e => h3 (.inr e)
            obtain ⟨m1, m2⟩ := leave_mono hlm.ok (show at' b v0 ≤ x.tick by omega) hl2
            have hs := hc y hym
            unfold cbStep at hs
            rw [hfr, if_neg (by omega), m1] at hs
            simp only [Bool.true_and, Bool.not_not, within, Bool.and_eq_true, decide_eq_true_eq] at hs
            exact cw_bound hok hc r y.to _ v m hs.1 (by omega) h
theorem arr_bounds {N : Net} {s t : Int} (hC : checkE N = 0) (h0 : 0 ≤ s) (h1 : s < N.st) (t0 : 0 ≤ t) (t1 : t ≤ 1048576) : cbE N s t (arrP N s t).out = 0 := by
  obtain ⟨W, _⟩ := arrP_spec hC h0 h1 t0 t1
  obtain ⟨s1, s2, _, hok⟩ := checkE_ok hC
  have F := arrP_fix hC h0 h1 t0 t1
  have hlo := W.ok.lo
  have hst := W.start
  unfold cbE
  rw [if_neg (by omega), if_neg ?_, if_neg (by simp [within]; omega), if_pos ?_]
  · refine List.all_eq_true.2 fun x hx => ?_
    unfold cbStep
    split
    · rfl
    · rename_i hf
      cases hl : (leave x (at' (arrP N s t).out x.fr)).2
      · rfl
      · have := F.closed (eE x) (List.mem_map.2 ⟨x, hx, rfl⟩) (show 0 ≤ at' (arrP N s t).out x.fr by omega) ((leave x (at' (arrP N s t).out x.fr)).1 + x.delay) (by simp [eE, hl])
        have this : 0 ≤ at' (arrP N s t).out x.to ∧ at' (arrP N s t).out x.to ≤ (leave x (at' (arrP N s t).out x.fr)).1 + x.delay := this
        simp [within, this]
  · simp only [Bool.not_eq_true, List.any_eq_false]
    intro v hv
    have := W.ok.vals v hv
    simp [within]; omega
/-- accepted bounds are nowhere later than the arrivals -/
theorem bounds_le {N : Net} {s t : Int} {b : List Int} (hC : checkE N = 0) (h0 : 0 ≤ s) (h1 : s < N.st) (t0 : 0 ≤ t) (t1 : t ≤ 1048576) (hb : cbE N s t b = 0) {v : Int} (v0 : 0 ≤ v) (v1 : v < N.st) (hv : 0 ≤ at' (arrP N s t).out v) : 0 ≤ at' b v ∧ at' b v ≤ at' (arrP N s t).out v := by
  obtain ⟨_, _, b0, b1, hc⟩ := cbE_zero hb
  obtain ⟨_, _, _, hok⟩ := checkE_ok hC
  exact cw_bound hok hc _ s t _ _ b0 b1 (wayP_ok hC h0 h1 v0 v1 t0 t1 hv).2
/-- nor later than a way that is accepted -/
theorem bounds_way {N : Net} {s to t : Int} {b : List Int} (hC : checkE N = 0) (hb : cbE N s t b = 0) {l : List Hop} {m : Int} (h : cwE N s to t l = (m, 0)) : 0 ≤ at' b to ∧ at' b to ≤ m := by
  obtain ⟨_, _, b0, b1, hc⟩ := cbE_zero hb
  obtain ⟨_, _, _, hok⟩ := checkE_ok hC
  unfold cwE at h
  split at h
  · cases h
  · split at h
    · cases h
    · rename_i a now hg
      split at h
      · rename_i e
        subst e
        simp only [Prod.mk.injEq, and_true] at h
        subst h
        exact cw_bound hok hc l s t _ _ b0 b1 hg
      · cases h
end Nets

namespace Go.AM
open Go.Proofs Nets
set_option maxRecDepth 10000
set_option maxHeartbeats 4000000
theorem relayProves_spec (N : Net) (s to t : Int) (n1 : Bool) (l : List Hop) (n2 : Bool) (m : List Int) :
    APure Try.prog 6 [encNet N, iv .i64 s, iv .i64 to, iv .i64 t, .fslc n1 false 2 (l.map encHop), .fslc n2 false 1 (m.map (iv .i64))] (bv true) := by
  intro h n
  refine ACalls.pure (ACalls.entry (by kernel_rfl) fun hb _ => calls_of Try.func6 rfl (by kernel_rfl) (by simp [Try.ntmps6]) ?_)
  by_cases hfew : l.length ≤ 50 ∧ m.length ≤ 20
  · obtain ⟨hl50, hm20⟩ := hfew
    have c18 := earliest_spec N s t
    by_cases hE : askedE N t [s] = 0
    · obtain ⟨hC, hs, ht1, ht2⟩ := asked_zero hE
      obtain ⟨hs1, hs2⟩ := hs s (by simp)
      obtain ⟨st1, st2, hll, hok⟩ := checkE_ok hC
      replace hok : Hide _ := hok
      rw [hE, eInts_zero] at c18
      clear hs
      have hlo := (arrP_spec hC hs1 hs2 ht1 ht2).1.ok.lo
      have c27 := checkBounds_spec N s t n2 m (by omega)
      have c27a := checkBounds_spec N s t false (arrP N s t).out (by omega)
      rw [hE] at c27 c27a
      have ha0 : checkBounds N s t 0 (arrP N s t).out = 0 := by rw [checkBounds, if_neg (by simp)]; exact arr_bounds hC hs1 hs2 ht1 ht2
      rw [ha0] at c27a
      by_cases hto : 0 ≤ to ∧ to < N.st
      · obtain ⟨k0, k1⟩ := hto
        have hb2 : bad N to = false := by simp [bad, within]; omega
        have hE2 : askedE N t [s, to] = 0 := by rw [askedE2_eq, askedE2, if_pos hE, hb2]; rfl
        have c23 := way_spec N s to t
        have c26 := checkWay_spec N s to t n1 false l (by omega)
        have hwo := way_ok N s to t
        have hwn := way_none N s to t (askedE N t [s, to])
        have hmV : ∀ W : List Hop, W.length < 1000000 → APure Try.prog 26 [encNet N, iv .i64 s, iv .i64 to, iv .i64 t, wayV W] (.tup [iv .i64 (checkWay N s to t (askedE N t [s, to]) W).1, iv .i64 (checkWay N s to t (askedE N t [s, to]) W).2]) := fun W hW =>
          (checkWay_spec N s to t (decide (W.length = 0)) (decide (W.length = 0)) W hW).weak fun G vs hv => by
            simp only [RvL] at hv ⊢
            obtain ⟨v0, r0, rfl, g0, v1, r1, rfl, g1, v2, r2, rfl, g2, v3, r3, rfl, g3, v4, r4, rfl, g4, g5⟩ := hv
            exact ⟨v0, _, rfl, g0, v1, _, rfl, g1, v2, _, rfl, g2, v3, _, rfl, g3, v4, _, rfl, wayV_rel g4, g5⟩
        rw [hE2] at c23 c26 hwo hwn hmV
        have hlenH : (wayH N s to t 0).length < 1000000 := by
          by_cases hz : wayE N s to t 0 = 0
          · have := (hwo hz).2; omega
          · rw [hwn hz]; simp
        have c26w := hmV _ hlenH
        have hM : (checkWay N s to t 0 l).2 = 0 → 0 ≤ at' (arrP N s t).out to ∧ at' (arrP N s t).out to ≤ (checkWay N s to t 0 l).1 := fun hz =>
          bounds_way hC (arr_bounds hC hs1 hs2 ht1 ht2) (l := l) (by rw [checkWay, if_neg (by simp)] at hz ⊢; rw [← hz])
        have hMb : cbE N s t m = 0 → (checkWay N s to t 0 l).2 = 0 → 0 ≤ at' m to ∧ at' m to ≤ (checkWay N s to t 0 l).1 := fun hbz hz =>
          bounds_way hC hbz (l := l) (by rw [checkWay, if_neg (by simp)] at hz ⊢; rw [← hz])
        have hY : checkBounds N s t 0 m = cbE N s t m := by rw [checkBounds, if_neg (by simp)]
        rw [hY] at c27
        have hYb : cbE N s t m = 0 → (m.length : Int) = N.st ∧ ∀ v : Int, 0 ≤ v → v < N.st → 0 ≤ at' (arrP N s t).out v → 0 ≤ at' m v ∧ at' m v ≤ at' (arrP N s t).out v := fun hbz =>
          ⟨(cbE_zero hbz).1, fun v v0 v1 hv => bounds_le hC hs1 hs2 ht1 ht2 hbz v0 v1 hv⟩
        have hZ : wayE N s to t 0 = 0 → checkWay N s to t 0 (wayH N s to t 0) = (at' (arrP N s t).out to, 0) := fun hz => by
          rw [(hwo hz).1, arrivesR, hE, if_neg (by simp), hb2, if_neg (by simp), arr_eq hC hs1 hs2 ht1 ht2, if_neg]
          intro hn
          rw [wayE, if_neg (by simp), arr_eq hC hs1 hs2 ht1 ht2, if_pos hn] at hz; cases hz
        have hwE : wayE N s to t 0 = if at' (arrP N s t).out to < 0 then 5 else 0 := by rw [wayE, if_neg (by simp)]
        clear hwo hwn hmV hY
        rw [hwE] at c23 hZ
        generalize checkWay N s to t 0 (wayH N s to t 0) = Z at *
        generalize checkWay N s to t 0 l = M at *
        generalize wayV (wayH N s to t 0) = V at *
        generalize cbE N s t m = Y at *
        generalize hA : (arrP N s t).out = A at *
        clear hA hwE
        have hgt := at_get' (o := A) to
        have hgt2 : A[to.toNat]? = some (at' A to) := at_get k0 (by omega)
        have htol : to.toNat < A.length := by omega
        have hAl : ((A.length : Int) != N.st) = false := by simp; omega
        by_cases hneg : at' A to < 0
        · rw [if_pos hneg] at c23
          have hM2 : M.2 ≠ 0 := fun e => by have := hM e; omega
          have hMe : (M.2 == 0) = false := by simpa using hM2
          have hMn : (M.2 != 0) = true := by simpa using hM2
          by_cases hYz : Y = 0
          · obtain ⟨hml, hall⟩ := hYb hYz
            have hbt := hMb hYz
            subst hYz
            obtain ⟨st, hst⟩ : ∃ st : Nat, N.st = st := ⟨N.st.toNat, by omega⟩
            have hmt : to.toNat < m.length := by omega
            have hgm := at_get' (o := m) to
            have hgm2 : m[to.toNat]? = some (at' m to) := at_get k0 (by omega)
            replace hall : Hide _ := hall
            replace hYb : Hide _ := hYb
            replace hMb : Hide _ := hMb
            replace hZ : Hide _ := hZ
            replace hM : Hide _ := hM
            replace hbt : Hide _ := hbt
            have hst1 : (st : Int) ≤ 10 := by omega
            have hAst : A.length = st := by omega
            have hne : ((st : Int) != N.st) = false := by rw [hst]; simp
            have hmst : m.length = st := by omega
            replace hst : Hide _ := hst
            clear hlo hml
            repeat' (first
              | (refine ac_seq_h fun K hK => ?_)
              | (refine ac_region_h fun K hK => ?_; simp (disch := omega) [go_sem, *, ilt_false, ile_false, Try.ntmps6 ])
              | (refine ac_draw_h mixed (by kernel_rfl) fun K hK => ?_; simp (disch := omega) [go_sem, *, wrap64_id, upd_ne, mk3_true, flatten_replicate_one, stepK_if, ilt_true, ilt_false, ile_true, ile_false, Try.ntmps6 ])
              | (apply Hide.out hK; clear hK K; try with_reducible dsimp only [thenA])
              | (apply Hide.out ht; clear ht hf Kt Kf)
              | (apply Hide.out hf; clear ht hf Kt Kf)
              | (clear hK K; apply Hide.out hK; clear hK K; try with_reducible dsimp only [thenA])
              | (clear hK K; clear hK K; apply Hide.out hK; clear hK K; try with_reducible dsimp only [thenA])
              | (with_reducible refine APure.call (few_spec _) ?_; try simp (disch := omega) [go_sem, * ])
              | (with_reducible refine APure.call (nets_spec) ?_; try simp (disch := omega) [go_sem, * ])
              | (with_reducible refine APure.call (c18) ?_; try simp (disch := omega) [go_sem, * ])
              | (with_reducible refine APure.call (c27a) ?_; try simp (disch := omega) [go_sem, * ])
              | (with_reducible refine APure.call (c23) ?_; try simp (disch := omega) [go_sem, * ])
              | (with_reducible refine APure.call (c26w) ?_; try simp (disch := omega) [go_sem, * ])
              | (with_reducible refine APure.call (c26) ?_; try simp (disch := omega) [go_sem, * ])
              | (with_reducible refine APure.call (c27) ?_; try simp (disch := omega) [go_sem, * ])
              | (refine ac_block ?_)
              | (refine ac_skip ?_; simp only [thenA])
              | (refine ac_exit ?_; simp only [thenA, blockA, if_true, if_false, Nat.reduceEqDiff])
              | (with_reducible show nextK _ _ _ _ _ _ _; simp (disch := omega) [go_sem, *, wrap64_id, upd_ne, mk3_true, flatten_replicate_one, stepK_if, ilt_true, ilt_false, ile_true, ile_false, Try.ntmps6 ])
              | (refine wantK_split (fun hc => ?_) (fun hc => ?_) <;> (try simp only [Bool.not_eq_true', Bool.not_eq_false', Bool.not_eq_eq_eq_not, Bool.not_true, Bool.not_false, decide_eq_true_eq, decide_eq_false_iff_not, Int.not_lt, Int.not_le] at hc) <;> (try (exfalso; omega)) <;> (try simp (disch := omega) [go_sem, *, ilt_false ]))
              | (refine ac_cond_h fun Kt Kf ht hf => ?_; simp (disch := omega) [go_sem, * ]; try (refine ⟨fun hc => ?_, fun hc => ?_⟩ <;> try (exfalso; omega))))
            refine ac_loop_wk (fun s' => ∃ (k n' : Nat), n < n' ∧ k ≤ st ∧ s' = ⟨192, [(2, iv .i64 to), (5, .fslc n2 false 1 (m.map (iv .i64))), (6, .ptr n 0), (13, .fslc false false 1 (A.map (iv .i64))), (19, iv .i64 M.1), (20, iv .i64 M.2), (21, iv .i64 k)], h.upd n (some (cellsNet N)), n'⟩)
                (fun s' => st - (intAt s' 21).toNat) ?_ ?_
            · exact loop_start (by simp [go_sem, *]) (Sub.refl _) ⟨0, _, by omega, by omega, rfl⟩
            · rintro s' ⟨k, n', hn', hk, rfl⟩
              have hb' : NB (h.upd n (some (cellsNet N))) n' := hb.nb.upd hn' (by omega)
              replace hb' : Hide _ := hb'
              have hsto := hst.out
              by_cases hlt : k < st
              · have hkA : k < A.length := by omega
                have hkm : k < m.length := by omega
                obtain ⟨x, hx1, hx2, _⟩ := at_k hkA
                obtain ⟨y, hy1, hy2, _⟩ := at_k hkm
                have hxy : 0 ≤ x → 0 ≤ y ∧ y ≤ x := by
                  have := hall.out k (by omega) (by omega)
                  have e1 : at' A k = x := by simp [at', hx2]
                  have e2 : at' m k = y := by simp [at', hy2]
                  rwa [e1, e2] at this
                clear hsto
                by_cases hx0 : 0 ≤ x
                · obtain ⟨hy0, hyx⟩ := hxy hx0
                  repeat' (first
                    | (refine ac_seq_h fun K hK => ?_)
                    | (refine ac_region_h fun K hK => ?_; simp (disch := omega) [go_sem, *, wrap64_id, ilt_true, hst.out])
                    | (refine ac_draw_h mixed (by kernel_rfl) fun K hK => ?_; simp (disch := omega) [go_sem, *, ilt_false, ile_true])
                    | (apply Hide.out hK; clear hK K; try with_reducible dsimp only [thenA])
                    | (apply Hide.out ht; clear ht hf Kt Kf)
                    | (apply Hide.out hf; clear ht hf Kt Kf)
                    | (clear hK K; apply Hide.out hK; clear hK K; try with_reducible dsimp only [thenA])
                    | (clear hK K; clear hK K; apply Hide.out hK; clear hK K; try with_reducible dsimp only [thenA])
                    | (refine ac_block ?_)
                    | (refine ac_skip ?_; simp only [thenA, blockA])
                    | (refine ac_exit ?_; simp only [thenA, blockA, if_true, if_false, Nat.reduceEqDiff])
                    | (with_reducible show nextK _ _ _ _ _ _ _; simp (disch := omega) [go_sem, *, wrap64_id, upd_ne, mk3_true, flatten_replicate_one, stepK_if, ilt_true, ilt_false, ile_true, ile_false, hst.out])
                    | (refine wantK_split (fun hc => ?_) (fun hc => ?_) <;> (try simp only [Bool.not_eq_true', Bool.not_eq_false', Bool.not_eq_eq_eq_not, Bool.not_true, Bool.not_false, decide_eq_true_eq, decide_eq_false_iff_not, Int.not_lt, Int.not_le] at hc) <;> (try (exfalso; omega)) <;> (try simp (disch := omega) [go_sem, *, wrap64_id, upd_ne, mk3_true, flatten_replicate_one, stepK_if, ilt_true, ilt_false, ile_true, ile_false, hst.out]))
                    | (refine ac_cond_h fun Kt Kf ht hf => ?_; simp (disch := omega) [go_sem, *]; try (refine ⟨fun hc => ?_, fun hc => ?_⟩ <;> try (exfalso; omega))))
                  exact round_end (by first | (simp [go_sem]; done) | simp [go_sem, *]) (Sub.refl _) ⟨k + 1, _, by omega, by omega, rfl⟩ (by simp [intAt, go_sem]; omega)
                · clear hxy
                  repeat' (first
                    | (refine ac_seq_h fun K hK => ?_)
                    | (refine ac_region_h fun K hK => ?_; simp (disch := omega) [go_sem, *, wrap64_id, ilt_true, hst.out])
                    | (refine ac_draw_h mixed (by kernel_rfl) fun K hK => ?_; simp (disch := omega) [go_sem, *, ile_true])
                    | (apply Hide.out hK; clear hK K; try with_reducible dsimp only [thenA])
                    | (apply Hide.out ht; clear ht hf Kt Kf)
                    | (apply Hide.out hf; clear ht hf Kt Kf)
                    | (clear hK K; apply Hide.out hK; clear hK K; try with_reducible dsimp only [thenA])
                    | (clear hK K; clear hK K; apply Hide.out hK; clear hK K; try with_reducible dsimp only [thenA])
                    | (refine ac_block ?_)
                    | (refine ac_skip ?_; simp only [thenA, blockA])
                    | (refine ac_exit ?_; simp only [thenA, blockA, if_true, if_false, Nat.reduceEqDiff])
                    | (with_reducible show nextK _ _ _ _ _ _ _; simp (disch := omega) [go_sem, *, wrap64_id, upd_ne, mk3_true, flatten_replicate_one, stepK_if, ilt_true, ilt_false, ile_true, ile_false, hst.out])
                    | (refine wantK_split (fun hc => ?_) (fun hc => ?_) <;> (try simp only [Bool.not_eq_true', Bool.not_eq_false', Bool.not_eq_eq_eq_not, Bool.not_true, Bool.not_false, decide_eq_true_eq, decide_eq_false_iff_not, Int.not_lt, Int.not_le] at hc) <;> (try (exfalso; omega)) <;> (try simp (disch := omega) [go_sem, *, wrap64_id, upd_ne, mk3_true, flatten_replicate_one, stepK_if, ilt_true, ilt_false, ile_true, ile_false, hst.out]))
                    | (refine ac_cond_h fun Kt Kf ht hf => ?_; simp (disch := omega) [go_sem, *]; try (refine ⟨fun hc => ?_, fun hc => ?_⟩ <;> try (exfalso; omega))))
                  exact round_end (by first | (simp [go_sem]; done) | simp [go_sem, *]) (Sub.refl _) ⟨k + 1, _, by omega, by omega, rfl⟩ (by simp [intAt, go_sem]; omega)
              · have hkk : k = st := by omega
                subst hkk
                clear hlt hsto
                repeat' (first
                  | (refine ac_seq_h fun K hK => ?_)
                  | (refine ac_region_h fun K hK => ?_; simp (disch := omega) [go_sem, *, hst.out ])
                  | (refine ac_draw_h mixed (by kernel_rfl) fun K hK => ?_; simp (disch := omega) [go_sem, *, wrap64_id, upd_ne, mk3_true, flatten_replicate_one, stepK_if, ilt_true, ilt_false, ile_true, ile_false, hst.out ])
                  | (apply Hide.out hK; clear hK K; try with_reducible dsimp only [thenA])
                  | (apply Hide.out ht; clear ht hf Kt Kf)
                  | (apply Hide.out hf; clear ht hf Kt Kf)
                  | (clear hK K; apply Hide.out hK; clear hK K; try with_reducible dsimp only [thenA])
                  | (clear hK K; clear hK K; apply Hide.out hK; clear hK K; try with_reducible dsimp only [thenA])
                  | (with_reducible refine APure.call (nets_spec) ?_; try simp (disch := omega) [go_sem, * ])
                  | (refine ac_block ?_)
                  | (refine ac_skip ?_; simp only [thenA, blockA])
                  | (refine ac_exit ?_; simp only [thenA, blockA, if_true])
                  | (with_reducible show nextK _ _ _ _ _ _ _; simp (disch := omega) [go_sem, *, wrap64_id, upd_ne, mk3_true, flatten_replicate_one, stepK_if, ilt_true, ilt_false, ile_true, ile_false, hst.out ])
                  | (refine wantK_split (fun hc => ?_) (fun hc => ?_) <;> (try simp only [Bool.not_eq_true', Bool.not_eq_false', Bool.not_eq_eq_eq_not, Bool.not_true, Bool.not_false, decide_eq_true_eq, decide_eq_false_iff_not, Int.not_lt, Int.not_le] at hc) <;> (try (exfalso; omega)) <;> (try simp (disch := omega) [go_sem, *, wrap64_id, upd_ne, mk3_true, flatten_replicate_one, stepK_if, ilt_true, ilt_false, ile_true, ile_false, hst.out ]))
                  | (refine ac_cond_h fun Kt Kf ht hf => ?_; simp (disch := omega) [go_sem, * ]; try (refine ⟨fun hc => ?_, fun hc => ?_⟩ <;> try (exfalso; omega))))
                (refine ac_ret ?_; try dsimp only [thenA, blockA]; refine ⟨by simp, _, (by first | rfl | (simp (disch := omega) [go_sem, upd_ne] <;> rfl)), ?_⟩; refine ret_id ⟨fun k hk => (by first | rfl | (repeat rw [upd_ne _ _ _ _ (by omega)])), (by simp [go_sem, below]), (by simp [go_sem] <;> omega), by simp, by simp⟩)
            · skip
              (refine ac_ret ?_; try dsimp only [thenA, blockA]; refine ⟨by simp, _, (by first | rfl | (simp (disch := omega) [go_sem, upd_ne] <;> rfl)), ?_⟩; refine ret_id ⟨fun k hk => (by first | rfl | (repeat rw [upd_ne _ _ _ _ (by omega)])), (by simp [go_sem, below]), (by simp [go_sem] <;> omega), by simp, by simp⟩)
          · skip
            have hYe : (Y != 0) = true := by simpa using hYz
            clear hlo
            repeat' (first
              | (refine ac_seq_h fun K hK => ?_)
              | (refine ac_region_h fun K hK => ?_; simp (disch := omega) [go_sem, *, ilt_false, ile_false, Try.ntmps6 ])
              | (refine ac_draw_h mixed (by kernel_rfl) fun K hK => ?_; simp (disch := omega) [go_sem, *, wrap64_id, upd_ne, mk3_true, flatten_replicate_one, stepK_if, ilt_true, ilt_false, ile_true, ile_false, Try.ntmps6 ])
              | (apply Hide.out hK; clear hK K; try with_reducible dsimp only [thenA])
              | (apply Hide.out ht; clear ht hf Kt Kf)
              | (apply Hide.out hf; clear ht hf Kt Kf)
              | (clear hK K; apply Hide.out hK; clear hK K; try with_reducible dsimp only [thenA])
              | (clear hK K; clear hK K; apply Hide.out hK; clear hK K; try with_reducible dsimp only [thenA])
              | (with_reducible refine APure.call (few_spec _) ?_; try simp (disch := omega) [go_sem, * ])
              | (with_reducible refine APure.call (nets_spec) ?_; try simp (disch := omega) [go_sem, * ])
              | (with_reducible refine APure.call (c18) ?_; try simp (disch := omega) [go_sem, * ])
              | (with_reducible refine APure.call (c27a) ?_; try simp (disch := omega) [go_sem, * ])
              | (with_reducible refine APure.call (c23) ?_; try simp (disch := omega) [go_sem, * ])
              | (with_reducible refine APure.call (c26w) ?_; try simp (disch := omega) [go_sem, * ])
              | (with_reducible refine APure.call (c26) ?_; try simp (disch := omega) [go_sem, * ])
              | (with_reducible refine APure.call (c27) ?_; try simp (disch := omega) [go_sem, * ])
              | (refine ac_block ?_)
              | (refine ac_skip ?_; simp only [thenA])
              | (refine ac_exit ?_; simp only [thenA, blockA, if_true, if_false, Nat.reduceEqDiff])
              | (with_reducible show nextK _ _ _ _ _ _ _; simp (disch := omega) [go_sem, *, wrap64_id, upd_ne, mk3_true, flatten_replicate_one, stepK_if, ilt_true, ilt_false, ile_true, ile_false, Try.ntmps6 ])
              | (refine wantK_split (fun hc => ?_) (fun hc => ?_) <;> (try simp only [Bool.not_eq_true', Bool.not_eq_false', Bool.not_eq_eq_eq_not, Bool.not_true, Bool.not_false, decide_eq_true_eq, decide_eq_false_iff_not, Int.not_lt, Int.not_le] at hc) <;> (try (exfalso; omega)) <;> (try simp (disch := omega) [go_sem, *, ilt_false ]))
              | (refine ac_cond_h fun Kt Kf ht hf => ?_; simp (disch := omega) [go_sem, * ]; try (refine ⟨fun hc => ?_, fun hc => ?_⟩ <;> try (exfalso; omega))))
            all_goals (refine ac_ret ?_; try dsimp only [thenA, blockA]; refine ⟨by simp, _, (by first | rfl | (simp (disch := omega) [go_sem, upd_ne] <;> rfl)), ?_⟩; refine ret_id ⟨fun k hk => (by first | rfl | (repeat rw [upd_ne _ _ _ _ (by omega)])), (by simp [go_sem, below]), (by simp [go_sem] <;> omega), by simp, by simp⟩)
        · rw [if_neg hneg] at c23 hZ
          have hZ1 := hZ rfl
          subst hZ1
          by_cases hM2 : M.2 = 0
          · obtain ⟨hM3, hM4⟩ := hM hM2
            by_cases hYz : Y = 0
            · obtain ⟨hml, hall⟩ := hYb hYz
              have hbt := hMb hYz
              subst hYz
              obtain ⟨st, hst⟩ : ∃ st : Nat, N.st = st := ⟨N.st.toNat, by omega⟩
              have hmt : to.toNat < m.length := by omega
              have hgm := at_get' (o := m) to
              have hgm2 : m[to.toNat]? = some (at' m to) := at_get k0 (by omega)
              obtain ⟨hbt1, hbt2⟩ := hbt hM2
              replace hall : Hide _ := hall
              replace hYb : Hide _ := hYb
              replace hMb : Hide _ := hMb
              replace hZ : Hide _ := hZ
              replace hM : Hide _ := hM
              replace hbt : Hide _ := hbt
              have hst1 : (st : Int) ≤ 10 := by omega
              have hAst : A.length = st := by omega
              have hne : ((st : Int) != N.st) = false := by rw [hst]; simp
              have hmst : m.length = st := by omega
              replace hst : Hide _ := hst
              clear hlo hml
              repeat' (first
                | (refine ac_seq_h fun K hK => ?_)
                | (refine ac_region_h fun K hK => ?_; simp (disch := omega) [go_sem, *, ilt_false, ile_false, Try.ntmps6 ])
                | (refine ac_draw_h mixed (by kernel_rfl) fun K hK => ?_; simp (disch := omega) [go_sem, *, wrap64_id, upd_ne, mk3_true, flatten_replicate_one, stepK_if, ilt_true, ilt_false, ile_true, ile_false, Try.ntmps6 ])
                | (apply Hide.out hK; clear hK K; try with_reducible dsimp only [thenA])
                | (apply Hide.out ht; clear ht hf Kt Kf)
                | (apply Hide.out hf; clear ht hf Kt Kf)
                | (clear hK K; apply Hide.out hK; clear hK K; try with_reducible dsimp only [thenA])
                | (clear hK K; clear hK K; apply Hide.out hK; clear hK K; try with_reducible dsimp only [thenA])
                | (with_reducible refine APure.call (few_spec _) ?_; try simp (disch := omega) [go_sem, * ])
                | (with_reducible refine APure.call (nets_spec) ?_; try simp (disch := omega) [go_sem, * ])
                | (with_reducible refine APure.call (c18) ?_; try simp (disch := omega) [go_sem, * ])
                | (with_reducible refine APure.call (c27a) ?_; try simp (disch := omega) [go_sem, * ])
                | (with_reducible refine APure.call (c23) ?_; try simp (disch := omega) [go_sem, * ])
                | (with_reducible refine APure.call (c26w) ?_; try simp (disch := omega) [go_sem, * ])
                | (with_reducible refine APure.call (c26) ?_; try simp (disch := omega) [go_sem, * ])
                | (with_reducible refine APure.call (c27) ?_; try simp (disch := omega) [go_sem, * ])
                | (refine ac_block ?_)
                | (refine ac_skip ?_; simp only [thenA])
                | (refine ac_exit ?_; simp only [thenA, blockA, if_true, if_false, Nat.reduceEqDiff])
                | (with_reducible show nextK _ _ _ _ _ _ _; simp (disch := omega) [go_sem, *, wrap64_id, upd_ne, mk3_true, flatten_replicate_one, stepK_if, ilt_true, ilt_false, ile_true, ile_false, Try.ntmps6 ])
                | (refine wantK_split (fun hc => ?_) (fun hc => ?_) <;> (try simp only [Bool.not_eq_true', Bool.not_eq_false', Bool.not_eq_eq_eq_not, Bool.not_true, Bool.not_false, decide_eq_true_eq, decide_eq_false_iff_not, Int.not_lt, Int.not_le] at hc) <;> (try (exfalso; omega)) <;> (try simp (disch := omega) [go_sem, *, ilt_false ]))
                | (refine ac_cond_h fun Kt Kf ht hf => ?_; simp (disch := omega) [go_sem, * ]; try (refine ⟨fun hc => ?_, fun hc => ?_⟩ <;> try (exfalso; omega))))
              refine ac_loop_wk (fun s' => ∃ (k n' : Nat), n < n' ∧ k ≤ st ∧ s' = ⟨192, [(2, iv .i64 to), (5, .fslc n2 false 1 (m.map (iv .i64))), (6, .ptr n 0), (13, .fslc false false 1 (A.map (iv .i64))), (19, iv .i64 M.1), (20, iv .i64 M.2), (21, iv .i64 k)], h.upd n (some (cellsNet N)), n'⟩)
                  (fun s' => st - (intAt s' 21).toNat) ?_ ?_
              · exact loop_start (by simp [go_sem, *]) (Sub.refl _) ⟨0, _, by omega, by omega, rfl⟩
              · rintro s' ⟨k, n', hn', hk, rfl⟩
                have hb' : NB (h.upd n (some (cellsNet N))) n' := hb.nb.upd hn' (by omega)
                replace hb' : Hide _ := hb'
                have hsto := hst.out
                by_cases hlt : k < st
                · have hkA : k < A.length := by omega
                  have hkm : k < m.length := by omega
                  obtain ⟨x, hx1, hx2, _⟩ := at_k hkA
                  obtain ⟨y, hy1, hy2, _⟩ := at_k hkm
                  have hxy : 0 ≤ x → 0 ≤ y ∧ y ≤ x := by
                    have := hall.out k (by omega) (by omega)
                    have e1 : at' A k = x := by simp [at', hx2]
                    have e2 : at' m k = y := by simp [at', hy2]
                    rwa [e1, e2] at this
                  clear hsto
                  by_cases hx0 : 0 ≤ x
                  · obtain ⟨hy0, hyx⟩ := hxy hx0
                    repeat' (first
                      | (refine ac_seq_h fun K hK => ?_)
                      | (refine ac_region_h fun K hK => ?_; simp (disch := omega) [go_sem, *, wrap64_id, ilt_true, hst.out])
                      | (refine ac_draw_h mixed (by kernel_rfl) fun K hK => ?_; simp (disch := omega) [go_sem, *, ilt_false, ile_true])
                      | (apply Hide.out hK; clear hK K; try with_reducible dsimp only [thenA])
                      | (apply Hide.out ht; clear ht hf Kt Kf)
                      | (apply Hide.out hf; clear ht hf Kt Kf)
                      | (clear hK K; apply Hide.out hK; clear hK K; try with_reducible dsimp only [thenA])
                      | (clear hK K; clear hK K; apply Hide.out hK; clear hK K; try with_reducible dsimp only [thenA])
                      | (refine ac_block ?_)
                      | (refine ac_skip ?_; simp only [thenA, blockA])
                      | (refine ac_exit ?_; simp only [thenA, blockA, if_true, if_false, Nat.reduceEqDiff])
                      | (with_reducible show nextK _ _ _ _ _ _ _; simp (disch := omega) [go_sem, *, wrap64_id, upd_ne, mk3_true, flatten_replicate_one, stepK_if, ilt_true, ilt_false, ile_true, ile_false, hst.out])
                      | (refine wantK_split (fun hc => ?_) (fun hc => ?_) <;> (try simp only [Bool.not_eq_true', Bool.not_eq_false', Bool.not_eq_eq_eq_not, Bool.not_true, Bool.not_false, decide_eq_true_eq, decide_eq_false_iff_not, Int.not_lt, Int.not_le] at hc) <;> (try (exfalso; omega)) <;> (try simp (disch := omega) [go_sem, *, wrap64_id, upd_ne, mk3_true, flatten_replicate_one, stepK_if, ilt_true, ilt_false, ile_true, ile_false, hst.out]))
                      | (refine ac_cond_h fun Kt Kf ht hf => ?_; simp (disch := omega) [go_sem, *]; try (refine ⟨fun hc => ?_, fun hc => ?_⟩ <;> try (exfalso; omega))))
                    exact round_end (by first | (simp [go_sem]; done) | simp [go_sem, *]) (Sub.refl _) ⟨k + 1, _, by omega, by omega, rfl⟩ (by simp [intAt, go_sem]; omega)
                  · clear hxy
                    repeat' (first
                      | (refine ac_seq_h fun K hK => ?_)
                      | (refine ac_region_h fun K hK => ?_; simp (disch := omega) [go_sem, *, wrap64_id, ilt_true, hst.out])
                      | (refine ac_draw_h mixed (by kernel_rfl) fun K hK => ?_; simp (disch := omega) [go_sem, *, ile_true])
                      | (apply Hide.out hK; clear hK K; try with_reducible dsimp only [thenA])
                      | (apply Hide.out ht; clear ht hf Kt Kf)
                      | (apply Hide.out hf; clear ht hf Kt Kf)
                      | (clear hK K; apply Hide.out hK; clear hK K; try with_reducible dsimp only [thenA])
                      | (clear hK K; clear hK K; apply Hide.out hK; clear hK K; try with_reducible dsimp only [thenA])
                      | (refine ac_block ?_)
                      | (refine ac_skip ?_; simp only [thenA, blockA])
                      | (refine ac_exit ?_; simp only [thenA, blockA, if_true, if_false, Nat.reduceEqDiff])
                      | (with_reducible show nextK _ _ _ _ _ _ _; simp (disch := omega) [go_sem, *, wrap64_id, upd_ne, mk3_true, flatten_replicate_one, stepK_if, ilt_true, ilt_false, ile_true, ile_false, hst.out])
                      | (refine wantK_split (fun hc => ?_) (fun hc => ?_) <;> (try simp only [Bool.not_eq_true', Bool.not_eq_false', Bool.not_eq_eq_eq_not, Bool.not_true, Bool.not_false, decide_eq_true_eq, decide_eq_false_iff_not, Int.not_lt, Int.not_le] at hc) <;> (try (exfalso; omega)) <;> (try simp (disch := omega) [go_sem, *, wrap64_id, upd_ne, mk3_true, flatten_replicate_one, stepK_if, ilt_true, ilt_false, ile_true, ile_false, hst.out]))
                      | (refine ac_cond_h fun Kt Kf ht hf => ?_; simp (disch := omega) [go_sem, *]; try (refine ⟨fun hc => ?_, fun hc => ?_⟩ <;> try (exfalso; omega))))
                    exact round_end (by first | (simp [go_sem]; done) | simp [go_sem, *]) (Sub.refl _) ⟨k + 1, _, by omega, by omega, rfl⟩ (by simp [intAt, go_sem]; omega)
                · have hkk : k = st := by omega
                  subst hkk
                  clear hlt hsto
                  repeat' (first
                    | (refine ac_seq_h fun K hK => ?_)
                    | (refine ac_region_h fun K hK => ?_; simp (disch := omega) [go_sem, *, hst.out ])
                    | (refine ac_draw_h mixed (by kernel_rfl) fun K hK => ?_; simp (disch := omega) [go_sem, *, wrap64_id, upd_ne, mk3_true, flatten_replicate_one, stepK_if, ilt_true, ilt_false, ile_true, ile_false, hst.out ])
                    | (apply Hide.out hK; clear hK K; try with_reducible dsimp only [thenA])
                    | (apply Hide.out ht; clear ht hf Kt Kf)
                    | (apply Hide.out hf; clear ht hf Kt Kf)
                    | (clear hK K; apply Hide.out hK; clear hK K; try with_reducible dsimp only [thenA])
                    | (clear hK K; clear hK K; apply Hide.out hK; clear hK K; try with_reducible dsimp only [thenA])
                    | (with_reducible refine APure.call (nets_spec) ?_; try simp (disch := omega) [go_sem, * ])
                    | (refine ac_block ?_)
                    | (refine ac_skip ?_; simp only [thenA, blockA])
                    | (refine ac_exit ?_; simp only [thenA, blockA, if_true])
                    | (with_reducible show nextK _ _ _ _ _ _ _; simp (disch := omega) [go_sem, *, wrap64_id, upd_ne, mk3_true, flatten_replicate_one, stepK_if, ilt_true, ilt_false, ile_true, ile_false, hst.out ])
                    | (refine wantK_split (fun hc => ?_) (fun hc => ?_) <;> (try simp only [Bool.not_eq_true', Bool.not_eq_false', Bool.not_eq_eq_eq_not, Bool.not_true, Bool.not_false, decide_eq_true_eq, decide_eq_false_iff_not, Int.not_lt, Int.not_le] at hc) <;> (try (exfalso; omega)) <;> (try simp (disch := omega) [go_sem, *, wrap64_id, upd_ne, mk3_true, flatten_replicate_one, stepK_if, ilt_true, ilt_false, ile_true, ile_false, hst.out ]))
                    | (refine ac_cond_h fun Kt Kf ht hf => ?_; simp (disch := omega) [go_sem, * ]; try (refine ⟨fun hc => ?_, fun hc => ?_⟩ <;> try (exfalso; omega))))
                  (refine ac_ret ?_; try dsimp only [thenA, blockA]; refine ⟨by simp, _, (by first | rfl | (simp (disch := omega) [go_sem, upd_ne] <;> rfl)), ?_⟩; refine ret_id ⟨fun k hk => (by first | rfl | (repeat rw [upd_ne _ _ _ _ (by omega)])), (by simp [go_sem, below]), (by simp [go_sem] <;> omega), by simp, by simp⟩)
              · skip
                (refine ac_ret ?_; try dsimp only [thenA, blockA]; refine ⟨by simp, _, (by first | rfl | (simp (disch := omega) [go_sem, upd_ne] <;> rfl)), ?_⟩; refine ret_id ⟨fun k hk => (by first | rfl | (repeat rw [upd_ne _ _ _ _ (by omega)])), (by simp [go_sem, below]), (by simp [go_sem] <;> omega), by simp, by simp⟩)
            · skip
              have hYe : (Y != 0) = true := by simpa using hYz
              clear hlo
              repeat' (first
                | (refine ac_seq_h fun K hK => ?_)
                | (refine ac_region_h fun K hK => ?_; simp (disch := omega) [go_sem, *, ilt_false, ile_false, Try.ntmps6 ])
                | (refine ac_draw_h mixed (by kernel_rfl) fun K hK => ?_; simp (disch := omega) [go_sem, *, wrap64_id, upd_ne, mk3_true, flatten_replicate_one, stepK_if, ilt_true, ilt_false, ile_true, ile_false, Try.ntmps6 ])
                | (apply Hide.out hK; clear hK K; try with_reducible dsimp only [thenA])
                | (apply Hide.out ht; clear ht hf Kt Kf)
                | (apply Hide.out hf; clear ht hf Kt Kf)
                | (clear hK K; apply Hide.out hK; clear hK K; try with_reducible dsimp only [thenA])
                | (clear hK K; clear hK K; apply Hide.out hK; clear hK K; try with_reducible dsimp only [thenA])
                | (with_reducible refine APure.call (few_spec _) ?_; try simp (disch := omega) [go_sem, * ])
                | (with_reducible refine APure.call (nets_spec) ?_; try simp (disch := omega) [go_sem, * ])
                | (with_reducible refine APure.call (c18) ?_; try simp (disch := omega) [go_sem, * ])
                | (with_reducible refine APure.call (c27a) ?_; try simp (disch := omega) [go_sem, * ])
                | (with_reducible refine APure.call (c23) ?_; try simp (disch := omega) [go_sem, * ])
                | (with_reducible refine APure.call (c26w) ?_; try simp (disch := omega) [go_sem, * ])
                | (with_reducible refine APure.call (c26) ?_; try simp (disch := omega) [go_sem, * ])
                | (with_reducible refine APure.call (c27) ?_; try simp (disch := omega) [go_sem, * ])
                | (refine ac_block ?_)
                | (refine ac_skip ?_; simp only [thenA])
                | (refine ac_exit ?_; simp only [thenA, blockA, if_true, if_false, Nat.reduceEqDiff])
                | (with_reducible show nextK _ _ _ _ _ _ _; simp (disch := omega) [go_sem, *, wrap64_id, upd_ne, mk3_true, flatten_replicate_one, stepK_if, ilt_true, ilt_false, ile_true, ile_false, Try.ntmps6 ])
                | (refine wantK_split (fun hc => ?_) (fun hc => ?_) <;> (try simp only [Bool.not_eq_true', Bool.not_eq_false', Bool.not_eq_eq_eq_not, Bool.not_true, Bool.not_false, decide_eq_true_eq, decide_eq_false_iff_not, Int.not_lt, Int.not_le] at hc) <;> (try (exfalso; omega)) <;> (try simp (disch := omega) [go_sem, *, ilt_false ]))
                | (refine ac_cond_h fun Kt Kf ht hf => ?_; simp (disch := omega) [go_sem, * ]; try (refine ⟨fun hc => ?_, fun hc => ?_⟩ <;> try (exfalso; omega))))
              all_goals (refine ac_ret ?_; try dsimp only [thenA, blockA]; refine ⟨by simp, _, (by first | rfl | (simp (disch := omega) [go_sem, upd_ne] <;> rfl)), ?_⟩; refine ret_id ⟨fun k hk => (by first | rfl | (repeat rw [upd_ne _ _ _ _ (by omega)])), (by simp [go_sem, below]), (by simp [go_sem] <;> omega), by simp, by simp⟩)
          · have hMe : (M.2 == 0) = false := by simpa using hM2
            have hMn : (M.2 != 0) = true := by simpa using hM2
            by_cases hYz : Y = 0
            · obtain ⟨hml, hall⟩ := hYb hYz
              have hbt := hMb hYz
              subst hYz
              obtain ⟨st, hst⟩ : ∃ st : Nat, N.st = st := ⟨N.st.toNat, by omega⟩
              have hmt : to.toNat < m.length := by omega
              have hgm := at_get' (o := m) to
              have hgm2 : m[to.toNat]? = some (at' m to) := at_get k0 (by omega)
              replace hall : Hide _ := hall
              replace hYb : Hide _ := hYb
              replace hMb : Hide _ := hMb
              replace hZ : Hide _ := hZ
              replace hM : Hide _ := hM
              replace hbt : Hide _ := hbt
              have hst1 : (st : Int) ≤ 10 := by omega
              have hAst : A.length = st := by omega
              have hne : ((st : Int) != N.st) = false := by rw [hst]; simp
              have hmst : m.length = st := by omega
              replace hst : Hide _ := hst
              clear hlo hml
              repeat' (first
                | (refine ac_seq_h fun K hK => ?_)
                | (refine ac_region_h fun K hK => ?_; simp (disch := omega) [go_sem, *, ilt_false, ile_true, ile_false, Try.ntmps6 ])
                | (refine ac_draw_h mixed (by kernel_rfl) fun K hK => ?_; simp (disch := omega) [go_sem, *, wrap64_id, upd_ne, mk3_true, flatten_replicate_one, stepK_if, ilt_true, ilt_false, ile_true, ile_false, Try.ntmps6 ])
                | (apply Hide.out hK; clear hK K; try with_reducible dsimp only [thenA])
                | (apply Hide.out ht; clear ht hf Kt Kf)
                | (apply Hide.out hf; clear ht hf Kt Kf)
                | (clear hK K; apply Hide.out hK; clear hK K; try with_reducible dsimp only [thenA])
                | (clear hK K; clear hK K; apply Hide.out hK; clear hK K; try with_reducible dsimp only [thenA])
                | (with_reducible refine APure.call (few_spec _) ?_; try simp (disch := omega) [go_sem, * ])
                | (with_reducible refine APure.call (nets_spec) ?_; try simp (disch := omega) [go_sem, * ])
                | (with_reducible refine APure.call (c18) ?_; try simp (disch := omega) [go_sem, * ])
                | (with_reducible refine APure.call (c27a) ?_; try simp (disch := omega) [go_sem, * ])
                | (with_reducible refine APure.call (c23) ?_; try simp (disch := omega) [go_sem, * ])
                | (with_reducible refine APure.call (c26w) ?_; try simp (disch := omega) [go_sem, * ])
                | (with_reducible refine APure.call (c26) ?_; try simp (disch := omega) [go_sem, * ])
                | (with_reducible refine APure.call (c27) ?_; try simp (disch := omega) [go_sem, * ])
                | (refine ac_block ?_)
                | (refine ac_skip ?_; simp only [thenA])
                | (refine ac_exit ?_; simp only [thenA, blockA, if_true, if_false, Nat.reduceEqDiff])
                | (with_reducible show nextK _ _ _ _ _ _ _; simp (disch := omega) [go_sem, *, wrap64_id, upd_ne, mk3_true, flatten_replicate_one, stepK_if, ilt_true, ilt_false, ile_true, ile_false, Try.ntmps6 ])
                | (refine wantK_split (fun hc => ?_) (fun hc => ?_) <;> (try simp only [Bool.not_eq_true', Bool.not_eq_false', Bool.not_eq_eq_eq_not, Bool.not_true, Bool.not_false, decide_eq_true_eq, decide_eq_false_iff_not, Int.not_lt, Int.not_le] at hc) <;> (try (exfalso; omega)) <;> (try simp (disch := omega) [go_sem, *, ilt_false ]))
                | (refine ac_cond_h fun Kt Kf ht hf => ?_; simp (disch := omega) [go_sem, * ]; try (refine ⟨fun hc => ?_, fun hc => ?_⟩ <;> try (exfalso; omega))))
              refine ac_loop_wk (fun s' => ∃ (k n' : Nat), n < n' ∧ k ≤ st ∧ s' = ⟨192, [(2, iv .i64 to), (5, .fslc n2 false 1 (m.map (iv .i64))), (6, .ptr n 0), (13, .fslc false false 1 (A.map (iv .i64))), (19, iv .i64 M.1), (20, iv .i64 M.2), (21, iv .i64 k)], h.upd n (some (cellsNet N)), n'⟩)
                  (fun s' => st - (intAt s' 21).toNat) ?_ ?_
              · exact loop_start (by simp [go_sem, *]) (Sub.refl _) ⟨0, _, by omega, by omega, rfl⟩
              · rintro s' ⟨k, n', hn', hk, rfl⟩
                have hb' : NB (h.upd n (some (cellsNet N))) n' := hb.nb.upd hn' (by omega)
                replace hb' : Hide _ := hb'
                have hsto := hst.out
                by_cases hlt : k < st
                · have hkA : k < A.length := by omega
                  have hkm : k < m.length := by omega
                  obtain ⟨x, hx1, hx2, _⟩ := at_k hkA
                  obtain ⟨y, hy1, hy2, _⟩ := at_k hkm
                  have hxy : 0 ≤ x → 0 ≤ y ∧ y ≤ x := by
                    have := hall.out k (by omega) (by omega)
                    have e1 : at' A k = x := by simp [at', hx2]
                    have e2 : at' m k = y := by simp [at', hy2]
                    rwa [e1, e2] at this
                  clear hsto
                  by_cases hx0 : 0 ≤ x
                  · obtain ⟨hy0, hyx⟩ := hxy hx0
                    repeat' (first
                      | (refine ac_seq_h fun K hK => ?_)
                      | (refine ac_region_h fun K hK => ?_; simp (disch := omega) [go_sem, *, wrap64_id, ilt_true, hst.out])
                      | (refine ac_draw_h mixed (by kernel_rfl) fun K hK => ?_; simp (disch := omega) [go_sem, *, ilt_false, ile_true])
                      | (apply Hide.out hK; clear hK K; try with_reducible dsimp only [thenA])
                      | (apply Hide.out ht; clear ht hf Kt Kf)
                      | (apply Hide.out hf; clear ht hf Kt Kf)
                      | (clear hK K; apply Hide.out hK; clear hK K; try with_reducible dsimp only [thenA])
                      | (clear hK K; clear hK K; apply Hide.out hK; clear hK K; try with_reducible dsimp only [thenA])
                      | (refine ac_block ?_)
                      | (refine ac_skip ?_; simp only [thenA, blockA])
                      | (refine ac_exit ?_; simp only [thenA, blockA, if_true, if_false, Nat.reduceEqDiff])
                      | (with_reducible show nextK _ _ _ _ _ _ _; simp (disch := omega) [go_sem, *, wrap64_id, upd_ne, mk3_true, flatten_replicate_one, stepK_if, ilt_true, ilt_false, ile_true, ile_false, hst.out])
                      | (refine wantK_split (fun hc => ?_) (fun hc => ?_) <;> (try simp only [Bool.not_eq_true', Bool.not_eq_false', Bool.not_eq_eq_eq_not, Bool.not_true, Bool.not_false, decide_eq_true_eq, decide_eq_false_iff_not, Int.not_lt, Int.not_le] at hc) <;> (try (exfalso; omega)) <;> (try simp (disch := omega) [go_sem, *, wrap64_id, upd_ne, mk3_true, flatten_replicate_one, stepK_if, ilt_true, ilt_false, ile_true, ile_false, hst.out]))
                      | (refine ac_cond_h fun Kt Kf ht hf => ?_; simp (disch := omega) [go_sem, *]; try (refine ⟨fun hc => ?_, fun hc => ?_⟩ <;> try (exfalso; omega))))
                    exact round_end (by first | (simp [go_sem]; done) | simp [go_sem, *]) (Sub.refl _) ⟨k + 1, _, by omega, by omega, rfl⟩ (by simp [intAt, go_sem]; omega)
                  · clear hxy
                    repeat' (first
                      | (refine ac_seq_h fun K hK => ?_)
                      | (refine ac_region_h fun K hK => ?_; simp (disch := omega) [go_sem, *, wrap64_id, ilt_true, hst.out])
                      | (refine ac_draw_h mixed (by kernel_rfl) fun K hK => ?_; simp (disch := omega) [go_sem, *, ile_true])
                      | (apply Hide.out hK; clear hK K; try with_reducible dsimp only [thenA])
                      | (apply Hide.out ht; clear ht hf Kt Kf)
                      | (apply Hide.out hf; clear ht hf Kt Kf)
                      | (clear hK K; apply Hide.out hK; clear hK K; try with_reducible dsimp only [thenA])
                      | (clear hK K; clear hK K; apply Hide.out hK; clear hK K; try with_reducible dsimp only [thenA])
                      | (refine ac_block ?_)
                      | (refine ac_skip ?_; simp only [thenA, blockA])
                      | (refine ac_exit ?_; simp only [thenA, blockA, if_true, if_false, Nat.reduceEqDiff])
                      | (with_reducible show nextK _ _ _ _ _ _ _; simp (disch := omega) [go_sem, *, wrap64_id, upd_ne, mk3_true, flatten_replicate_one, stepK_if, ilt_true, ilt_false, ile_true, ile_false, hst.out])
                      | (refine wantK_split (fun hc => ?_) (fun hc => ?_) <;> (try simp only [Bool.not_eq_true', Bool.not_eq_false', Bool.not_eq_eq_eq_not, Bool.not_true, Bool.not_false, decide_eq_true_eq, decide_eq_false_iff_not, Int.not_lt, Int.not_le] at hc) <;> (try (exfalso; omega)) <;> (try simp (disch := omega) [go_sem, *, wrap64_id, upd_ne, mk3_true, flatten_replicate_one, stepK_if, ilt_true, ilt_false, ile_true, ile_false, hst.out]))
                      | (refine ac_cond_h fun Kt Kf ht hf => ?_; simp (disch := omega) [go_sem, *]; try (refine ⟨fun hc => ?_, fun hc => ?_⟩ <;> try (exfalso; omega))))
                    exact round_end (by first | (simp [go_sem]; done) | simp [go_sem, *]) (Sub.refl _) ⟨k + 1, _, by omega, by omega, rfl⟩ (by simp [intAt, go_sem]; omega)
                · have hkk : k = st := by omega
                  subst hkk
                  clear hlt hsto
                  repeat' (first
                    | (refine ac_seq_h fun K hK => ?_)
                    | (refine ac_region_h fun K hK => ?_; simp (disch := omega) [go_sem, *, hst.out ])
                    | (refine ac_draw_h mixed (by kernel_rfl) fun K hK => ?_; simp (disch := omega) [go_sem, *, wrap64_id, upd_ne, mk3_true, flatten_replicate_one, stepK_if, ilt_true, ilt_false, ile_true, ile_false, hst.out ])
                    | (apply Hide.out hK; clear hK K; try with_reducible dsimp only [thenA])
                    | (apply Hide.out ht; clear ht hf Kt Kf)
                    | (apply Hide.out hf; clear ht hf Kt Kf)
                    | (clear hK K; apply Hide.out hK; clear hK K; try with_reducible dsimp only [thenA])
                    | (clear hK K; clear hK K; apply Hide.out hK; clear hK K; try with_reducible dsimp only [thenA])
                    | (with_reducible refine APure.call (nets_spec) ?_; try simp (disch := omega) [go_sem, * ])
                    | (refine ac_block ?_)
                    | (refine ac_skip ?_; simp only [thenA, blockA])
                    | (refine ac_exit ?_; simp only [thenA, blockA, if_true])
                    | (with_reducible show nextK _ _ _ _ _ _ _; simp (disch := omega) [go_sem, *, wrap64_id, upd_ne, mk3_true, flatten_replicate_one, stepK_if, ilt_true, ilt_false, ile_true, ile_false, hst.out ])
                    | (refine wantK_split (fun hc => ?_) (fun hc => ?_) <;> (try simp only [Bool.not_eq_true', Bool.not_eq_false', Bool.not_eq_eq_eq_not, Bool.not_true, Bool.not_false, decide_eq_true_eq, decide_eq_false_iff_not, Int.not_lt, Int.not_le] at hc) <;> (try (exfalso; omega)) <;> (try simp (disch := omega) [go_sem, *, wrap64_id, upd_ne, mk3_true, flatten_replicate_one, stepK_if, ilt_true, ilt_false, ile_true, ile_false, hst.out ]))
                    | (refine ac_cond_h fun Kt Kf ht hf => ?_; simp (disch := omega) [go_sem, * ]; try (refine ⟨fun hc => ?_, fun hc => ?_⟩ <;> try (exfalso; omega))))
                  (refine ac_ret ?_; try dsimp only [thenA, blockA]; refine ⟨by simp, _, (by first | rfl | (simp (disch := omega) [go_sem, upd_ne] <;> rfl)), ?_⟩; refine ret_id ⟨fun k hk => (by first | rfl | (repeat rw [upd_ne _ _ _ _ (by omega)])), (by simp [go_sem, below]), (by simp [go_sem] <;> omega), by simp, by simp⟩)
              · skip
                (refine ac_ret ?_; try dsimp only [thenA, blockA]; refine ⟨by simp, _, (by first | rfl | (simp (disch := omega) [go_sem, upd_ne] <;> rfl)), ?_⟩; refine ret_id ⟨fun k hk => (by first | rfl | (repeat rw [upd_ne _ _ _ _ (by omega)])), (by simp [go_sem, below]), (by simp [go_sem] <;> omega), by simp, by simp⟩)
            · skip
              have hYe : (Y != 0) = true := by simpa using hYz
              clear hlo
              repeat' (first
                | (refine ac_seq_h fun K hK => ?_)
                | (refine ac_region_h fun K hK => ?_; simp (disch := omega) [go_sem, *, ilt_false, ile_true, ile_false, Try.ntmps6 ])
                | (refine ac_draw_h mixed (by kernel_rfl) fun K hK => ?_; simp (disch := omega) [go_sem, *, wrap64_id, upd_ne, mk3_true, flatten_replicate_one, stepK_if, ilt_true, ilt_false, ile_true, ile_false, Try.ntmps6 ])
                | (apply Hide.out hK; clear hK K; try with_reducible dsimp only [thenA])
                | (apply Hide.out ht; clear ht hf Kt Kf)
                | (apply Hide.out hf; clear ht hf Kt Kf)
                | (clear hK K; apply Hide.out hK; clear hK K; try with_reducible dsimp only [thenA])
                | (clear hK K; clear hK K; apply Hide.out hK; clear hK K; try with_reducible dsimp only [thenA])
                | (with_reducible refine APure.call (few_spec _) ?_; try simp (disch := omega) [go_sem, * ])
                | (with_reducible refine APure.call (nets_spec) ?_; try simp (disch := omega) [go_sem, * ])
                | (with_reducible refine APure.call (c18) ?_; try simp (disch := omega) [go_sem, * ])
                | (with_reducible refine APure.call (c27a) ?_; try simp (disch := omega) [go_sem, * ])
                | (with_reducible refine APure.call (c23) ?_; try simp (disch := omega) [go_sem, * ])
                | (with_reducible refine APure.call (c26w) ?_; try simp (disch := omega) [go_sem, * ])
                | (with_reducible refine APure.call (c26) ?_; try simp (disch := omega) [go_sem, * ])
                | (with_reducible refine APure.call (c27) ?_; try simp (disch := omega) [go_sem, * ])
                | (refine ac_block ?_)
                | (refine ac_skip ?_; simp only [thenA])
                | (refine ac_exit ?_; simp only [thenA, blockA, if_true, if_false, Nat.reduceEqDiff])
                | (with_reducible show nextK _ _ _ _ _ _ _; simp (disch := omega) [go_sem, *, wrap64_id, upd_ne, mk3_true, flatten_replicate_one, stepK_if, ilt_true, ilt_false, ile_true, ile_false, Try.ntmps6 ])
                | (refine wantK_split (fun hc => ?_) (fun hc => ?_) <;> (try simp only [Bool.not_eq_true', Bool.not_eq_false', Bool.not_eq_eq_eq_not, Bool.not_true, Bool.not_false, decide_eq_true_eq, decide_eq_false_iff_not, Int.not_lt, Int.not_le] at hc) <;> (try (exfalso; omega)) <;> (try simp (disch := omega) [go_sem, *, ilt_false ]))
                | (refine ac_cond_h fun Kt Kf ht hf => ?_; simp (disch := omega) [go_sem, * ]; try (refine ⟨fun hc => ?_, fun hc => ?_⟩ <;> try (exfalso; omega))))
              all_goals (refine ac_ret ?_; try dsimp only [thenA, blockA]; refine ⟨by simp, _, (by first | rfl | (simp (disch := omega) [go_sem, upd_ne] <;> rfl)), ?_⟩; refine ret_id ⟨fun k hk => (by first | rfl | (repeat rw [upd_ne _ _ _ _ (by omega)])), (by simp [go_sem, below]), (by simp [go_sem] <;> omega), by simp, by simp⟩)
      · skip
        repeat' (first
          | (refine ac_seq_h fun K hK => ?_)
          | (refine ac_region_h fun K hK => ?_; simp (disch := omega) [go_sem, *, Try.ntmps6 ])
          | (refine ac_draw_h mixed (by kernel_rfl) fun K hK => ?_; simp (disch := omega) [go_sem, *, wrap64_id, upd_ne, mk3_true, flatten_replicate_one, stepK_if, ilt_true, ilt_false, ile_true, ile_false, Try.ntmps6 ])
          | (apply Hide.out hK; clear hK K; try with_reducible dsimp only [thenA])
          | (apply Hide.out ht; clear ht hf Kt Kf)
          | (apply Hide.out hf; clear ht hf Kt Kf)
          | (clear hK K; apply Hide.out hK; clear hK K; try with_reducible dsimp only [thenA])
          | (clear hK K; clear hK K; apply Hide.out hK; clear hK K; try with_reducible dsimp only [thenA])
          | (with_reducible refine APure.call (few_spec _) ?_; try simp (disch := omega) [go_sem, * ])
          | (with_reducible refine APure.call (nets_spec) ?_; try simp (disch := omega) [go_sem, * ])
          | (with_reducible refine APure.call (c18) ?_; try simp (disch := omega) [go_sem, * ])
          | (refine ac_block ?_)
          | (refine ac_skip ?_; simp only [thenA])
          | (refine ac_exit ?_; simp only [thenA, blockA, if_true, if_false, Nat.reduceEqDiff])
          | (with_reducible show nextK _ _ _ _ _ _ _; simp (disch := omega) [go_sem, *, wrap64_id, upd_ne, mk3_true, flatten_replicate_one, stepK_if, ilt_true, ilt_false, ile_true, ile_false, Try.ntmps6 ])
          | (refine wantK_split (fun hc => ?_) (fun hc => ?_) <;> (try simp only [Bool.not_eq_eq_eq_not, Bool.not_true, Bool.not_false, decide_eq_true_eq, decide_eq_false_iff_not, Int.not_lt] at hc) <;> (try (exfalso; omega)) <;> (try simp (disch := omega) [go_sem, *, ilt_false, ile_true ]))
          | (refine ac_cond_h fun Kt Kf ht hf => ?_; simp (disch := omega) [go_sem, * ]; try (refine ⟨fun hc => ?_, fun hc => ?_⟩ <;> try (exfalso; omega))))
        all_goals (refine ac_ret ?_; try dsimp only [thenA, blockA]; refine ⟨by simp, _, (by first | rfl | (simp (disch := omega) [go_sem, upd_ne] <;> rfl)), ?_⟩; refine ret_id ⟨fun k hk => (by first | rfl | (repeat rw [upd_ne _ _ _ _ (by omega)])), (by simp [go_sem, below]), (by simp [go_sem] <;> omega), by simp, by simp⟩)
    · rw [eInts, if_neg hE] at c18
      have hEb : (askedE N t [s] != 0) = true := by simpa using hE
      repeat' (first
        | (refine ac_seq_h fun K hK => ?_)
        | (refine ac_region_h fun K hK => ?_; simp (disch := omega) [go_sem, *, Try.ntmps6 ])
        | (refine ac_draw_h mixed (by kernel_rfl) fun K hK => ?_; simp (disch := omega) [go_sem, *, wrap64_id, upd_ne, mk3_true, flatten_replicate_one, stepK_if, ilt_true, ilt_false, ile_true, ile_false, Try.ntmps6 ])
        | (apply Hide.out hK; clear hK K; try with_reducible dsimp only [thenA])
        | (apply Hide.out ht; clear ht hf Kt Kf)
        | (apply Hide.out hf; clear ht hf Kt Kf)
        | (clear hK K; apply Hide.out hK; clear hK K; try with_reducible dsimp only [thenA])
        | (clear hK K; clear hK K; apply Hide.out hK; clear hK K; try with_reducible dsimp only [thenA])
        | (with_reducible refine APure.call (few_spec _) ?_; try simp (disch := omega) [go_sem, * ])
        | (with_reducible refine APure.call (nets_spec) ?_; try simp (disch := omega) [go_sem, * ])
        | (with_reducible refine APure.call (c18) ?_; try simp (disch := omega) [go_sem, * ])
        | (refine ac_block ?_)
        | (refine ac_skip ?_; simp only [thenA])
        | (refine ac_exit ?_; simp only [thenA, blockA, if_true, if_false, Nat.reduceEqDiff])
        | (with_reducible show nextK _ _ _ _ _ _ _; simp (disch := omega) [go_sem, *, wrap64_id, upd_ne, mk3_true, flatten_replicate_one, stepK_if, ilt_true, ilt_false, ile_true, ile_false, Try.ntmps6 ])
        | (refine wantK_split (fun hc => ?_) (fun hc => ?_) <;> (try simp only [Bool.not_eq_true', Bool.not_eq_false', Bool.not_eq_eq_eq_not, Bool.not_true, Bool.not_false, decide_eq_true_eq, decide_eq_false_iff_not, Int.not_lt, Int.not_le] at hc) <;> (try (exfalso; omega)) <;> (try simp (disch := omega) [go_sem, *, ilt_false ]))
        | (refine ac_cond_h fun Kt Kf ht hf => ?_; simp (disch := omega) [go_sem, * ]; try (refine ⟨fun hc => ?_, fun hc => ?_⟩ <;> try (exfalso; omega))))
      all_goals (refine ac_ret ?_; try dsimp only [thenA, blockA]; refine ⟨by simp, _, (by first | rfl | (simp (disch := omega) [go_sem, upd_ne] <;> rfl)), ?_⟩; refine ret_id ⟨fun k hk => (by first | rfl | (repeat rw [upd_ne _ _ _ _ (by omega)])), (by simp [go_sem, below]), (by simp [go_sem] <;> omega), by simp, by simp⟩)
  · by_cases h50 : 50 < l.length
    · skip
      repeat' (first
        | (refine ac_seq_h fun K hK => ?_)
        | (refine ac_region_h fun K hK => ?_; simp (disch := omega) [go_sem, *, Try.ntmps6 ])
        | (refine ac_draw_h mixed (by kernel_rfl) fun K hK => ?_; simp (disch := omega) [go_sem, *, wrap64_id, upd_ne, mk3_true, flatten_replicate_one, stepK_if, ilt_true, ilt_false, ile_true, ile_false, Try.ntmps6 ])
        | (apply Hide.out hK; clear hK K; try with_reducible dsimp only [thenA])
        | (apply Hide.out ht; clear ht hf Kt Kf)
        | (apply Hide.out hf; clear ht hf Kt Kf)
        | (clear hK K; apply Hide.out hK; clear hK K; try with_reducible dsimp only [thenA])
        | (clear hK K; clear hK K; apply Hide.out hK; clear hK K; try with_reducible dsimp only [thenA])
        | (with_reducible refine APure.call (few_spec _) ?_; try simp (disch := omega) [go_sem, * ])
        | (with_reducible refine APure.call (nets_spec) ?_; try simp (disch := omega) [go_sem, * ])
        | (refine ac_block ?_)
        | (refine ac_skip ?_; simp only [thenA, blockA])
        | (refine ac_exit ?_; simp only [thenA, blockA, if_true, if_false, Nat.reduceEqDiff])
        | (with_reducible show nextK _ _ _ _ _ _ _; simp (disch := omega) [go_sem, *, wrap64_id, upd_ne, mk3_true, flatten_replicate_one, stepK_if, ilt_true, ilt_false, ile_true, ile_false, Try.ntmps6 ])
        | (refine wantK_split (fun hc => ?_) (fun hc => ?_) <;> (try simp only [Bool.not_eq_true', Bool.not_eq_false', Bool.not_eq_eq_eq_not, Bool.not_true, Bool.not_false, decide_eq_true_eq, decide_eq_false_iff_not, Int.not_lt, Int.not_le] at hc) <;> (try (exfalso; omega)) <;> (try simp (disch := omega) [go_sem, *, ilt_true ]))
        | (refine ac_cond_h fun Kt Kf ht hf => ?_; simp (disch := omega) [go_sem, * ]; try (refine ⟨fun hc => ?_, fun hc => ?_⟩ <;> try (exfalso; omega))))
      all_goals (refine ac_ret ?_; try dsimp only [thenA, blockA]; refine ⟨by simp, _, (by first | rfl | (simp (disch := omega) [go_sem, upd_ne] <;> rfl)), ?_⟩; refine ret_id ⟨fun k hk => (by first | rfl | (repeat rw [upd_ne _ _ _ _ (by omega)])), (by simp [go_sem, below]), (by simp [go_sem] <;> omega), by simp, by simp⟩)
    · have h20 : 20 < m.length := by omega
      repeat' (first
        | (refine ac_seq_h fun K hK => ?_)
        | (refine ac_region_h fun K hK => ?_; simp (disch := omega) [go_sem, *, Try.ntmps6 ])
        | (refine ac_draw_h mixed (by kernel_rfl) fun K hK => ?_; simp (disch := omega) [go_sem, *, wrap64_id, upd_ne, mk3_true, flatten_replicate_one, stepK_if, ilt_true, ilt_false, ile_true, ile_false, Try.ntmps6 ])
        | (apply Hide.out hK; clear hK K; try with_reducible dsimp only [thenA])
        | (apply Hide.out ht; clear ht hf Kt Kf)
        | (apply Hide.out hf; clear ht hf Kt Kf)
        | (clear hK K; apply Hide.out hK; clear hK K; try with_reducible dsimp only [thenA])
        | (clear hK K; clear hK K; apply Hide.out hK; clear hK K; try with_reducible dsimp only [thenA])
        | (with_reducible refine APure.call (few_spec _) ?_; try simp (disch := omega) [go_sem, * ])
        | (with_reducible refine APure.call (nets_spec) ?_; try simp (disch := omega) [go_sem, * ])
        | (refine ac_block ?_)
        | (refine ac_skip ?_; simp only [thenA, blockA])
        | (refine ac_exit ?_; simp only [thenA, blockA, if_true, if_false, Nat.reduceEqDiff])
        | (with_reducible show nextK _ _ _ _ _ _ _; simp (disch := omega) [go_sem, *, wrap64_id, upd_ne, mk3_true, flatten_replicate_one, stepK_if, ilt_true, ilt_false, ile_true, ile_false, Try.ntmps6 ])
        | (refine wantK_split (fun hc => ?_) (fun hc => ?_) <;> (try simp only [Bool.not_eq_true', Bool.not_eq_false', Bool.not_eq_eq_eq_not, Bool.not_true, Bool.not_false, decide_eq_true_eq, decide_eq_false_iff_not, Int.not_lt, Int.not_le] at hc) <;> (try (exfalso; omega)) <;> (try simp (disch := omega) [go_sem, *, ilt_true, ilt_false ]))
        | (refine ac_cond_h fun Kt Kf ht hf => ?_; simp (disch := omega) [go_sem, * ]; try (refine ⟨fun hc => ?_, fun hc => ?_⟩ <;> try (exfalso; omega))))
      all_goals (refine ac_ret ?_; try dsimp only [thenA, blockA]; refine ⟨by simp, _, (by first | rfl | (simp (disch := omega) [go_sem, upd_ne] <;> rfl)), ?_⟩; refine ret_id ⟨fun k hk => (by first | rfl | (repeat rw [upd_ne _ _ _ _ (by omega)])), (by simp [go_sem, below]), (by simp [go_sem] <;> omega), by simp, by simp⟩)
end Go.AM
