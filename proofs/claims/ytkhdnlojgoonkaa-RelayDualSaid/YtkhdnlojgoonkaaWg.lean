/- Earliest and Latest are dual; RelayDual over the abstract machine. Conditions: as each theorem says. -/
import Derived.Test.YtkhdnlojgoonkaaWf
namespace Nets
theorem leaveGo_span {delay d : Int} : ∀ {l : List Span}, leaveGo delay d l = (d, true) → ∃ s ∈ l, s.lo ≤ d ∧ d + delay ≤ s.hi
  | [], h => by simp [leaveGo] at h
  | x :: r, h => by
    simp only [leaveGo] at h
    split at h
    · simp only [Prod.mk.injEq, and_true] at h
      exact ⟨x, by simp, by omega, by omega⟩
    · obtain ⟨s, h1, h2⟩ := leaveGo_span h
      exact ⟨s, by simp [h1], h2⟩
theorem span_leaveGo {delay d : Int} (hd : 1 ≤ delay) : ∀ {l : List Span}, l.Pairwise (fun a b => a.hi < b.lo) → (∃ s ∈ l, s.lo ≤ d ∧ d + delay ≤ s.hi) → leaveGo delay d l = (d, true)
  | [], _, h => by obtain ⟨s, h, _⟩ := h; simp at h
  | x :: r, hp, ⟨s, hs, h1, h2⟩ => by
    obtain ⟨hp1, hp2⟩ := List.pairwise_cons.1 hp
    simp only [leaveGo]
    rcases List.mem_cons.1 hs with rfl | hs
    · rw [if_pos (by omega)]
      simp only [Prod.mk.injEq, and_true]; omega
    · have := hp1 s hs
      rw [if_neg (by omega)]
      exact span_leaveGo hd hp2 ⟨s, hs, h1, h2⟩
theorem lastGo_span {delay t : Int} : ∀ {l : List Span} {d : Int}, lastGo delay t l = (d, true) → ∃ s ∈ l, s.lo ≤ d ∧ d + delay ≤ s.hi
  | [], d, h => by simp [lastGo] at h
  | x :: r, d, h => by
    simp only [lastGo] at h
    split at h
    · simp only [Prod.mk.injEq, and_true] at h
      exact ⟨x, by simp, by omega, by omega⟩
    · obtain ⟨s, h1, h2⟩ := lastGo_span h
      exact ⟨s, by simp [h1], h2⟩
theorem span_lastGo {delay d t : Int} (hd : 1 ≤ delay) (ht : d + delay ≤ t) : ∀ {l : List Span}, l.Pairwise (fun a b => b.hi < a.lo) → (∃ s ∈ l, s.lo ≤ d ∧ d + delay ≤ s.hi) → ∃ d', lastGo delay t l = (d', true) ∧ d ≤ d'
  | [], _, h => by obtain ⟨s, h, _⟩ := h; simp at h
  | x :: r, hp, ⟨s, hs, h1, h2⟩ => by
    obtain ⟨hp1, hp2⟩ := List.pairwise_cons.1 hp
    simp only [lastGo]
    rcases List.mem_cons.1 hs with rfl | hs
    · rw [if_pos (by omega)]
      exact ⟨_, rfl, by omega⟩
    · have := hp1 s hs
      by_cases c : x.lo ≤ min x.hi (max t (-1)) - delay
      · rw [if_pos c]; exact ⟨_, rfl, by omega⟩
      · rw [if_neg c]; exact span_lastGo hd ht hp2 ⟨s, hs, h1, h2⟩
theorem leave_last {l : Link} (hr : right l = true) {d t : Int} (h : leave l d = (d, true)) (ht : d + l.delay ≤ t) : (last l t).2 = true ∧ d ≤ (last l t).1 := by
  unfold leave at h
  rw [if_pos hr] at h
  obtain ⟨s, h1, h2⟩ := leaveGo_span h
  obtain ⟨d', h3, h4⟩ := span_lastGo (right_spans hr).1 ht (List.pairwise_reverse.2 (right_sorted hr)) ⟨s, by simpa using h1, h2⟩
  unfold last
  rw [if_pos hr, h3]; exact ⟨rfl, h4⟩
theorem last_leave {l : Link} (hr : right l = true) {t : Int} (h : (last l t).2 = true) : leave l (last l t).1 = ((last l t).1, true) := by
  unfold last at h ⊢
  rw [if_pos hr] at h ⊢
  obtain ⟨s, h1, h2⟩ := lastGo_span (delay := l.delay) (t := t) (l := l.opn.reverse) (d := (lastGo l.delay t l.opn.reverse).1) (Prod.ext rfl h)
  unfold leave
  rw [if_pos hr]
  exact span_leaveGo (right_spans hr).1 (right_sorted hr) ⟨s, by simpa using h1, h2⟩
section
variable {N : Net} {s to t u : Int} {a b : List Int}
theorem dual_to (hok : ∀ l ∈ N.links, LOk (N.st.toNat : Nat) l) (Fa : Fix kE N.st.toNat (N.links.map eE) s t a) (Fb : Fix kL N.st.toNat (N.links.map eL) to u b) (hv : Vals b) :
    ∀ (f : Nat) (v : Int), 0 ≤ v → v < N.st.toNat → 0 ≤ at' a v → at' a v ≤ at' b v → (1048576 - at' b v).toNat < f → 0 ≤ at' a to ∧ at' a to ≤ u
  | 0, v, _, _, _, _, h => by omega
  | f + 1, v, v0, v1, h0, h1, h2 => by
    by_cases hvt : v = to
    · subst hvt; rw [← Fb.start]; exact ⟨h0, h1⟩
    · obtain ⟨e, he, e1, e2, e3⟩ := Fb.supp v v0 v1 hvt (by omega)
      obtain ⟨l, hl, rfl⟩ := List.mem_map.1 he
      have hlm := hok l hl
      have e1 : l.fr = v := e1
      have e2 : 0 ≤ at' b l.to := e2
      have hd := (right_spans hlm.ok).1
      simp only [eL] at e3
      split at e3
      · rename_i h3
        simp only [Option.some.injEq] at e3
        have h4 := last_leave hlm.ok h3
        obtain ⟨h5, h6⟩ := last_le hlm.ok h3
        rw [e3] at h4 h5 h6
        obtain ⟨h7, h8⟩ := leave_mono hlm.ok h1 (by rw [h4])
        rw [h4] at h8
        have h9 := Fa.closed (eE l) (List.mem_map.2 ⟨l, hl, rfl⟩) (show 0 ≤ at' a l.fr by rw [e1]; exact h0) ((leave l (at' a l.fr)).1 + l.delay) (by rw [e1]; simp [eE, e1, h7])
        have h9 : 0 ≤ at' a l.to ∧ at' a l.to ≤ (leave l (at' a l.fr)).1 + l.delay := h9
        rw [e1] at h9
        have hbl := hv.at hlm.to0 (show l.to < b.length by rw [Fb.len]; exact hlm.to1)
        exact dual_to hok Fa Fb hv f l.to hlm.to0 hlm.to1 h9.1 (by simp only at h8; omega) (by omega)
      · cases e3
theorem dual_from (hok : ∀ l ∈ N.links, LOk (N.st.toNat : Nat) l) (Fa : Fix kE N.st.toNat (N.links.map eE) s t a) (Fb : Fix kL N.st.toNat (N.links.map eL) to u b) :
    ∀ (f : Nat) (v : Int), 0 ≤ v → v < N.st.toNat → 0 ≤ at' a v → at' a v ≤ at' b v → (at' a v).toNat < f → t ≤ at' b s
  | 0, v, _, _, _, _, h => by omega
  | f + 1, v, v0, v1, h0, h1, h2 => by
    by_cases hvs : v = s
    · subst hvs; rw [← Fa.start]; exact h1
    · obtain ⟨e, he, e1, e2, e3⟩ := Fa.supp v v0 v1 hvs h0
      obtain ⟨l, hl, rfl⟩ := List.mem_map.1 he
      have hlm := hok l hl
      have e1 : l.to = v := e1
      have e2 : 0 ≤ at' a l.fr := e2
      have hd := (right_spans hlm.ok).1
      simp only [eE] at e3
      split at e3
      · rename_i h3
        simp only [Option.some.injEq] at e3
        have h4 := leave_idem h3
        obtain ⟨_, h5, _⟩ := leave_bounds h3
        obtain ⟨h6, h7⟩ := leave_last hlm.ok h4 (t := at' b v) (by omega)
        have h9 := Fb.closed (eL l) (List.mem_map.2 ⟨l, hl, rfl⟩) (show 0 ≤ at' b l.to by rw [e1]; omega) (last l (at' b l.to)).1 (by rw [e1]; simp [eL, e1, h6])
        have h9 : 0 ≤ at' b l.fr ∧ - at' b l.fr ≤ - (last l (at' b l.to)).1 := h9
        rw [e1] at h9
        exact dual_from hok Fa Fb f l.fr hlm.fr0 hlm.fr1 e2 (by omega) (by omega)
      · cases e3
end
theorem dual {N : Net} {s to t u : Int} (hC : checkE N = 0) (h0 : 0 ≤ s) (h1 : s < N.st) (k0 : 0 ≤ to) (k1 : to < N.st) (t0 : 0 ≤ t) (t1 : t ≤ 1048576) (u0 : 0 ≤ u) (u1 : u ≤ 1048576) :
    (0 ≤ at' (arrP N s t).out to ∧ at' (arrP N s t).out to ≤ u) ↔ t ≤ at' (lateP N to u).out s := by
  obtain ⟨s1, s2, _, hok⟩ := checkE_ok hC
  have hst : ((N.st.toNat : Nat) : Int) = N.st := by omega
  have hl : ∀ l ∈ N.links, LOk (N.st.toNat : Nat) l := fun l hl => by rw [hst]; exact hok l hl
  have Fa := arrP_fix hC h0 h1 t0 t1
  have Fb := lateP_fix hC k0 k1 u0 u1
  have hv := (lateP_spec hC k0 k1 u0 u1).1.ok.vals
  constructor
  · rintro ⟨p1, p2⟩
    exact dual_from hl Fa Fb _ to k0 (by omega) p1 (by rw [Fb.start]; exact p2) (Nat.lt_succ_self _)
  · intro p
    exact dual_to hl Fa Fb hv _ s h0 (by omega) (by rw [Fa.start]; exact t0) (by rw [Fa.start]; exact p) (Nat.lt_succ_self _)
theorem later {N : Net} {s t t' : Int} (hC : checkE N = 0) (h0 : 0 ≤ s) (h1 : s < N.st) (t0 : 0 ≤ t) (htt : t ≤ t') (t1 : t' ≤ 1048576) {v : Int} (v0 : 0 ≤ v) (v1 : v < N.st) (hv : 0 ≤ at' (arrP N s t').out v) : 0 ≤ at' (arrP N s t).out v ∧ at' (arrP N s t).out v ≤ at' (arrP N s t').out v := by
  have hb := arr_bounds hC h0 h1 t0 (show t ≤ 1048576 by omega)
  obtain ⟨_, _, b0, b1, hc⟩ := cbE_zero hb
  obtain ⟨_, _, _, hok⟩ := checkE_ok hC
  exact cw_bound hok hc _ s t' _ _ b0 (by omega) (wayP_ok hC h0 h1 v0 v1 (by omega) t1 hv).2
end Nets

namespace Go.AM
open Go.Proofs Nets
set_option maxRecDepth 10000
set_option maxHeartbeats 4000000
theorem relayDual_spec (N : Net) (s to t m u : Int) (m0 : 0 ≤ m) (m1 : m < 65536) :
    APure Try.prog 7 [encNet N, iv .i64 s, iv .i64 to, iv .i64 t, iv .u16 m, iv .i64 u] (bv true) := by
  intro h n
  refine ACalls.pure (ACalls.entry (by kernel_rfl) fun hb _ => calls_of Try.func7 rfl (by kernel_rfl) (by simp [Try.ntmps7]) ?_)
  have c18 := earliest_spec N s t
  have c20 := latest_spec N to u
  have c18b := earliest_spec N s (t + m)
  by_cases hE : askedE N t [s] = 0
  · by_cases hF : askedE N u [to] = 0
    · obtain ⟨hC, hs, ht1, ht2⟩ := asked_zero hE
      obtain ⟨hs1, hs2⟩ := hs s (by simp)
      obtain ⟨_, hs', hu1, hu2⟩ := asked_zero hF
      obtain ⟨k0, k1⟩ := hs' to (by simp)
      obtain ⟨st1, st2, hll, hok⟩ := checkE_ok hC
      replace hok : Hide _ := hok
      rw [hE, eInts_zero] at c18
      rw [hF, eInts_zero] at c20
      clear hs hs'
      have hla := (arrP_spec hC hs1 hs2 ht1 ht2).1.ok.lo
      have hlb := (lateP_spec hC k0 k1 hu1 hu2).1.ok.lo
      have hD := dual hC hs1 hs2 k0 k1 ht1 ht2 hu1 hu2
      have hL : t + m ≤ 1048576 → ∀ v : Int, 0 ≤ v → v < N.st → 0 ≤ at' (arrP N s (t + m)).out v → 0 ≤ at' (arrP N s t).out v ∧ at' (arrP N s t).out v ≤ at' (arrP N s (t + m)).out v := fun h1 v v0 v1 hv => later hC hs1 hs2 ht1 (by omega) h1 v0 v1 hv
      have hlc : t + m ≤ 1048576 → (arrP N s (t + m)).out.length = N.st.toNat := fun h1 => (arrP_spec hC hs1 hs2 (by omega) h1).1.ok.lo
      have hgE : askedE N (t + m) [s] = 0 → t + m ≤ 1048576 := fun e => (asked_zero e).2.2.2
      generalize hA : (arrP N s t).out = A at *
      generalize hB : (lateP N to u).out = B at *
      generalize hCC : (arrP N s (t + m)).out = C at *
      clear hA hB hCC
      have hgt := at_get' (o := A) to
      have hgt2 : A[to.toNat]? = some (at' A to) := at_get k0 (by omega)
      have htol : to.toNat < A.length := by omega
      have hgs := at_get' (o := B) s
      have hgs2 : B[s.toNat]? = some (at' B s) := at_get hs1 (by omega)
      have hsl : s.toNat < B.length := by omega
      have hAl : ((A.length : Int) != N.st) = false := by simp; omega
      have hBl : ((B.length : Int) != N.st) = false := by simp; omega
      by_cases hG : askedE N (t + m) [s] = 0
      · have hlc := hlc (hgE hG)
        have hL := hL (hgE hG)
        rw [hG, eInts_zero] at c18b
        obtain ⟨st, hst⟩ : ∃ st : Nat, N.st = st := ⟨N.st.toNat, by omega⟩
        have hCl : ((C.length : Int) != N.st) = false := by simp; omega
        have hAs : A.length = st := by omega
        have hCs : C.length = st := by omega
        have hst1 : (st : Int) ≤ 10 := by omega
        replace hL : Hide _ := hL
        replace hD : Hide _ := hD
        replace hgE : Hide _ := hgE
        have htolI : to < A.length := by omega
        have hslI : s < B.length := by omega
        replace hst : Hide _ := hst
        replace hAs : Hide _ := hAs
        replace hCs : Hide _ := hCs
        clear hla hlb hlc
        repeat' (first
          | (refine ac_seq_h fun K hK => ?_)
          | (refine ac_region_h fun K hK => ?_; simp (disch := omega) [go_sem, *, wrap64_id, Try.ntmps7 ])
          | (refine ac_draw_h mixed (by kernel_rfl) fun K hK => ?_; simp (disch := omega) [go_sem, *, wrap64_id, upd_ne, mk3_true, flatten_replicate_one, stepK_if, ilt_true, ilt_false, ile_true, ile_false, Try.ntmps7 ])
          | (apply Hide.out hK; clear hK K; try with_reducible dsimp only [thenA])
          | (apply Hide.out ht; clear ht hf Kt Kf)
          | (apply Hide.out hf; clear ht hf Kt Kf)
          | (clear hK K; apply Hide.out hK; clear hK K; try with_reducible dsimp only [thenA])
          | (clear hK K; clear hK K; apply Hide.out hK; clear hK K; try with_reducible dsimp only [thenA])
          | (with_reducible refine APure.call (few_spec _) ?_; try simp (disch := omega) [go_sem, * ])
          | (with_reducible refine APure.call (nets_spec) ?_; try simp (disch := omega) [go_sem, * ])
          | (with_reducible refine APure.call (c18) ?_; try simp (disch := omega) [go_sem, * ])
          | (with_reducible refine APure.call (c20) ?_; try simp (disch := omega) [go_sem, * ])
          | (with_reducible refine APure.call (c18b) ?_; try simp (disch := omega) [go_sem, * ])
          | (refine ac_block ?_)
          | (refine ac_skip ?_; simp only [thenA])
          | (refine ac_exit ?_; simp only [thenA, blockA, if_true, if_false, Nat.reduceEqDiff])
          | (with_reducible show nextK _ _ _ _ _ _ _; simp (disch := omega) [go_sem, *, wrap64_id, upd_ne, mk3_true, flatten_replicate_one, stepK_if, ilt_true, ilt_false, ile_true, ile_false, Try.ntmps7 ])
          | (refine wantK_split (fun hc => ?_) (fun hc => ?_) <;> (try simp only [Bool.not_eq_true', Bool.not_eq_false', Bool.not_eq_eq_eq_not, Bool.not_true, Bool.not_false, decide_eq_true_eq, decide_eq_false_iff_not, Int.not_lt, Int.not_le] at hc) <;> (try (exfalso; omega)) <;> (try simp (disch := omega) [go_sem, *, wrap64_id, upd_ne, mk3_true, flatten_replicate_one, stepK_if, ilt_true, ilt_false, ile_true, ile_false, Try.ntmps7 ]))
          | (refine ac_cond_h fun Kt Kf ht hf => ?_; simp (disch := omega) [go_sem, * ]; try (refine ⟨fun hc => ?_, fun hc => ?_⟩ <;> try (exfalso; omega))))
        · skip
          (refine ac_ret ?_; try dsimp only [thenA, blockA]; refine ⟨by simp, _, (by first | rfl | (simp (disch := omega) [go_sem, upd_ne] <;> rfl)), ?_⟩; refine ret_id ⟨fun k hk => (by first | rfl | (repeat rw [upd_ne _ _ _ _ (by omega)])), (by simp [go_sem, below]), (by simp [go_sem] <;> omega), by simp, by simp⟩)
        · refine ac_loop_wk (fun s' => ∃ (k n' : Nat), n < n' ∧ k ≤ st ∧ s' = ⟨132, [(1, iv .i64 s), (2, iv .i64 to), (3, iv .i64 t), (5, iv .i64 u), (6, .ptr n 0), (13, .fslc false false 1 (A.map (iv .i64))), (15, .fslc false false 1 (B.map (iv .i64))), (17, .fslc false false 1 (C.map (iv .i64))), (19, iv .i64 k)], h.upd n (some (cellsNet N)), n'⟩)
              (fun s' => st - (intAt s' 19).toNat) ?_ ?_
          · exact loop_start (by simp [go_sem]) (Sub.refl _) ⟨0, _, by omega, by omega, rfl⟩
          · rintro s' ⟨k, n', hn', hk, rfl⟩
            have hb' : NB (h.upd n (some (cellsNet N))) n' := hb.nb.upd hn' (by omega)
            replace hb' : Hide _ := hb'
            have hsto := hst.out
            have hAso := hAs.out
            have hCso := hCs.out
            by_cases hlt : k < st
            · have hkA : k < A.length := by omega
              have hkC : k < C.length := by omega
              have hkS : (k : Int) < N.st := by omega
              obtain ⟨x, hx1, hx2, _⟩ := at_k hkC
              obtain ⟨y, hy1, hy2, _⟩ := at_k hkA
              have hxy : 0 ≤ x → 0 ≤ y ∧ y ≤ x := by
                have := hL.out k (by omega) (by omega)
                have e1 : at' C k = x := by simp [at', hx2]
                have e2 : at' A k = y := by simp [at', hy2]
                rwa [e1, e2] at this
              clear hsto hAso hCso
              by_cases hx0 : 0 ≤ x
              · obtain ⟨hy0, hyx⟩ := hxy hx0
                repeat' (first
                  | (refine ac_seq_h fun K hK => ?_)
                  | (refine ac_region_h fun K hK => ?_; simp (disch := omega) [go_sem, *, wrap64_id])
                  | (refine ac_draw_h mixed (by kernel_rfl) fun K hK => ?_; simp (disch := omega) [go_sem, *, ilt_false, ile_true])
                  | (apply Hide.out hK; clear hK K; try with_reducible dsimp only [thenA])
                  | (apply Hide.out ht; clear ht hf Kt Kf)
                  | (apply Hide.out hf; clear ht hf Kt Kf)
                  | (clear hK K; apply Hide.out hK; clear hK K; try with_reducible dsimp only [thenA])
                  | (clear hK K; clear hK K; apply Hide.out hK; clear hK K; try with_reducible dsimp only [thenA])
                  | (refine ac_block ?_)
                  | (refine ac_skip ?_; simp only [thenA, blockA])
                  | (refine ac_exit ?_; simp only [thenA, blockA, if_true, if_false, Nat.reduceEqDiff])
                  | (with_reducible show nextK _ _ _ _ _ _ _; simp (disch := omega) [go_sem, *, wrap64_id, upd_ne, mk3_true, flatten_replicate_one, stepK_if, ilt_true, ilt_false, ile_true, ile_false])
                  | (refine wantK_split (fun hc => ?_) (fun hc => ?_) <;> (try simp only [Bool.not_eq_true', Bool.not_eq_false', Bool.not_eq_eq_eq_not, Bool.not_true, Bool.not_false, decide_eq_true_eq, decide_eq_false_iff_not, Int.not_lt, Int.not_le] at hc) <;> (try (exfalso; omega)) <;> (try simp (disch := omega) [go_sem, *, wrap64_id, upd_ne, mk3_true, flatten_replicate_one, stepK_if, ilt_true, ilt_false, ile_true, ile_false]))
                  | (refine ac_cond_h fun Kt Kf ht hf => ?_; simp (disch := omega) [go_sem, *]; try (refine ⟨fun hc => ?_, fun hc => ?_⟩ <;> try (exfalso; omega))))
                exact round_end (by simp [go_sem]) (Sub.refl _) ⟨k + 1, _, by omega, by omega, rfl⟩ (by simp [intAt, go_sem]; omega)
              · clear hxy
                repeat' (first
                  | (refine ac_seq_h fun K hK => ?_)
                  | (refine ac_region_h fun K hK => ?_; simp (disch := omega) [go_sem, *, wrap64_id])
                  | (refine ac_draw_h mixed (by kernel_rfl) fun K hK => ?_; simp (disch := omega) [go_sem, *, ile_true])
                  | (apply Hide.out hK; clear hK K; try with_reducible dsimp only [thenA])
                  | (apply Hide.out ht; clear ht hf Kt Kf)
                  | (apply Hide.out hf; clear ht hf Kt Kf)
                  | (clear hK K; apply Hide.out hK; clear hK K; try with_reducible dsimp only [thenA])
                  | (clear hK K; clear hK K; apply Hide.out hK; clear hK K; try with_reducible dsimp only [thenA])
                  | (refine ac_block ?_)
                  | (refine ac_skip ?_; simp only [thenA, blockA])
                  | (refine ac_exit ?_; simp only [thenA, blockA, if_true, if_false, Nat.reduceEqDiff])
                  | (with_reducible show nextK _ _ _ _ _ _ _; simp (disch := omega) [go_sem, *, wrap64_id, upd_ne, mk3_true, flatten_replicate_one, stepK_if, ilt_true, ilt_false, ile_true, ile_false])
                  | (refine wantK_split (fun hc => ?_) (fun hc => ?_) <;> (try simp only [Bool.not_eq_true', Bool.not_eq_false', Bool.not_eq_eq_eq_not, Bool.not_true, Bool.not_false, decide_eq_true_eq, decide_eq_false_iff_not, Int.not_lt, Int.not_le] at hc) <;> (try (exfalso; omega)) <;> (try simp (disch := omega) [go_sem, *, wrap64_id, upd_ne, mk3_true, flatten_replicate_one, stepK_if, ilt_true, ilt_false, ile_true, ile_false]))
                  | (refine ac_cond_h fun Kt Kf ht hf => ?_; simp (disch := omega) [go_sem, *]; try (refine ⟨fun hc => ?_, fun hc => ?_⟩ <;> try (exfalso; omega))))
                exact round_end (by simp [go_sem]) (Sub.refl _) ⟨k + 1, _, by omega, by omega, rfl⟩ (by simp [intAt, go_sem]; omega)
            · have hkS : N.st ≤ (k : Int) := by omega
              clear hsto hAso hCso hlt
              by_cases p : t ≤ at' B s
              · obtain ⟨p1, p2⟩ := hD.out.2 p
                repeat' (first
                  | (refine ac_seq_h fun K hK => ?_)
                  | (refine ac_region_h fun K hK => ?_; simp (disch := omega) [go_sem, *, ilt_false])
                  | (refine ac_draw_h mixed (by kernel_rfl) fun K hK => ?_; simp (disch := omega) [go_sem, *])
                  | (apply Hide.out hK; clear hK K; try with_reducible dsimp only [thenA])
                  | (apply Hide.out ht; clear ht hf Kt Kf)
                  | (apply Hide.out hf; clear ht hf Kt Kf)
                  | (clear hK K; apply Hide.out hK; clear hK K; try with_reducible dsimp only [thenA])
                  | (clear hK K; clear hK K; apply Hide.out hK; clear hK K; try with_reducible dsimp only [thenA])
                  | (with_reducible refine APure.call (nets_spec) ?_; try simp (disch := omega) [go_sem, *])
                  | (refine ac_block ?_)
                  | (refine ac_skip ?_; simp only [thenA, blockA])
                  | (refine ac_exit ?_; simp only [thenA, blockA, if_true])
                  | (with_reducible show nextK _ _ _ _ _ _ _; simp (disch := omega) [go_sem, *, wrap64_id, upd_ne, mk3_true, flatten_replicate_one, stepK_if, ilt_true, ilt_false, ile_true, ile_false])
                  | (refine wantK_split (fun hc => ?_) (fun hc => ?_) <;> (try simp only [Bool.not_eq_true', Bool.not_eq_false', Bool.not_eq_eq_eq_not, Bool.not_true, Bool.not_false, decide_eq_true_eq, decide_eq_false_iff_not, Int.not_lt, Int.not_le] at hc) <;> (try (exfalso; omega)) <;> (try simp (disch := omega) [go_sem, *, wrap64_id, upd_ne, mk3_true, flatten_replicate_one, stepK_if, ilt_true, ilt_false, ile_true, ile_false]))
                  | (refine ac_cond_h fun Kt Kf ht hf => ?_; simp (disch := omega) [go_sem, *]; try (refine ⟨fun hc => ?_, fun hc => ?_⟩ <;> try (exfalso; omega))))
                (refine ac_ret ?_; try dsimp only [thenA, blockA]; refine ⟨by simp, _, (by first | rfl | (simp (disch := omega) [go_sem, upd_ne] <;> rfl)), ?_⟩; refine ret_id ⟨fun k hk => (by first | rfl | (repeat rw [upd_ne _ _ _ _ (by omega)])), (by simp [go_sem, below]), (by simp [go_sem] <;> omega), by simp, by simp⟩)
              · by_cases p1 : 0 ≤ at' A to
                · have p2 : ¬ at' A to ≤ u := fun e => p (hD.out.1 ⟨p1, e⟩)
                  repeat' (first
                    | (refine ac_seq_h fun K hK => ?_)
                    | (refine ac_region_h fun K hK => ?_; simp (disch := omega) [go_sem, *, ilt_false])
                    | (refine ac_draw_h mixed (by kernel_rfl) fun K hK => ?_; simp (disch := omega) [go_sem, *])
                    | (apply Hide.out hK; clear hK K; try with_reducible dsimp only [thenA])
                    | (apply Hide.out ht; clear ht hf Kt Kf)
                    | (apply Hide.out hf; clear ht hf Kt Kf)
                    | (clear hK K; apply Hide.out hK; clear hK K; try with_reducible dsimp only [thenA])
                    | (clear hK K; clear hK K; apply Hide.out hK; clear hK K; try with_reducible dsimp only [thenA])
                    | (with_reducible refine APure.call (nets_spec) ?_; try simp (disch := omega) [go_sem, *])
                    | (refine ac_block ?_)
                    | (refine ac_skip ?_; simp only [thenA, blockA])
                    | (refine ac_exit ?_; simp only [thenA, blockA, if_true])
                    | (with_reducible show nextK _ _ _ _ _ _ _; simp (disch := omega) [go_sem, *, wrap64_id, upd_ne, mk3_true, flatten_replicate_one, stepK_if, ilt_true, ilt_false, ile_true, ile_false])
                    | (refine wantK_split (fun hc => ?_) (fun hc => ?_) <;> (try simp only [Bool.not_eq_true', Bool.not_eq_false', Bool.not_eq_eq_eq_not, Bool.not_true, Bool.not_false, decide_eq_true_eq, decide_eq_false_iff_not, Int.not_lt, Int.not_le] at hc) <;> (try (exfalso; omega)) <;> (try simp (disch := omega) [go_sem, *, wrap64_id, upd_ne, mk3_true, flatten_replicate_one, stepK_if, ilt_true, ilt_false, ile_true, ile_false]))
                    | (refine ac_cond_h fun Kt Kf ht hf => ?_; simp (disch := omega) [go_sem, *]; try (refine ⟨fun hc => ?_, fun hc => ?_⟩ <;> try (exfalso; omega))))
                  (refine ac_ret ?_; try dsimp only [thenA, blockA]; refine ⟨by simp, _, (by first | rfl | (simp (disch := omega) [go_sem, upd_ne] <;> rfl)), ?_⟩; refine ret_id ⟨fun k hk => (by first | rfl | (repeat rw [upd_ne _ _ _ _ (by omega)])), (by simp [go_sem, below]), (by simp [go_sem] <;> omega), by simp, by simp⟩)
                · skip
                  repeat' (first
                    | (refine ac_seq_h fun K hK => ?_)
                    | (refine ac_region_h fun K hK => ?_; simp (disch := omega) [go_sem, *, ilt_false])
                    | (refine ac_draw_h mixed (by kernel_rfl) fun K hK => ?_; simp (disch := omega) [go_sem, *])
                    | (apply Hide.out hK; clear hK K; try with_reducible dsimp only [thenA])
                    | (apply Hide.out ht; clear ht hf Kt Kf)
                    | (apply Hide.out hf; clear ht hf Kt Kf)
                    | (clear hK K; apply Hide.out hK; clear hK K; try with_reducible dsimp only [thenA])
                    | (clear hK K; clear hK K; apply Hide.out hK; clear hK K; try with_reducible dsimp only [thenA])
                    | (with_reducible refine APure.call (nets_spec) ?_; try simp (disch := omega) [go_sem, *])
                    | (refine ac_block ?_)
                    | (refine ac_skip ?_; simp only [thenA, blockA])
                    | (refine ac_exit ?_; simp only [thenA, blockA, if_true])
                    | (with_reducible show nextK _ _ _ _ _ _ _; simp (disch := omega) [go_sem, *, wrap64_id, upd_ne, mk3_true, flatten_replicate_one, stepK_if, ilt_true, ilt_false, ile_true, ile_false])
                    | (refine wantK_split (fun hc => ?_) (fun hc => ?_) <;> (try simp only [Bool.not_eq_true', Bool.not_eq_false', Bool.not_eq_eq_eq_not, Bool.not_true, Bool.not_false, decide_eq_true_eq, decide_eq_false_iff_not, Int.not_lt, Int.not_le] at hc) <;> (try (exfalso; omega)) <;> (try simp (disch := omega) [go_sem, *, wrap64_id, upd_ne, mk3_true, flatten_replicate_one, stepK_if, ilt_true, ilt_false, ile_true, ile_false]))
                    | (refine ac_cond_h fun Kt Kf ht hf => ?_; simp (disch := omega) [go_sem, *]; try (refine ⟨fun hc => ?_, fun hc => ?_⟩ <;> try (exfalso; omega))))
                  (refine ac_ret ?_; try dsimp only [thenA, blockA]; refine ⟨by simp, _, (by first | rfl | (simp (disch := omega) [go_sem, upd_ne] <;> rfl)), ?_⟩; refine ret_id ⟨fun k hk => (by first | rfl | (repeat rw [upd_ne _ _ _ _ (by omega)])), (by simp [go_sem, below]), (by simp [go_sem] <;> omega), by simp, by simp⟩)
      · rw [eInts, if_neg hG] at c18b
        generalize askedE N (t + m) [s] = E at *
        have hGe : (E == 0) = false := by simpa using hG
        have hGn : (E != 0) = true := by simpa using hG
        have hL : True := trivial
        have hgE : True := trivial
        replace hD : Hide _ := hD
        have htolI : to < A.length := by omega
        have hslI : s < B.length := by omega
        clear hla hlb hlc
        by_cases p : t ≤ at' B s
        · obtain ⟨p1, p2⟩ := hD.out.2 p
          repeat' (first
            | (refine ac_seq_h fun K hK => ?_)
            | (refine ac_region_h fun K hK => ?_; simp (disch := omega) [go_sem, *, wrap64_id, Try.ntmps7 ])
            | (refine ac_draw_h mixed (by kernel_rfl) fun K hK => ?_; simp (disch := omega) [go_sem, * ])
            | (apply Hide.out hK; clear hK K; try with_reducible dsimp only [thenA])
            | (apply Hide.out ht; clear ht hf Kt Kf)
            | (apply Hide.out hf; clear ht hf Kt Kf)
            | (clear hK K; apply Hide.out hK; clear hK K; try with_reducible dsimp only [thenA])
            | (clear hK K; clear hK K; apply Hide.out hK; clear hK K; try with_reducible dsimp only [thenA])
            | (with_reducible refine APure.call (few_spec _) ?_; try simp (disch := omega) [go_sem, * ])
            | (with_reducible refine APure.call (nets_spec) ?_; try simp (disch := omega) [go_sem, * ])
            | (with_reducible refine APure.call (c18) ?_; try simp (disch := omega) [go_sem, * ])
            | (with_reducible refine APure.call (c20) ?_; try simp (disch := omega) [go_sem, * ])
            | (with_reducible refine APure.call (c18b) ?_; try simp (disch := omega) [go_sem, * ])
            | (refine ac_block ?_)
            | (refine ac_skip ?_; simp only [thenA])
            | (refine ac_exit ?_; simp only [thenA, blockA, if_true, if_false, Nat.reduceEqDiff])
            | (with_reducible show nextK _ _ _ _ _ _ _; simp (disch := omega) [go_sem, *, wrap64_id, upd_ne, mk3_true, flatten_replicate_one, stepK_if, ilt_true, ilt_false, ile_true, ile_false, Try.ntmps7 ])
            | (refine wantK_split (fun hc => ?_) (fun hc => ?_) <;> (try simp only [Bool.not_eq_true', Bool.not_eq_false', Bool.not_eq_eq_eq_not, Bool.not_true, Bool.not_false, decide_eq_true_eq, decide_eq_false_iff_not, Int.not_lt, Int.not_le] at hc) <;> (try (exfalso; omega)) <;> (try simp (disch := omega) [go_sem, *, wrap64_id, upd_ne, mk3_true, flatten_replicate_one, stepK_if, ilt_true, ilt_false, ile_true, ile_false, Try.ntmps7 ]))
            | (refine ac_cond_h fun Kt Kf ht hf => ?_; simp (disch := omega) [go_sem, * ]; try (refine ⟨fun hc => ?_, fun hc => ?_⟩ <;> try (exfalso; omega))))
          all_goals (refine ac_ret ?_; try dsimp only [thenA, blockA]; refine ⟨by simp, _, (by first | rfl | (simp (disch := omega) [go_sem, upd_ne] <;> rfl)), ?_⟩; refine ret_id ⟨fun k hk => (by first | rfl | (repeat rw [upd_ne _ _ _ _ (by omega)])), (by simp [go_sem, below]), (by simp [go_sem] <;> omega), by simp, by simp⟩)
        · by_cases p1 : 0 ≤ at' A to
          · have p2 : ¬ at' A to ≤ u := fun e => p (hD.out.1 ⟨p1, e⟩)
            repeat' (first
              | (refine ac_seq_h fun K hK => ?_)
              | (refine ac_region_h fun K hK => ?_; simp (disch := omega) [go_sem, *, wrap64_id, Try.ntmps7 ])
              | (refine ac_draw_h mixed (by kernel_rfl) fun K hK => ?_; simp (disch := omega) [go_sem, * ])
              | (apply Hide.out hK; clear hK K; try with_reducible dsimp only [thenA])
              | (apply Hide.out ht; clear ht hf Kt Kf)
              | (apply Hide.out hf; clear ht hf Kt Kf)
              | (clear hK K; apply Hide.out hK; clear hK K; try with_reducible dsimp only [thenA])
              | (clear hK K; clear hK K; apply Hide.out hK; clear hK K; try with_reducible dsimp only [thenA])
              | (with_reducible refine APure.call (few_spec _) ?_; try simp (disch := omega) [go_sem, * ])
              | (with_reducible refine APure.call (nets_spec) ?_; try simp (disch := omega) [go_sem, * ])
              | (with_reducible refine APure.call (c18) ?_; try simp (disch := omega) [go_sem, * ])
              | (with_reducible refine APure.call (c20) ?_; try simp (disch := omega) [go_sem, * ])
              | (with_reducible refine APure.call (c18b) ?_; try simp (disch := omega) [go_sem, * ])
              | (refine ac_block ?_)
              | (refine ac_skip ?_; simp only [thenA])
              | (refine ac_exit ?_; simp only [thenA, blockA, if_true, if_false, Nat.reduceEqDiff])
              | (with_reducible show nextK _ _ _ _ _ _ _; simp (disch := omega) [go_sem, *, wrap64_id, upd_ne, mk3_true, flatten_replicate_one, stepK_if, ilt_true, ilt_false, ile_true, ile_false, Try.ntmps7 ])
              | (refine wantK_split (fun hc => ?_) (fun hc => ?_) <;> (try simp only [Bool.not_eq_true', Bool.not_eq_false', Bool.not_eq_eq_eq_not, Bool.not_true, Bool.not_false, decide_eq_true_eq, decide_eq_false_iff_not, Int.not_lt, Int.not_le] at hc) <;> (try (exfalso; omega)) <;> (try simp (disch := omega) [go_sem, *, wrap64_id, upd_ne, mk3_true, flatten_replicate_one, stepK_if, ilt_true, ilt_false, ile_true, ile_false, Try.ntmps7 ]))
              | (refine ac_cond_h fun Kt Kf ht hf => ?_; simp (disch := omega) [go_sem, * ]; try (refine ⟨fun hc => ?_, fun hc => ?_⟩ <;> try (exfalso; omega))))
            all_goals (refine ac_ret ?_; try dsimp only [thenA, blockA]; refine ⟨by simp, _, (by first | rfl | (simp (disch := omega) [go_sem, upd_ne] <;> rfl)), ?_⟩; refine ret_id ⟨fun k hk => (by first | rfl | (repeat rw [upd_ne _ _ _ _ (by omega)])), (by simp [go_sem, below]), (by simp [go_sem] <;> omega), by simp, by simp⟩)
          · skip
            repeat' (first
              | (refine ac_seq_h fun K hK => ?_)
              | (refine ac_region_h fun K hK => ?_; simp (disch := omega) [go_sem, *, wrap64_id, Try.ntmps7 ])
              | (refine ac_draw_h mixed (by kernel_rfl) fun K hK => ?_; simp (disch := omega) [go_sem, * ])
              | (apply Hide.out hK; clear hK K; try with_reducible dsimp only [thenA])
              | (apply Hide.out ht; clear ht hf Kt Kf)
              | (apply Hide.out hf; clear ht hf Kt Kf)
              | (clear hK K; apply Hide.out hK; clear hK K; try with_reducible dsimp only [thenA])
              | (clear hK K; clear hK K; apply Hide.out hK; clear hK K; try with_reducible dsimp only [thenA])
              | (with_reducible refine APure.call (few_spec _) ?_; try simp (disch := omega) [go_sem, * ])
              | (with_reducible refine APure.call (nets_spec) ?_; try simp (disch := omega) [go_sem, * ])
              | (with_reducible refine APure.call (c18) ?_; try simp (disch := omega) [go_sem, * ])
              | (with_reducible refine APure.call (c20) ?_; try simp (disch := omega) [go_sem, * ])
              | (with_reducible refine APure.call (c18b) ?_; try simp (disch := omega) [go_sem, * ])
              | (refine ac_block ?_)
              | (refine ac_skip ?_; simp only [thenA])
              | (refine ac_exit ?_; simp only [thenA, blockA, if_true, if_false, Nat.reduceEqDiff])
              | (with_reducible show nextK _ _ _ _ _ _ _; simp (disch := omega) [go_sem, *, wrap64_id, upd_ne, mk3_true, flatten_replicate_one, stepK_if, ilt_true, ilt_false, ile_true, ile_false, Try.ntmps7 ])
              | (refine wantK_split (fun hc => ?_) (fun hc => ?_) <;> (try simp only [Bool.not_eq_true', Bool.not_eq_false', Bool.not_eq_eq_eq_not, Bool.not_true, Bool.not_false, decide_eq_true_eq, decide_eq_false_iff_not, Int.not_lt, Int.not_le] at hc) <;> (try (exfalso; omega)) <;> (try simp (disch := omega) [go_sem, *, wrap64_id, upd_ne, mk3_true, flatten_replicate_one, stepK_if, ilt_true, ilt_false, ile_true, ile_false, Try.ntmps7 ]))
              | (refine ac_cond_h fun Kt Kf ht hf => ?_; simp (disch := omega) [go_sem, * ]; try (refine ⟨fun hc => ?_, fun hc => ?_⟩ <;> try (exfalso; omega))))
            all_goals (refine ac_ret ?_; try dsimp only [thenA, blockA]; refine ⟨by simp, _, (by first | rfl | (simp (disch := omega) [go_sem, upd_ne] <;> rfl)), ?_⟩; refine ret_id ⟨fun k hk => (by first | rfl | (repeat rw [upd_ne _ _ _ _ (by omega)])), (by simp [go_sem, below]), (by simp [go_sem] <;> omega), by simp, by simp⟩)
    · rw [eInts, if_neg hF] at c20
      generalize askedE N u [to] = F at *
      have hFn : (F != 0) = true := by simpa using hF
      rw [hE, eInts_zero] at c18
      repeat' (first
        | (refine ac_seq_h fun K hK => ?_)
        | (refine ac_region_h fun K hK => ?_; simp (disch := omega) [go_sem, *, Try.ntmps7 ])
        | (refine ac_draw_h mixed (by kernel_rfl) fun K hK => ?_; simp (disch := omega) [go_sem, *, wrap64_id, upd_ne, mk3_true, flatten_replicate_one, stepK_if, ilt_true, ilt_false, ile_true, ile_false, Try.ntmps7 ])
        | (apply Hide.out hK; clear hK K; try with_reducible dsimp only [thenA])
        | (apply Hide.out ht; clear ht hf Kt Kf)
        | (apply Hide.out hf; clear ht hf Kt Kf)
        | (clear hK K; apply Hide.out hK; clear hK K; try with_reducible dsimp only [thenA])
        | (clear hK K; clear hK K; apply Hide.out hK; clear hK K; try with_reducible dsimp only [thenA])
        | (with_reducible refine APure.call (few_spec _) ?_; try simp (disch := omega) [go_sem, * ])
        | (with_reducible refine APure.call (nets_spec) ?_; try simp (disch := omega) [go_sem, * ])
        | (with_reducible refine APure.call (c18) ?_; try simp (disch := omega) [go_sem, * ])
        | (with_reducible refine APure.call (c20) ?_; try simp (disch := omega) [go_sem, * ])
        | (refine ac_block ?_)
        | (refine ac_skip ?_; simp only [thenA])
        | (refine ac_exit ?_; simp only [thenA, blockA, if_true, if_false, Nat.reduceEqDiff])
        | (with_reducible show nextK _ _ _ _ _ _ _; simp (disch := omega) [go_sem, *, wrap64_id, upd_ne, mk3_true, flatten_replicate_one, stepK_if, ilt_true, ilt_false, ile_true, ile_false, Try.ntmps7 ])
        | (refine wantK_split (fun hc => ?_) (fun hc => ?_) <;> (try simp only [Bool.not_eq_true', Bool.not_eq_false', Bool.not_eq_eq_eq_not, Bool.not_true, Bool.not_false, decide_eq_true_eq, decide_eq_false_iff_not, Int.not_lt, Int.not_le] at hc) <;> (try (exfalso; omega)) <;> (try simp (disch := omega) [go_sem, *, wrap64_id, upd_ne, mk3_true, flatten_replicate_one, stepK_if, ilt_true, ilt_false, ile_true, ile_false, Try.ntmps7 ]))
        | (refine ac_cond_h fun Kt Kf ht hf => ?_; simp (disch := omega) [go_sem, * ]; try (refine ⟨fun hc => ?_, fun hc => ?_⟩ <;> try (exfalso; omega))))
      all_goals (refine ac_ret ?_; try dsimp only [thenA, blockA]; refine ⟨by simp, _, (by first | rfl | (simp (disch := omega) [go_sem, upd_ne] <;> rfl)), ?_⟩; refine ret_id ⟨fun k hk => (by first | rfl | (repeat rw [upd_ne _ _ _ _ (by omega)])), (by simp [go_sem, below]), (by simp [go_sem] <;> omega), by simp, by simp⟩)
  · rw [eInts, if_neg hE] at c18
    have hEn : (askedE N t [s] != 0) = true := by simpa using hE
    repeat' (first
      | (refine ac_seq_h fun K hK => ?_)
      | (refine ac_region_h fun K hK => ?_; simp (disch := omega) [go_sem, *, Try.ntmps7 ])
      | (refine ac_draw_h mixed (by kernel_rfl) fun K hK => ?_; simp (disch := omega) [go_sem, *, wrap64_id, upd_ne, mk3_true, flatten_replicate_one, stepK_if, ilt_true, ilt_false, ile_true, ile_false, Try.ntmps7 ])
      | (apply Hide.out hK; clear hK K; try with_reducible dsimp only [thenA])
      | (apply Hide.out ht; clear ht hf Kt Kf)
      | (apply Hide.out hf; clear ht hf Kt Kf)
      | (clear hK K; apply Hide.out hK; clear hK K; try with_reducible dsimp only [thenA])
      | (clear hK K; clear hK K; apply Hide.out hK; clear hK K; try with_reducible dsimp only [thenA])
      | (with_reducible refine APure.call (few_spec _) ?_; try simp (disch := omega) [go_sem, * ])
      | (with_reducible refine APure.call (nets_spec) ?_; try simp (disch := omega) [go_sem, * ])
      | (with_reducible refine APure.call (c18) ?_; try simp (disch := omega) [go_sem, * ])
      | (with_reducible refine APure.call (c20) ?_; try simp (disch := omega) [go_sem, * ])
      | (refine ac_block ?_)
      | (refine ac_skip ?_; simp only [thenA])
      | (refine ac_exit ?_; simp only [thenA, blockA, if_true, if_false, Nat.reduceEqDiff])
      | (with_reducible show nextK _ _ _ _ _ _ _; simp (disch := omega) [go_sem, *, wrap64_id, upd_ne, mk3_true, flatten_replicate_one, stepK_if, ilt_true, ilt_false, ile_true, ile_false, Try.ntmps7 ])
      | (refine wantK_split (fun hc => ?_) (fun hc => ?_) <;> (try simp only [Bool.not_eq_true', Bool.not_eq_false', Bool.not_eq_eq_eq_not, Bool.not_true, Bool.not_false, decide_eq_true_eq, decide_eq_false_iff_not, Int.not_lt, Int.not_le] at hc) <;> (try (exfalso; omega)) <;> (try simp (disch := omega) [go_sem, *, wrap64_id, upd_ne, mk3_true, flatten_replicate_one, stepK_if, ilt_true, ilt_false, ile_true, ile_false, Try.ntmps7 ]))
      | (refine ac_cond_h fun Kt Kf ht hf => ?_; simp (disch := omega) [go_sem, * ]; try (refine ⟨fun hc => ?_, fun hc => ?_⟩ <;> try (exfalso; omega))))
    all_goals (refine ac_ret ?_; try dsimp only [thenA, blockA]; refine ⟨by simp, _, (by first | rfl | (simp (disch := omega) [go_sem, upd_ne] <;> rfl)), ?_⟩; refine ret_id ⟨fun k hk => (by first | rfl | (repeat rw [upd_ne _ _ _ _ (by omega)])), (by simp [go_sem, below]), (by simp [go_sem] <;> omega), by simp, by simp⟩)
end Go.AM

namespace Go.AM
open Go.RowKit Go.ChangeShapes Go.WideShapes Go.Proofs Go.Deep Nets
section
variable {H : Type} {enc : TypeId × Value → H} {W : World} {base : Nat} {sp : Nat → Bool} {hd : Bool}
theorem rd_u16 {r : Reach} {b0 : Nat} {v : Value} {d : DataW H} {p : List MemPlace} (hv : Value.okWide Try.prog W r b0 51 v) (h : DataW.Trod enc Try.prog W base sp hd 51 v d p) : ∃ m, Rv (G0 W) (iv .u16 m) v ∧ 0 ≤ m ∧ m < 65536 := by
  obtain ⟨m, rfl, _, _, hw⟩ := open_int Try.underlying51 hv h
  refine ⟨m, by simp [Rv, Value.oneCell'], ?_⟩
  have e1 : IntKind.u16.min = 0 := by decide
  have e2 : IntKind.u16.max = 65535 := by decide
  simp [Lit.wf, e1, e2] at hw
  omega
theorem rd_u8 {r : Reach} {b0 : Nat} {v : Value} {d : DataW H} {p : List MemPlace} (hv : Value.okWide Try.prog W r b0 5 v) (h : DataW.Trod enc Try.prog W base sp hd 5 v d p) : ∃ m, Rv (G0 W) (iv .u8 m) v ∧ 0 ≤ m ∧ m < 256 := by
  obtain ⟨m, rfl, _, _, hw⟩ := open_int Try.underlying5 hv h
  refine ⟨m, by simp [Rv, Value.oneCell'], ?_⟩
  have e1 : IntKind.u8.min = 0 := by decide
  have e2 : IntKind.u8.max = 255 := by decide
  simp [Lit.wf, e1, e2] at hw
  omega
end
end Go.AM
