/- Walks: the program's Closed; RelayEdits over the abstract machine. Conditions: as each theorem says. -/
import Derived.Test.YtkhdnlojgoonkaaWj
namespace Go.AM
open Go.Proofs Nets
set_option maxRecDepth 10000
set_option maxHeartbeats 4000000
theorem closed_spec (N : Net) (s : Span) : APure Try.prog 31 [encNet N, encSpan s] (.tup [encNet (closedN N s), iv .i64 (closedE N s)]) := by
  intro h n
  refine ACalls.pure (ACalls.entry (by kernel_rfl) fun hb _ => calls_of Try.func31 rfl (by kernel_rfl) (by simp [Try.ntmps31]) ?_)
  have c16 := check_spec N
  by_cases hC : checkE N = 0
  · by_cases hs : s.lo > s.hi
    · have hE : closedE N s = 1 := by rw [closedE, if_neg (by simp [hC]), if_pos hs]
      have hN : closedN N s = ⟨0, true, []⟩ := by rw [closedN, if_neg (by rw [hE]; decide)]
      rw [hE, hN]
      clear hE hN
      repeat' (first
        | (refine ac_seq_h fun K hK => ?_)
        | (refine ac_region_h fun K hK => ?_; simp (disch := omega) [go_sem, *, upd_ne, Try.ntmps31 ])
        | (refine ac_draw_h mixed (by kernel_rfl) fun K hK => ?_; simp (disch := omega) [go_sem, *, wrap64_id, upd_ne, mk3_true, flatten_replicate_one, stepK_if, ilt_true, ilt_false, ile_true, ile_false, Try.ntmps31 ])
        | (apply Hide.out hK; clear hK K; try with_reducible dsimp only [thenA])
        | (apply Hide.out ht; clear ht hf Kt Kf)
        | (apply Hide.out hf; clear ht hf Kt Kf)
        | (clear hK K; apply Hide.out hK; clear hK K; try with_reducible dsimp only [thenA])
        | (clear hK K; clear hK K; apply Hide.out hK; clear hK K; try with_reducible dsimp only [thenA])
        | (with_reducible refine APure.call (c16) ?_; try simp (disch := omega) [go_sem, * ])
        | (refine ac_block ?_)
        | (refine ac_skip ?_; simp only [thenA])
        | (refine ac_exit ?_; simp only [thenA, blockA, if_true, if_false, Nat.reduceEqDiff])
        | (with_reducible show nextK _ _ _ _ _ _ _; simp (disch := omega) [go_sem, *, wrap64_id, upd_ne, mk3_true, flatten_replicate_one, stepK_if, ilt_true, ilt_false, ile_true, ile_false, Try.ntmps31 ])
        | (refine wantK_split (fun hc => ?_) (fun hc => ?_) <;> (try simp only [Bool.not_eq_true', Bool.not_eq_false', Bool.not_eq_eq_eq_not, Bool.not_true, Bool.not_false, decide_eq_true_eq, decide_eq_false_iff_not, Int.not_lt, Int.not_le] at hc) <;> (try (exfalso; omega)) <;> (try simp (disch := omega) [go_sem, *, wrap64_id, upd_ne, mk3_true, flatten_replicate_one, stepK_if, ilt_true, ilt_false, ile_true, ile_false, Try.ntmps31 ]))
        | (refine ac_cond_h fun Kt Kf ht hf => ?_; simp (disch := omega) [go_sem, * ]; try (refine ⟨fun hc => ?_, fun hc => ?_⟩ <;> try (exfalso; omega))))
      refine ac_ret ?_
      refine ⟨by simp, _, (by simp (disch := omega) [go_sem] <;> rfl), ?_⟩
      refine ret_weak wk_empty ?_
      refine ret_id ⟨fun k hk => ?_, by simp [below, belowL], rfl, by simp, by simp⟩
      simp (disch := omega) only [upd_ne]
    · obtain ⟨s1, s2, hll, hok⟩ := checkE_ok hC
      replace hok : Hide _ := hok
      repeat' (first
        | (refine ac_seq_h fun K hK => ?_)
        | (refine ac_region_h fun K hK => ?_; simp (disch := omega) [go_sem, *, upd_ne, Try.ntmps31 ])
        | (refine ac_draw_h mixed (by kernel_rfl) fun K hK => ?_; simp (disch := omega) [go_sem, *, wrap64_id, upd_ne, mk3_true, flatten_replicate_one, stepK_if, ilt_true, ilt_false, ile_true, ile_false, Try.ntmps31 ])
        | (apply Hide.out hK; clear hK K; try with_reducible dsimp only [thenA])
        | (apply Hide.out ht; clear ht hf Kt Kf)
        | (apply Hide.out hf; clear ht hf Kt Kf)
        | (clear hK K; apply Hide.out hK; clear hK K; try with_reducible dsimp only [thenA])
        | (clear hK K; clear hK K; apply Hide.out hK; clear hK K; try with_reducible dsimp only [thenA])
        | (with_reducible refine APure.call (c16) ?_; try simp (disch := omega) [go_sem, * ])
        | (refine ac_block ?_)
        | (refine ac_skip ?_; simp only [thenA])
        | (refine ac_exit ?_; simp only [thenA, blockA, if_true, if_false, Nat.reduceEqDiff])
        | (with_reducible show nextK _ _ _ _ _ _ _; simp (disch := omega) [go_sem, *, wrap64_id, upd_ne, mk3_true, flatten_replicate_one, stepK_if, ilt_true, ilt_false, ile_true, ile_false, Try.ntmps31 ])
        | (refine wantK_split (fun hc => ?_) (fun hc => ?_) <;> (try simp only [Bool.not_eq_true', Bool.not_eq_false', Bool.not_eq_eq_eq_not, Bool.not_true, Bool.not_false, decide_eq_true_eq, decide_eq_false_iff_not, Int.not_lt, Int.not_le] at hc) <;> (try (exfalso; omega)) <;> (try simp (disch := omega) [go_sem, *, wrap64_id, upd_ne, mk3_true, flatten_replicate_one, stepK_if, ilt_true, ilt_false, ile_true, ile_false, Try.ntmps31 ]))
        | (refine ac_cond_h fun Kt Kf ht hf => ?_; simp (disch := omega) [go_sem, * ]; try (refine ⟨fun hc => ?_, fun hc => ?_⟩ <;> try (exfalso; omega))))
      obtain ⟨o, ho⟩ : ∃ o, o = n + 4 + 3 + 2 + 5 + 3 := ⟨_, rfl⟩
      rw [← ho]
      obtain ⟨b, hbb⟩ : ∃ b, b = ((h.upd n (some (cellsNet N))).upd (n + 1) (some (.cells [iv .i64 s.lo, iv .i64 s.hi]))).upd (n + 2) (some (.cells [iv .i64 0, .fslc true true 0 []])) := ⟨_, rfl⟩
      rw [← hbb]
      have hon : n + 2 < o := by omega
      have hol : o < n + 18 := by omega
      replace ho : Hide _ := ho
      have hbn : Hide (b n = some (cellsNet N)) := by rw [Hide, hbb]; simp (disch := omega) only [upd_ne, upd_same]
      have hbn1 : Hide (b (n + 1) = some (.cells [iv .i64 s.lo, iv .i64 s.hi])) := by rw [Hide, hbb]; simp (disch := omega) only [upd_ne, upd_same]
      have hbn2 : Hide (b (n + 2) = some (.cells [iv .i64 0, .fslc true true 0 []])) := by rw [Hide, hbb]; simp (disch := omega) only [upd_same]
      have hb0 : Hide (∀ k, n + 2 < k → b k = none) := fun k hk => by rw [hbb]; simp (disch := omega) only [upd_ne]; exact hb.none (by omega)
      have hbk : Hide (∀ k, k < n → b k = h k) := fun k hk => by rw [hbb]; simp (disch := omega) only [upd_ne]
      replace hbb : Hide _ := hbb
      refine ac_loop_wk (fun s' => ∃ (n' m k : Nat), o < m ∧ m < n' ∧ k ≤ N.links.length ∧ Hide ((N.links.take k).any (fun x => decide ((partsOf s x.opn).length > 12)) = false) ∧ s' = ⟨51, [(2, .ptr n 0), (3, .ptr (n + 1) 0), (4, .ptr (n + 2) 0), (7, .ptr o 0), (26, encLinks N.nl N.links), (27, iv .i64 N.links.length), (28, iv .i64 k)], (b.upd o (some (.cells [iv .i64 N.st, acV 4 m (linksA s (N.links.take k))]))).upd m (acO (linksA s (N.links.take k))), n'⟩)
        (fun s => N.links.length - (intAt s 28).toNat) ?_ ?_
      · refine loop_start (by simp [go_sem]) ?_ ⟨_, o + 1, 0, by omega, by omega, by omega, by simp [Hide], rfl⟩
        show Sub ((b.upd o _).upd (o + 1) none) _
        rw [upd_none_eq (by rw [upd_ne _ _ _ _ (by omega)]; exact hb0.out _ (by omega))]
        simp only [upd_upd]
        exact Sub.refl _
      · rintro s' ⟨n', m, k, hm1, hm2, hk, hany, rfl⟩
        obtain ⟨L, hLd⟩ : ∃ L, Hide (L = linksA s (N.links.take k)) := ⟨_, rfl⟩
        rw [← hLd.out]
        obtain ⟨H, hH⟩ : ∃ H, Hide (H = (b.upd o (some (.cells [iv .i64 N.st, acV 4 m L]))).upd m (acO L)) := ⟨_, rfl⟩
        rw [← hH.out]
        have hLl : L.length = k := by rw [hLd.out, linksA, List.length_map, List.length_take]; omega
        have hLc : Hide (∀ x ∈ L, (cellsOf x).length = 4) := by rw [hLd.out]; exact linksA_cells
        have hHn : H n = some (cellsNet N) := by rw [hH.out]; simp (disch := omega) only [upd_ne]; exact hbn.out
        have hHn1 : H (n + 1) = some (.cells [iv .i64 s.lo, iv .i64 s.hi]) := by rw [hH.out]; simp (disch := omega) only [upd_ne]; exact hbn1.out
        have hHn2 : H (n + 2) = some (.cells [iv .i64 0, .fslc true true 0 []]) := by rw [hH.out]; simp (disch := omega) only [upd_ne]; exact hbn2.out
        have hHo : H o = some (.cells [iv .i64 N.st, acV 4 m L]) := by rw [hH.out]; simp (disch := omega) only [upd_ne, upd_same]
        have hHm : Hide (H m = acO L) := by rw [Hide, hH.out, upd_same]
        have hH0 : Hide (∀ k, n' ≤ k → H k = none) := fun k hk => by rw [hH.out]; simp (disch := omega) only [upd_ne]; exact hb0.out _ (by omega)
        have hHk : Hide (∀ k, k < n → H k = h k) := fun k hk => by rw [hH.out]; simp (disch := omega) only [upd_ne]; exact hbk.out k hk
        by_cases hlt : k < N.links.length
        · obtain ⟨x, hx1, hx2, _⟩ := at_k hlt
          have hnext : Hide (linksA s (N.links.take (k + 1)) = L ++ [encLink (closedL s x)]) := by rw [Hide, linksA_snoc hx2, hLd.out]
          have hxo := right_spans (hok.out x (List.mem_of_getElem? hx2)).ok
          obtain ⟨d1, d2, o1, o2⟩ := hxo
          replace o2 : Hide _ := o2
          replace hx2 : Hide _ := hx2
          replace o2 : Hide _ := o2
          repeat' (first
            | (refine ac_seq_h fun K hK => ?_)
            | (refine ac_region_h fun K hK => ?_; simp (disch := omega) [go_sem, *, upd_ne, ilt_true, ile_true])
            | (refine ac_draw_h mixed (by kernel_rfl) fun K hK => ?_; simp (disch := omega) [go_sem, *, wrap64_id, upd_ne, mk3_true, flatten_replicate_one, stepK_if, ilt_true, ilt_false, ile_true, ile_false, Try.ntmps31])
            | (apply Hide.out hK; clear hK K; try with_reducible dsimp only [thenA])
            | (apply Hide.out ht; clear ht hf Kt Kf)
            | (apply Hide.out hf; clear ht hf Kt Kf)
            | (clear hK K; apply Hide.out hK; clear hK K; try with_reducible dsimp only [thenA])
            | (clear hK K; clear hK K; apply Hide.out hK; clear hK K; try with_reducible dsimp only [thenA])
            | (refine ac_block ?_)
            | (refine ac_skip ?_; simp only [thenA])
            | (refine ac_exit ?_; simp only [thenA, blockA, if_true, if_false, Nat.reduceEqDiff])
            | (with_reducible show nextK _ _ _ _ _ _ _; simp (disch := omega) [go_sem, *, wrap64_id, upd_ne, mk3_true, flatten_replicate_one, stepK_if, ilt_true, ilt_false, ile_true, ile_false, Try.ntmps31])
            | (refine wantK_split (fun hc => ?_) (fun hc => ?_) <;> (try simp only [Bool.not_eq_true', Bool.not_eq_false', Bool.not_eq_eq_eq_not, Bool.not_true, Bool.not_false, decide_eq_true_eq, decide_eq_false_iff_not, Int.not_lt, Int.not_le] at hc) <;> (try (exfalso; omega)) <;> (try simp (disch := omega) [go_sem, *, wrap64_id, upd_ne, mk3_true, flatten_replicate_one, stepK_if, ilt_true, ilt_false, ile_true, ile_false, Try.ntmps31]))
            | (refine ac_cond_h fun Kt Kf ht hf => ?_; simp (disch := omega) [go_sem, *]; try (refine ⟨fun hc => ?_, fun hc => ?_⟩ <;> try (exfalso; omega))))
          refine parts_spec x.nl x.opn s _ _ _ ?_
          repeat' (first
            | (refine ac_seq_h fun K hK => ?_)
            | (refine ac_region_h fun K hK => ?_; simp (disch := omega) [go_sem, *, wrap64_id, upd_ne, mk3_true, flatten_replicate_one, stepK_if, ilt_true, ilt_false, ile_true, ile_false, Try.ntmps31])
            | (refine ac_draw_h mixed (by kernel_rfl) fun K hK => ?_; simp (disch := omega) [go_sem, *, wrap64_id, upd_ne, mk3_true, flatten_replicate_one, stepK_if, ilt_true, ilt_false, ile_true, ile_false, Try.ntmps31])
            | (apply Hide.out hK; clear hK K; try with_reducible dsimp only [thenA])
            | (apply Hide.out ht; clear ht hf Kt Kf)
            | (apply Hide.out hf; clear ht hf Kt Kf)
            | (clear hK K; apply Hide.out hK; clear hK K; try with_reducible dsimp only [thenA])
            | (clear hK K; clear hK K; apply Hide.out hK; clear hK K; try with_reducible dsimp only [thenA])
            | (refine ac_block ?_)
            | (refine ac_skip ?_; simp only [thenA, blockA])
            | (refine ac_exit ?_; simp only [thenA, blockA, if_true, if_false, Nat.reduceEqDiff])
            | (with_reducible show nextK _ _ _ _ _ _ _; simp (disch := omega) [go_sem, *])
            | (refine wantK_split (fun hc => ?_) (fun hc => ?_) <;> (try simp only [Bool.not_eq_true', Bool.not_eq_false', Bool.not_eq_eq_eq_not, Bool.not_true, Bool.not_false, decide_eq_true_eq, decide_eq_false_iff_not, Int.not_lt, Int.not_le] at hc) <;> (try (exfalso; omega)) <;> (try simp (disch := omega) [go_sem, *, wrap64_id, upd_ne, mk3_true, flatten_replicate_one, stepK_if, ilt_true, ilt_false, ile_true, ile_false, Try.ntmps31]))
            | (refine ac_cond_h fun Kt Kf ht hf => ?_; simp (disch := omega) [go_sem, *, wrap64_id, upd_ne, mk3_true, flatten_replicate_one, stepK_if, ilt_true, ilt_false, ile_true, ile_false, Try.ntmps31]; try (refine ⟨fun hc => ?_, fun hc => ?_⟩ <;> try (exfalso; omega))))
          refine APureAt.call (collect_spec (n' + 1 + 4 + 7) x.nl x.opn s (by omega) o2.out _ _ (by simp (disch := omega) only [upd_ne, upd_same]) (by simp (disch := omega) only [upd_same])) ?_
          obtain ⟨p, hp⟩ : ∃ p, p = n' + 1 + 2 := ⟨_, rfl⟩
          rw [← hp]
          have hpn : n' ≤ p := by omega
          have hpp : p < n' + 5 := by omega
          replace hp : Hide _ := hp
          by_cases h12 : (partsOf s x.opn).length > 12
          · have hc2 : Hide (closedE N s = 2) := by
              rw [Hide, closedE, if_neg (by simp [hC]), if_neg hs, if_pos]
              exact List.any_eq_true.2 ⟨x, List.mem_of_getElem? hx2.out, by simpa using h12⟩
            have hN2 : Hide (closedN N s = ⟨0, true, []⟩) := by rw [Hide, closedN, if_neg (by rw [hc2.out]; decide)]
            generalize partsOf s x.opn = M at *
            repeat' (first
              | (refine ac_seq_h fun K hK => ?_)
              | (refine ac_region_h fun K hK => ?_; simp (disch := omega) [go_sem, *, upd_ne, ilt_true])
              | (refine ac_draw_h mixed (by kernel_rfl) fun K hK => ?_; simp (disch := omega) [go_sem, *, wrap64_id, upd_ne, mk3_true, flatten_replicate_one, stepK_if, ilt_true, ilt_false, ile_true, ile_false, Try.ntmps31])
              | (apply Hide.out hK; clear hK K; try with_reducible dsimp only [thenA])
              | (apply Hide.out ht; clear ht hf Kt Kf)
              | (apply Hide.out hf; clear ht hf Kt Kf)
              | (clear hK K; apply Hide.out hK; clear hK K; try with_reducible dsimp only [thenA])
              | (clear hK K; clear hK K; apply Hide.out hK; clear hK K; try with_reducible dsimp only [thenA])
              | (refine ac_block ?_)
              | (refine ac_skip ?_; simp only [thenA, blockA])
              | (refine ac_exit ?_; simp only [thenA, blockA, if_true, if_false, Nat.reduceEqDiff])
              | (with_reducible show nextK _ _ _ _ _ _ _; simp (disch := omega) [go_sem, *, upd_ne])
              | (refine wantK_split (fun hc => ?_) (fun hc => ?_) <;> (try simp only [Bool.not_eq_true', Bool.not_eq_false', Bool.not_eq_eq_eq_not, Bool.not_true, Bool.not_false, decide_eq_true_eq, decide_eq_false_iff_not, Int.not_lt, Int.not_le] at hc) <;> (try (exfalso; omega)) <;> (try simp (disch := omega) [go_sem, *, wrap64_id, upd_ne, mk3_true, flatten_replicate_one, stepK_if, ilt_true, ilt_false, ile_true, ile_false, Try.ntmps31]))
              | (refine ac_cond_h fun Kt Kf ht hf => ?_; simp (disch := omega) [go_sem, *]; try (refine ⟨fun hc => ?_, fun hc => ?_⟩ <;> try (exfalso; omega))))
            refine ac_ret ?_
            refine ⟨by simp, _, (by simp (disch := omega) [go_sem] <;> rfl), ?_⟩
            rw [hc2.out, hN2.out]
            refine ret_weak wk_empty ?_
            refine ret_id ⟨fun k hk => ?_, by simp [below, belowL], rfl, by simp, by simp⟩
            simp (disch := omega) only [upd_ne]
            exact hHk.out k hk
          · have hlnk : Hide (encLink (closedL s x) = .agg [iv .i64 x.fr, iv .i64 x.to, iv .i64 x.delay, encOpen (partsOf s x.opn).isEmpty (partsOf s x.opn)]) := rfl
            have hany2 : Hide ((N.links.take (k + 1)).any (fun x => decide ((partsOf s x.opn).length > 12)) = false) := by
              rw [Hide, List.take_succ_eq_append_getElem hlt, List.any_append, hany.out, hx1]
              simp; omega
            have hap := fun nm X hX hlX hh hm => ap_link (nm := nm) (m := m) (L := L) (X := X) (nl := false) (full := false) (h := hh) hm hLc.out hX hlX
            replace hap : Hide _ := hap
            generalize hMM : partsOf s x.opn = M at *
            replace hMM : Hide _ := hMM
            repeat' (first
              | (refine ac_seq_h fun K hK => ?_)
              | (refine ac_region_h fun K hK => ?_; simp (disch := omega) [go_sem, *, upd_ne, ilt_false])
              | (refine ac_draw_h mixed (by kernel_rfl) fun K hK => ?_; simp (disch := omega) [go_sem, *, wrap64_id, upd_ne, mk3_true, flatten_replicate_one, stepK_if, ilt_true, ilt_false, ile_true, ile_false, Try.ntmps31])
              | (apply Hide.out hK; clear hK K; try with_reducible dsimp only [thenA])
              | (apply Hide.out ht; clear ht hf Kt Kf)
              | (apply Hide.out hf; clear ht hf Kt Kf)
              | (clear hK K; apply Hide.out hK; clear hK K; try with_reducible dsimp only [thenA])
              | (clear hK K; clear hK K; apply Hide.out hK; clear hK K; try with_reducible dsimp only [thenA])
              | (refine ac_block ?_)
              | (refine ac_skip ?_; simp only [thenA])
              | (refine ac_exit ?_; simp only [thenA, blockA, if_true, if_false, Nat.reduceEqDiff])
              | (with_reducible show nextK _ _ _ _ _ _ _; simp (disch := omega) [go_sem, *, upd_ne])
              | (refine wantK_split (fun hc => ?_) (fun hc => ?_) <;> (try simp only [Bool.not_eq_true', Bool.not_eq_false', Bool.not_eq_eq_eq_not, Bool.not_true, Bool.not_false, decide_eq_true_eq, decide_eq_false_iff_not, Int.not_lt, Int.not_le] at hc) <;> (try (exfalso; omega)) <;> (try simp (disch := omega) [go_sem, *, wrap64_id, upd_ne, mk3_true, flatten_replicate_one, stepK_if, ilt_true, ilt_false, ile_true, ile_false, Try.ntmps31]))
              | (refine ac_cond_h fun Kt Kf ht hf => ?_; simp (disch := omega) [go_sem, *]; try (refine ⟨fun hc => ?_, fun hc => ?_⟩ <;> try (exfalso; omega))))
            rw [hap.out _ _ (by simp) (by simp; omega) _ (by simp (disch := omega) only [upd_ne]; exact hHm.out)]
            rw [acV_ne (show L ++ [_] ≠ [] by simp)]
            simp only [stepK]
            repeat' (first
              | (refine ac_seq_h fun K hK => ?_)
              | (refine ac_region_h fun K hK => ?_; simp (disch := omega) [go_sem, *, wrap64_id])
              | (refine ac_draw_h mixed (by kernel_rfl) fun K hK => ?_; simp (disch := omega) [go_sem, *, wrap64_id, upd_ne, mk3_true, flatten_replicate_one, stepK_if, ilt_true, ilt_false, ile_true, ile_false, Try.ntmps31])
              | (apply Hide.out hK; clear hK K; try with_reducible dsimp only [thenA])
              | (apply Hide.out ht; clear ht hf Kt Kf)
              | (apply Hide.out hf; clear ht hf Kt Kf)
              | (clear hK K; apply Hide.out hK; clear hK K; try with_reducible dsimp only [thenA])
              | (clear hK K; clear hK K; apply Hide.out hK; clear hK K; try with_reducible dsimp only [thenA])
              | (refine ac_block ?_)
              | (refine ac_skip ?_; simp only [thenA, blockA])
              | (refine ac_exit ?_; simp only [thenA, blockA, if_true, if_false, Nat.reduceEqDiff])
              | (with_reducible show nextK _ _ _ _ _ _ _; simp (disch := omega) [go_sem, *, upd_ne])
              | (refine wantK_split (fun hc => ?_) (fun hc => ?_) <;> (try simp only [Bool.not_eq_true', Bool.not_eq_false', Bool.not_eq_eq_eq_not, Bool.not_true, Bool.not_false, decide_eq_true_eq, decide_eq_false_iff_not, Int.not_lt, Int.not_le] at hc) <;> (try (exfalso; omega)) <;> (try simp (disch := omega) [go_sem, *, wrap64_id, upd_ne, mk3_true, flatten_replicate_one, stepK_if, ilt_true, ilt_false, ile_true, ile_false, Try.ntmps31]))
              | (refine ac_cond_h fun Kt Kf ht hf => ?_; simp (disch := omega) [go_sem, *, wrap64_id, upd_ne, mk3_true, flatten_replicate_one, stepK_if, ilt_true, ilt_false, ile_true, ile_false, Try.ntmps31]; try (refine ⟨fun hc => ?_, fun hc => ?_⟩ <;> try (exfalso; omega))))
            have hnx := hnext.out
            rw [hlnk.out] at hnx
            refine round_end (by simp [go_sem]) ?_ ⟨_, n' + 1 + 4 + 7 + 3 + 2 + 4 + 4, k + 1, by omega, by omega, by omega, hany2, rfl⟩ (by simp [intAt, go_sem]; omega)
            rw [hnx, upd_comm _ (show o ≠ n' + 1 + 4 + 7 + 3 + 2 + 4 + 4 by omega)]
            have hv : acV 4 (n' + 1 + 4 + 7 + 3 + 2 + 4 + 4) (L ++ [AV.agg [iv IntKind.i64 x.fr, iv IntKind.i64 x.to, iv IntKind.i64 x.delay, encOpen M.isEmpty M]]) = .slc (n' + 1 + 4 + 7 + 3 + 2 + 4 + 4) 0 (k + 1) 4 := by
              rw [acV_ne (by simp)]; simp [hLl]
            rw [hv]
            refine Sub.both (Sub.both ?_ _ _) _ _
            rw [hH.out]
            repeat (first | exact Sub.refl _ | refine Sub.upd ?_ (hb0.out _ (by omega)) _)
        · have hkl : k = N.links.length := by omega
          have hL2 : Hide (L = linksA s N.links) := by rw [Hide, hLd.out, hkl, List.take_length]
          have hc0 : Hide (closedE N s = 0) := by
            rw [Hide, closedE, if_neg (by simp [hC]), if_neg hs]
            have := hany.out
            rw [hkl, List.take_length] at this
            rw [if_neg (by rw [this]; simp)]
          have hNN : Hide (closedN N s = ⟨N.st, N.links.isEmpty, N.links.map (closedL s)⟩) := by rw [Hide, closedN, if_pos hc0.out]
          by_cases h0 : L = []
          · subst h0
            have hz : Hide (N.links = []) := by
              have := hL2.out.symm
              rw [Hide]
              simpa [linksA] using this
            rw [ac_nil] at hHo
            have hz0 := hz.out
            repeat' (first
              | (refine ac_seq_h fun K hK => ?_)
              | (refine ac_region_h fun K hK => ?_; simp (disch := omega) [go_sem, *])
              | (refine ac_draw_h mixed (by kernel_rfl) fun K hK => ?_; simp (disch := omega) [go_sem, *, wrap64_id, upd_ne, mk3_true, flatten_replicate_one, stepK_if, ilt_true, ilt_false, ile_true, ile_false, Try.ntmps31])
              | (apply Hide.out hK; clear hK K; try with_reducible dsimp only [thenA])
              | (apply Hide.out ht; clear ht hf Kt Kf)
              | (apply Hide.out hf; clear ht hf Kt Kf)
              | (clear hK K; apply Hide.out hK; clear hK K; try with_reducible dsimp only [thenA])
              | (clear hK K; clear hK K; apply Hide.out hK; clear hK K; try with_reducible dsimp only [thenA])
              | (refine ac_block ?_)
              | (refine ac_skip ?_; simp only [thenA, blockA])
              | (refine ac_exit ?_; simp only [thenA, blockA, if_true])
              | (with_reducible show nextK _ _ _ _ _ _ _; simp (disch := omega) [go_sem, *, wrap64_id, upd_ne, mk3_true, flatten_replicate_one, stepK_if, ilt_true, ilt_false, ile_true, ile_false, Try.ntmps31])
              | (refine wantK_split (fun hc => ?_) (fun hc => ?_) <;> (try simp only [Bool.not_eq_true', Bool.not_eq_false', Bool.not_eq_eq_eq_not, Bool.not_true, Bool.not_false, decide_eq_true_eq, decide_eq_false_iff_not, Int.not_lt, Int.not_le] at hc) <;> (try (exfalso; omega)) <;> (try simp (disch := omega) [go_sem, *, wrap64_id, upd_ne, mk3_true, flatten_replicate_one, stepK_if, ilt_true, ilt_false, ile_true, ile_false, Try.ntmps31]))
              | (refine ac_cond_h fun Kt Kf ht hf => ?_; simp (disch := omega) [go_sem, *]; try (refine ⟨fun hc => ?_, fun hc => ?_⟩ <;> try (exfalso; omega))))
            refine ac_ret ?_
            refine ⟨by simp, _, (by simp (disch := omega) [go_sem] <;> rfl), ?_⟩
            rw [hc0.out, hNN.out, hz.out]
            refine ret_weak wk_nolinks ?_
            refine ret_id ⟨fun k hk => ?_, by simp [below, belowL], rfl, by simp, by simp⟩
            simp (disch := omega) only [upd_ne]
            exact hHk.out k hk
          · rw [acV_ne h0] at hHo
            have hHm2 := hHm.out
            rw [acO_ne h0] at hHm2
            replace hHm2 : Hide _ := hHm2
            repeat' (first
              | (refine ac_seq_h fun K hK => ?_)
              | (refine ac_region_h fun K hK => ?_; simp (disch := omega) [go_sem, *])
              | (refine ac_draw_h mixed (by kernel_rfl) fun K hK => ?_; simp (disch := omega) [go_sem, *, wrap64_id, upd_ne, mk3_true, flatten_replicate_one, stepK_if, ilt_true, ilt_false, ile_true, ile_false, Try.ntmps31])
              | (apply Hide.out hK; clear hK K; try with_reducible dsimp only [thenA])
              | (apply Hide.out ht; clear ht hf Kt Kf)
              | (apply Hide.out hf; clear ht hf Kt Kf)
              | (clear hK K; apply Hide.out hK; clear hK K; try with_reducible dsimp only [thenA])
              | (clear hK K; clear hK K; apply Hide.out hK; clear hK K; try with_reducible dsimp only [thenA])
              | (refine ac_block ?_)
              | (refine ac_skip ?_; simp only [thenA, blockA])
              | (refine ac_exit ?_; simp only [thenA, blockA, if_true])
              | (with_reducible show nextK _ _ _ _ _ _ _; simp (disch := omega) [go_sem, *, wrap64_id, upd_ne, mk3_true, flatten_replicate_one, stepK_if, ilt_true, ilt_false, ile_true, ile_false, Try.ntmps31])
              | (refine wantK_split (fun hc => ?_) (fun hc => ?_) <;> (try simp only [Bool.not_eq_true', Bool.not_eq_false', Bool.not_eq_eq_eq_not, Bool.not_true, Bool.not_false, decide_eq_true_eq, decide_eq_false_iff_not, Int.not_lt, Int.not_le] at hc) <;> (try (exfalso; omega)) <;> (try simp (disch := omega) [go_sem, *, wrap64_id, upd_ne, mk3_true, flatten_replicate_one, stepK_if, ilt_true, ilt_false, ile_true, ile_false, Try.ntmps31]))
              | (refine ac_cond_h fun Kt Kf ht hf => ?_; simp (disch := omega) [go_sem, *]; try (refine ⟨fun hc => ?_, fun hc => ?_⟩ <;> try (exfalso; omega))))
            refine ac_ret ?_
            refine ⟨by simp, _, (by simp (disch := omega) [go_sem] <;> rfl), ?_⟩
            rw [hc0.out, hNN.out]
            refine ret_fzD true (m := m) (c := flat L) (by simp (disch := omega) only [upd_ne]; exact hHm2.out) ?_
            have hLn : L.length = N.links.length := by omega
            have hel : elems true 4 N.links.length (flat L) = L := by rw [← hLn, hL2.out]; exact linksA_elems _ _
            have hfl : (flat L).length = N.links.length * 4 := by rw [flat_len hLc.out, hLn]
            have hem : N.links.isEmpty = false := by
              cases hx : N.links with
              | nil => rw [hx] at hLn; exact absurd (List.length_eq_zero_iff.1 hLn) h0
              | cons _ _ => rfl
            have hfz : fzD m (flat L) true (resVal [AV.agg [iv IntKind.i64 N.st, AV.slc m 0 N.links.length 4], AV.c (Value.int IntKind.i64 0)]) = .tup [.agg [iv .i64 N.st, .fslc false false 4 L], iv .i64 0] := by
              simp only [resVal, fzD, fzDL]
              rw [if_pos ⟨trivial, by omega, by simp⟩, List.drop_zero, hel]
            rw [hfz]
            refine ret_id ⟨fun k hk => ?_, ?_, ?_, by simp, by simp⟩
            · simp (disch := omega) only [upd_ne]
              exact hHk.out k hk
            · have : belowL n L := belowL_iff.2 fun y hy => by
                rw [hL2.out] at hy
                obtain ⟨z, _, rfl⟩ := List.mem_map.1 hy
                simp [below, belowL, belowL_iff]
              simp [below, belowL, this]
            · rw [hem, hL2.out, linksA]
              simp only [encNet, encLinks, List.map_map]
              rfl
  · have hE : closedE N s = checkE N := by rw [closedE, if_pos hC]
    have hN : closedN N s = ⟨0, true, []⟩ := by rw [closedN, if_neg (by rw [hE]; exact hC)]
    rw [hE, hN]
    clear hE hN
    generalize checkE N = E at *
    have hEb : (E != 0) = true := by simpa using hC
    repeat' (first
      | (refine ac_seq_h fun K hK => ?_)
      | (refine ac_region_h fun K hK => ?_; simp (disch := omega) [go_sem, *, upd_ne, Try.ntmps31 ])
      | (refine ac_draw_h mixed (by kernel_rfl) fun K hK => ?_; simp (disch := omega) [go_sem, *, wrap64_id, upd_ne, mk3_true, flatten_replicate_one, stepK_if, ilt_true, ilt_false, ile_true, ile_false, Try.ntmps31 ])
      | (apply Hide.out hK; clear hK K; try with_reducible dsimp only [thenA])
      | (apply Hide.out ht; clear ht hf Kt Kf)
      | (apply Hide.out hf; clear ht hf Kt Kf)
      | (clear hK K; apply Hide.out hK; clear hK K; try with_reducible dsimp only [thenA])
      | (clear hK K; clear hK K; apply Hide.out hK; clear hK K; try with_reducible dsimp only [thenA])
      | (with_reducible refine APure.call (c16) ?_; try simp (disch := omega) [go_sem, * ])
      | (refine ac_block ?_)
      | (refine ac_skip ?_; simp only [thenA, blockA])
      | (refine ac_exit ?_; simp only [thenA, blockA, if_true, if_false, Nat.reduceEqDiff])
      | (with_reducible show nextK _ _ _ _ _ _ _; simp (disch := omega) [go_sem, *, wrap64_id, upd_ne, mk3_true, flatten_replicate_one, stepK_if, ilt_true, ilt_false, ile_true, ile_false, Try.ntmps31 ])
      | (refine wantK_split (fun hc => ?_) (fun hc => ?_) <;> (try simp only [Bool.not_eq_true', Bool.not_eq_false', Bool.not_eq_eq_eq_not, Bool.not_true, Bool.not_false, decide_eq_true_eq, decide_eq_false_iff_not, Int.not_lt, Int.not_le] at hc) <;> (try (exfalso; omega)) <;> (try simp (disch := omega) [go_sem, *, wrap64_id, upd_ne, mk3_true, flatten_replicate_one, stepK_if, ilt_true, ilt_false, ile_true, ile_false, Try.ntmps31 ]))
      | (refine ac_cond_h fun Kt Kf ht hf => ?_; simp (disch := omega) [go_sem, * ]; try (refine ⟨fun hc => ?_, fun hc => ?_⟩ <;> try (exfalso; omega))))
    refine ac_ret ?_
    refine ⟨by simp, _, (by simp (disch := omega) [go_sem] <;> rfl), ?_⟩
    refine ret_weak wk_empty ?_
    refine ret_id ⟨fun k hk => ?_, by simp [below, belowL], rfl, by simp, by simp⟩
    simp (disch := omega) only [upd_ne]
end Go.AM

namespace Go.AM
open Go.Proofs Nets
set_option maxRecDepth 10000
set_option maxHeartbeats 4000000
theorem needTo_le (N : Net) (s to t : Int) (k : Nat) : (needTo N s to t k).length ≤ k := by
  rw [needTo, List.length_map]
  exact Nat.le_trans (List.length_filter_le _ _) (by simp)
theorem needH_le (N : Net) (s to t : Int) : (needH N s to t (askedE N t [s, to])).length ≤ 40 := by
  rw [needH]
  split
  · rename_i hE
    have hEA : askedE N t [s, to] = 0 := by
      unfold wayE at hE
      split at hE
      · rename_i h1; exact absurd hE h1
      · rename_i h1; simpa using h1
    obtain ⟨hC, _⟩ := asked_zero hEA
    obtain ⟨_, _, hll, _⟩ := checkE_ok hC
    exact Nat.le_trans (needTo_le _ _ _ _ _) hll
  · simp
theorem sameInts_ne (l : List Int) (hl : l.length < 1000000) : APure Try.prog 22 [neV l, neV l] (bv true) := by
  unfold neV
  split
  · exact sameInts_spec true true true true 0 0 [] [] (by simp) (by simp) (by simp)
  · have := sameInts_spec false false false false 1 1 l l hl (by simp) (by simp)
    rwa [decide_eq_true rfl] at this
theorem neV_scalar (l : List Int) : AV.scalar (neV l) = true := by unfold neV; split <;> rfl
theorem closed_small (N : Net) (s : Span) : (closedN N s).links.length < 1000000 ∧ ∀ x ∈ (closedN N s).links, x.opn.length < 1000000 := by
  by_cases h : checkE N = 0
  · obtain ⟨_, _, hll, _⟩ := checkE_ok h
    exact closed_bounds (by omega)
  · have hE : closedE N s = checkE N := by rw [closedE, if_pos h]
    rw [closedN, if_neg (by rw [hE]; exact h)]
    simp
theorem relayEdits_spec (N : Net) (s to t : Int) (a : Span) (hnl : N.nl = true → N.links = []) : APure Try.prog 8 [encNet N, iv .i64 s, iv .i64 to, iv .i64 t, encSpan a] (bv true) := by
  intro h n
  refine ACalls.pure (ACalls.entry (by kernel_rfl) fun hb _ => calls_of Try.func8 rfl (by kernel_rfl) (by simp [Try.ntmps8]) ?_)
  have c29 := needed_spec N s to t hnl
  have c30 := needed_ref N s to t
  have c31 := closed_spec N a
  have c32 := closed_ref N a
  have hcs := closed_small N a
  have c33 := sameNet_refl (closedN N a) hcs.1 hcs.2
  have hne := needH_le N s to t
  have c22 := sameInts_ne (needH N s to t (askedE N t [s, to])) (by omega)
  clear hcs
  generalize wayE N s to t (askedE N t [s, to]) = E at *
  generalize closedN N a = C at *
  generalize closedE N a = F at *
  generalize needH N s to t (askedE N t [s, to]) = L at *
  clear hne
  replace hnl : Hide _ := hnl
  by_cases hz : L.length = 0
  · have hv : neV L = .fslc true true 0 [] := by rw [neV, if_pos hz]
    rw [hv] at c29 c30 c22
    clear hv hz
    repeat' (first
      | (refine ac_seq_h fun K hK => ?_)
      | (refine ac_region_h fun K hK => ?_; simp (disch := omega) [go_sem, *, upd_ne, Try.ntmps8 ])
      | (refine ac_draw_h mixed (by kernel_rfl) fun K hK => ?_; simp (disch := omega) [go_sem, *, wrap64_id, upd_ne, mk3_true, flatten_replicate_one, stepK_if, ilt_true, ilt_false, ile_true, ile_false, Try.ntmps8 ])
      | (apply Hide.out hK; clear hK K; try with_reducible dsimp only [thenA])
      | (apply Hide.out ht; clear ht hf Kt Kf)
      | (apply Hide.out hf; clear ht hf Kt Kf)
      | (clear hK K; apply Hide.out hK; clear hK K; try with_reducible dsimp only [thenA])
      | (clear hK K; clear hK K; apply Hide.out hK; clear hK K; try with_reducible dsimp only [thenA])
      | (with_reducible refine APure.call (few_spec _) ?_; try simp (disch := omega) [go_sem, * ])
      | (with_reducible refine APure.call (nets_spec) ?_; try simp (disch := omega) [go_sem, *, upd_ne ])
      | (with_reducible refine APure.call (c29) ?_; try simp (disch := omega) [go_sem, * ])
      | (with_reducible refine APure.call (c30) ?_; try simp (disch := omega) [go_sem, * ])
      | (with_reducible refine APure.call (c31) ?_; try simp (disch := omega) [go_sem, * ])
      | (with_reducible refine APure.call (c32) ?_; try simp (disch := omega) [go_sem, * ])
      | (with_reducible refine APure.call (c33) ?_; try simp (disch := omega) [go_sem, * ])
      | (with_reducible refine APure.call (c22) ?_; try simp (disch := omega) [go_sem, *, upd_ne ])
      | (refine ac_block ?_)
      | (refine ac_skip ?_; simp only [thenA])
      | (refine ac_exit ?_; simp only [thenA, blockA, if_true, if_false, Nat.reduceEqDiff])
      | (with_reducible show nextK _ _ _ _ _ _ _; simp (disch := omega) [go_sem, *, wrap64_id, upd_ne, mk3_true, flatten_replicate_one, stepK_if, ilt_true, ilt_false, ile_true, ile_false, Try.ntmps8 ])
      | (refine wantK_split (fun hc => ?_) (fun hc => ?_) <;> (try simp only [Bool.not_eq_true', Bool.not_eq_false', Bool.not_eq_eq_eq_not, Bool.not_true, Bool.not_false, decide_eq_true_eq, decide_eq_false_iff_not, Int.not_lt, Int.not_le] at hc) <;> (try (exfalso; omega)) <;> (try simp (disch := omega) [go_sem, *, wrap64_id, upd_ne, mk3_true, flatten_replicate_one, stepK_if, ilt_true, ilt_false, ile_true, ile_false, Try.ntmps8 ]))
      | (refine ac_cond_h fun Kt Kf ht hf => ?_; simp (disch := omega) [go_sem, * ]; try (refine ⟨fun hc => ?_, fun hc => ?_⟩ <;> try (exfalso; omega))))
    all_goals (refine ac_ret ?_; try dsimp only [thenA, blockA]; refine ⟨by simp, _, (by first | rfl | (simp (disch := omega) [go_sem, upd_ne] <;> rfl)), ?_⟩; refine ret_id ⟨fun k hk => (by first | rfl | (repeat rw [upd_ne _ _ _ _ (by omega)])), (by simp [go_sem, below]), (by simp [go_sem] <;> omega), by simp, by simp⟩)
  · have hv : neV L = .fslc false false 1 (L.map (iv .i64)) := by rw [neV, if_neg hz]
    rw [hv] at c29 c30 c22
    clear hv hz
    generalize L.map (iv .i64) = M at *
    repeat' (first
      | (refine ac_seq_h fun K hK => ?_)
      | (refine ac_region_h fun K hK => ?_; simp (disch := omega) [go_sem, *, upd_ne, Try.ntmps8 ])
      | (refine ac_draw_h mixed (by kernel_rfl) fun K hK => ?_; simp (disch := omega) [go_sem, *, wrap64_id, upd_ne, mk3_true, flatten_replicate_one, stepK_if, ilt_true, ilt_false, ile_true, ile_false, Try.ntmps8 ])
      | (apply Hide.out hK; clear hK K; try with_reducible dsimp only [thenA])
      | (apply Hide.out ht; clear ht hf Kt Kf)
      | (apply Hide.out hf; clear ht hf Kt Kf)
      | (clear hK K; apply Hide.out hK; clear hK K; try with_reducible dsimp only [thenA])
      | (clear hK K; clear hK K; apply Hide.out hK; clear hK K; try with_reducible dsimp only [thenA])
      | (with_reducible refine APure.call (few_spec _) ?_; try simp (disch := omega) [go_sem, * ])
      | (with_reducible refine APure.call (nets_spec) ?_; try simp (disch := omega) [go_sem, *, upd_ne ])
      | (with_reducible refine APure.call (c29) ?_; try simp (disch := omega) [go_sem, * ])
      | (with_reducible refine APure.call (c30) ?_; try simp (disch := omega) [go_sem, * ])
      | (with_reducible refine APure.call (c31) ?_; try simp (disch := omega) [go_sem, * ])
      | (with_reducible refine APure.call (c32) ?_; try simp (disch := omega) [go_sem, * ])
      | (with_reducible refine APure.call (c33) ?_; try simp (disch := omega) [go_sem, * ])
      | (with_reducible refine APure.call (c22) ?_; try simp (disch := omega) [go_sem, *, upd_ne ])
      | (refine ac_block ?_)
      | (refine ac_skip ?_; simp only [thenA])
      | (refine ac_exit ?_; simp only [thenA, blockA, if_true, if_false, Nat.reduceEqDiff])
      | (with_reducible show nextK _ _ _ _ _ _ _; simp (disch := omega) [go_sem, *, wrap64_id, upd_ne, mk3_true, flatten_replicate_one, stepK_if, ilt_true, ilt_false, ile_true, ile_false, Try.ntmps8 ])
      | (refine wantK_split (fun hc => ?_) (fun hc => ?_) <;> (try simp only [Bool.not_eq_true', Bool.not_eq_false', Bool.not_eq_eq_eq_not, Bool.not_true, Bool.not_false, decide_eq_true_eq, decide_eq_false_iff_not, Int.not_lt, Int.not_le] at hc) <;> (try (exfalso; omega)) <;> (try simp (disch := omega) [go_sem, *, wrap64_id, upd_ne, mk3_true, flatten_replicate_one, stepK_if, ilt_true, ilt_false, ile_true, ile_false, Try.ntmps8 ]))
      | (refine ac_cond_h fun Kt Kf ht hf => ?_; simp (disch := omega) [go_sem, * ]; try (refine ⟨fun hc => ?_, fun hc => ?_⟩ <;> try (exfalso; omega))))
    all_goals (refine ac_ret ?_; try dsimp only [thenA, blockA]; refine ⟨by simp, _, (by first | rfl | (simp (disch := omega) [go_sem, upd_ne] <;> rfl)), ?_⟩; refine ret_id ⟨fun k hk => (by first | rfl | (repeat rw [upd_ne _ _ _ _ (by omega)])), (by simp [go_sem, below]), (by simp [go_sem] <;> omega), by simp, by simp⟩)
end Go.AM
