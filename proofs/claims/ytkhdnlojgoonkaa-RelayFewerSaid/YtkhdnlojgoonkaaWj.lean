/- Walks: the specification's Closed; the program's parts, AppendSeq and Collect. Conditions: as each theorem says. -/
import Derived.Test.YtkhdnlojgoonkaaWi
namespace Go.AM
open Go.Proofs Nets
set_option maxRecDepth 10000
set_option maxHeartbeats 4000000
theorem wk_empty {x : AV} (G : Gh) (v : Value) (hv : Rv G (.tup [.agg [iv .i64 0, .fslc true true 0 []], x]) v) : Rv G (.tup [encNet ⟨0, true, []⟩, x]) v := by
  simp only [RvL, Rv] at hv ⊢
  obtain ⟨vs, e0, u0, r0, e1, ⟨ws, e2, u1, r1, f1, g1, u2, r2, f2, ⟨aa, cap, k1, k2, k3, k4, k5⟩, f3⟩, h2⟩ := hv
  exact ⟨vs, e0, u0, r0, e1, ⟨ws, e2, u1, r1, f1, g1, u2, r2, f2, ⟨aa, cap, k1, k2, by simp, fun _ => k4 trivial, by simp⟩, f3⟩, h2⟩
theorem ap_span {nm m : Nat} {L X : List AV} {nl full : Bool} {h : AHeap} (hm : h m = acO L) (hL : ∀ x ∈ L, (cellsOf x).length = 2) (hX : X ≠ []) (hl : L.length + X.length ≤ 67108864) :
    aAppend Try.prog nm 25 (acV 2 m L) (.fslc nl full 2 X) h = some (acV 2 nm (L ++ X), (h.upd m none).upd nm (acO (L ++ X))) :=
  ap_ac (e := 54) (by_ := 16) (z := .agg [iv .i64 0, iv .i64 0]) (by kernel_rfl) (by kernel_rfl) (by kernel_rfl) (by kernel_rfl) ⟨by decide, rfl, rfl, by decide⟩ hm hL hX hl
theorem ap_link {nm m : Nat} {L X : List AV} {nl full : Bool} {h : AHeap} (hm : h m = acO L) (hL : ∀ x ∈ L, (cellsOf x).length = 4) (hX : X ≠ []) (hl : L.length + X.length ≤ 67108864) :
    aAppend Try.prog nm 22 (acV 4 m L) (.fslc nl full 4 X) h = some (acV 4 nm (L ++ X), (h.upd m none).upd nm (acO (L ++ X))) :=
  ap_ac (e := 27) (by_ := 48) (z := .agg [iv .i64 0, iv .i64 0, iv .i64 0, .fslc true true 0 []]) (by kernel_rfl) (by kernel_rfl) (by kernel_rfl) (by kernel_rfl) ⟨by decide, rfl, rfl, by decide⟩ hm hL hX hl
def partsA (s : Span) (l : List Span) : List AV := (partsOf s l).map encSpan
theorem partsA_snoc {s : Span} {l : List Span} {k : Nat} {x : Span} (h : l[k]? = some x) : partsA s (l.take (k + 1)) = partsA s (l.take k) ++ (cutS s x).map encSpan := by rw [partsA, partsOf_snoc h, List.map_append]; rfl
theorem partsA_cells {s : Span} {l : List Span} : ∀ x ∈ partsA s l, (cellsOf x).length = 2 := fun x hx => by
  obtain ⟨y, _, rfl⟩ := List.mem_map.1 hx; rfl
theorem elems_pairs : ∀ L : List AV, (∀ y ∈ L, ∃ a b, y = .agg [a, b]) → elems true 2 L.length (flat L) = L
  | [], _ => rfl
  | x :: r, h => by
    obtain ⟨a, b, rfl⟩ := h x (by simp)
    have := elems_pairs r fun y hy => h y (by simp [hy])
    rw [flat_cons]
    simp only [elems, List.length_cons, chunk, List.map_cons, cellsOf] at this ⊢
    simp [mkElem, this]
theorem partsA_elems (s : Span) (l : List Span) : elems true 2 (partsA s l).length (flat (partsA s l)) = partsA s l :=
  elems_pairs _ fun y hy => by obtain ⟨x, _, rfl⟩ := List.mem_map.1 hy; exact ⟨_, _, rfl⟩
def linksA (s : Span) (l : List Link) : List AV := l.map fun x => encLink (closedL s x)
theorem linksA_snoc {s : Span} {l : List Link} {k : Nat} {x : Link} (h : l[k]? = some x) : linksA s (l.take (k + 1)) = linksA s (l.take k) ++ [encLink (closedL s x)] := by
  obtain ⟨hk, rfl⟩ := List.getElem?_eq_some_iff.1 h
  rw [List.take_succ_eq_append_getElem hk, linksA, linksA, List.map_append, List.map_cons, List.map_nil]
theorem linksA_cells {s : Span} {l : List Link} : ∀ x ∈ linksA s l, (cellsOf x).length = 4 := fun x hx => by
  obtain ⟨y, _, rfl⟩ := List.mem_map.1 hx; rfl
theorem linksA_elems (s : Span) (l : List Link) : elems true 4 (linksA s l).length (flat (linksA s l)) = linksA s l :=
  elems_flat _ fun y hy => by obtain ⟨x, _, rfl⟩ := List.mem_map.1 hy; exact ⟨_, _, _, _, rfl⟩
theorem wk_nolinks {a x : AV} (G : Gh) (v : Value) (hv : Rv G (.tup [.agg [a, .fslc true true 0 []], x]) v) : Rv G (.tup [.agg [a, .fslc true false 4 []], x]) v := by
  simp only [RvL, Rv] at hv ⊢
  obtain ⟨vs, e0, u0, r0, e1, ⟨ws, e2, u1, r1, f1, g1, u2, r2, f2, ⟨aa, cap, k1, k2, k3, k4, k5⟩, f3⟩, h2⟩ := hv
  exact ⟨vs, e0, u0, r0, e1, ⟨ws, e2, u1, r1, f1, g1, u2, r2, f2, ⟨aa, cap, k1, k2, by simp, fun _ => k4 trivial, by simp⟩, f3⟩, h2⟩
theorem closed_ref (N : Net) (s : Span) : APure Try.prog 32 [encNet N, encSpan s] (.tup [encNet (closedN N s), iv .i64 (closedE N s)]) := by
  intro h n
  refine ACalls.pure (ACalls.entry (by kernel_rfl) fun hb _ => calls_of Try.func32 rfl (by kernel_rfl) (by simp [Try.ntmps32]) ?_)
  have c17 := check_ref N
  by_cases hC : checkE N = 0
  · by_cases hs : s.lo > s.hi
    · have hE : closedE N s = 1 := by rw [closedE, if_neg (by simp [hC]), if_pos hs]
      have hN : closedN N s = ⟨0, true, []⟩ := by rw [closedN, if_neg (by rw [hE]; decide)]
      rw [hE, hN]
      clear hE hN
      repeat' (first
        | (refine ac_seq_h fun K hK => ?_)
        | (refine ac_region_h fun K hK => ?_; simp (disch := omega) [go_sem, *, upd_ne, Try.ntmps32 ])
        | (refine ac_draw_h mixed (by kernel_rfl) fun K hK => ?_; simp (disch := omega) [go_sem, *, wrap64_id, upd_ne, mk3_true, flatten_replicate_one, stepK_if, ilt_true, ilt_false, ile_true, ile_false, Try.ntmps32 ])
        | (apply Hide.out hK; clear hK K; try with_reducible dsimp only [thenA])
        | (apply Hide.out ht; clear ht hf Kt Kf)
        | (apply Hide.out hf; clear ht hf Kt Kf)
        | (clear hK K; apply Hide.out hK; clear hK K; try with_reducible dsimp only [thenA])
        | (clear hK K; clear hK K; apply Hide.out hK; clear hK K; try with_reducible dsimp only [thenA])
        | (with_reducible refine APure.call (c17) ?_; try simp (disch := omega) [go_sem, * ])
        | (refine ac_block ?_)
        | (refine ac_skip ?_; simp only [thenA])
        | (refine ac_exit ?_; simp only [thenA, blockA, if_true, if_false, Nat.reduceEqDiff])
        | (with_reducible show nextK _ _ _ _ _ _ _; simp (disch := omega) [go_sem, *, wrap64_id, upd_ne, mk3_true, flatten_replicate_one, stepK_if, ilt_true, ilt_false, ile_true, ile_false, Try.ntmps32 ])
        | (refine wantK_split (fun hc => ?_) (fun hc => ?_) <;> (try simp only [Bool.not_eq_true', Bool.not_eq_false', Bool.not_eq_eq_eq_not, Bool.not_true, Bool.not_false, decide_eq_true_eq, decide_eq_false_iff_not, Int.not_lt, Int.not_le] at hc) <;> (try (exfalso; omega)) <;> (try simp (disch := omega) [go_sem, *, wrap64_id, upd_ne, mk3_true, flatten_replicate_one, stepK_if, ilt_true, ilt_false, ile_true, ile_false, Try.ntmps32 ]))
        | (refine ac_cond_h fun Kt Kf ht hf => ?_; simp (disch := omega) [go_sem, * ]; try (refine ⟨fun hc => ?_, fun hc => ?_⟩ <;> try (exfalso; omega))))
      refine ac_ret ?_
      refine ⟨by simp, _, (by simp (disch := omega) [go_sem] <;> rfl), ?_⟩
      refine ret_weak wk_empty ?_
      refine ret_id ⟨fun k hk => ?_, by simp [below, belowL], rfl, by simp, by simp⟩
      simp (disch := omega) only [upd_ne]
    · obtain ⟨s1, s2, hll, hok⟩ := checkE_ok hC
      replace hok : Hide _ := hok
      repeat' (first
        | (refine ac_seq_h fun K hK => ?_)
        | (refine ac_region_h fun K hK => ?_; simp (disch := omega) [go_sem, *, upd_ne, Try.ntmps32 ])
        | (refine ac_draw_h mixed (by kernel_rfl) fun K hK => ?_; simp (disch := omega) [go_sem, *, wrap64_id, upd_ne, mk3_true, flatten_replicate_one, stepK_if, ilt_true, ilt_false, ile_true, ile_false, Try.ntmps32 ])
        | (apply Hide.out hK; clear hK K; try with_reducible dsimp only [thenA])
        | (apply Hide.out ht; clear ht hf Kt Kf)
        | (apply Hide.out hf; clear ht hf Kt Kf)
        | (clear hK K; apply Hide.out hK; clear hK K; try with_reducible dsimp only [thenA])
        | (clear hK K; clear hK K; apply Hide.out hK; clear hK K; try with_reducible dsimp only [thenA])
        | (with_reducible refine APure.call (c17) ?_; try simp (disch := omega) [go_sem, * ])
        | (refine ac_block ?_)
        | (refine ac_skip ?_; simp only [thenA])
        | (refine ac_exit ?_; simp only [thenA, blockA, if_true, if_false, Nat.reduceEqDiff])
        | (with_reducible show nextK _ _ _ _ _ _ _; simp (disch := omega) [go_sem, *, wrap64_id, upd_ne, mk3_true, flatten_replicate_one, stepK_if, ilt_true, ilt_false, ile_true, ile_false, Try.ntmps32 ])
        | (refine wantK_split (fun hc => ?_) (fun hc => ?_) <;> (try simp only [Bool.not_eq_true', Bool.not_eq_false', Bool.not_eq_eq_eq_not, Bool.not_true, Bool.not_false, decide_eq_true_eq, decide_eq_false_iff_not, Int.not_lt, Int.not_le] at hc) <;> (try (exfalso; omega)) <;> (try simp (disch := omega) [go_sem, *, wrap64_id, upd_ne, mk3_true, flatten_replicate_one, stepK_if, ilt_true, ilt_false, ile_true, ile_false, Try.ntmps32 ]))
        | (refine ac_cond_h fun Kt Kf ht hf => ?_; simp (disch := omega) [go_sem, * ]; try (refine ⟨fun hc => ?_, fun hc => ?_⟩ <;> try (exfalso; omega))))
      obtain ⟨o, ho⟩ : ∃ o, o = n + 4 + 3 + 2 + 5 + 3 := ⟨_, rfl⟩
      rw [← ho]
      obtain ⟨b, hbb⟩ : ∃ b, b = ((h.upd n (some (cellsNet N))).upd (n + 1) (some (.cells [iv .i64 s.lo, iv .i64 s.hi]))).upd (n + 2) (some (.cells [iv .i64 0, .fslc true true 0 []])) := ⟨_, rfl⟩
      rw [← hbb]
      have hon : n + 2 < o := by omega
      have hol : o < n + 18 := by omega
      replace ho : Hide _ := ho
      have hbn : Hide (b n = some (cellsNet N)) := by rw [Hide, hbb]; simp (disch := omega) only [upd_ne, upd_same]
      have hbn1 : Hide (b (n + 1) = some (.cells [iv .i64 s.lo, iv .i64 s.hi])) := by rw [Hide, hbb]; simp (disch := omega) only [upd_ne, upd_same]
      have hbn2 : Hide (b (n + 2) = some (.cells [iv .i64 0, .fslc true true 0 []])) := by rw [Hide, hbb]; simp (disch := omega) only [upd_same]
      have hb0 : Hide (∀ k, n + 2 < k → b k = none) := fun k hk => by rw [hbb]; simp (disch := omega) only [upd_ne]; exact hb.none (by omega)
      have hbk : Hide (∀ k, k < n → b k = h k) := fun k hk => by rw [hbb]; simp (disch := omega) only [upd_ne]
      replace hbb : Hide _ := hbb
      refine ac_loop_wk (fun s' => ∃ (n' m k : Nat), o < m ∧ m < n' ∧ k ≤ N.links.length ∧ Hide ((N.links.take k).any (fun x => decide ((partsOf s x.opn).length > 12)) = false) ∧ s' = ⟨109, [(2, .ptr n 0), (3, .ptr (n + 1) 0), (4, .ptr (n + 2) 0), (7, .ptr o 0), (8, iv .i64 k)], (b.upd o (some (.cells [iv .i64 N.st, acV 4 m (linksA s (N.links.take k))]))).upd m (acO (linksA s (N.links.take k))), n'⟩)
        (fun s => N.links.length - (intAt s 8).toNat) ?_ ?_
      · refine loop_start (by simp [go_sem]) ?_ ⟨_, o + 1, 0, by omega, by omega, by omega, by simp [Hide], rfl⟩
        show Sub ((b.upd o _).upd (o + 1) none) _
        rw [upd_none_eq (by rw [upd_ne _ _ _ _ (by omega)]; exact hb0.out _ (by omega))]
        simp only [upd_upd]
        exact Sub.refl _
      · rintro s' ⟨n', m, k, hm1, hm2, hk, hany, rfl⟩
        obtain ⟨L, hLd⟩ : ∃ L, Hide (L = linksA s (N.links.take k)) := ⟨_, rfl⟩
        rw [← hLd.out]
        obtain ⟨H, hH⟩ : ∃ H, Hide (H = (b.upd o (some (.cells [iv .i64 N.st, acV 4 m L]))).upd m (acO L)) := ⟨_, rfl⟩
        rw [← hH.out]
        have hLl : L.length = k := by rw [hLd.out, linksA, List.length_map, List.length_take]; omega
        have hLc : Hide (∀ x ∈ L, (cellsOf x).length = 4) := by rw [hLd.out]; exact linksA_cells
        have hHn : H n = some (cellsNet N) := by rw [hH.out]; simp (disch := omega) only [upd_ne]; exact hbn.out
        have hHn1 : H (n + 1) = some (.cells [iv .i64 s.lo, iv .i64 s.hi]) := by rw [hH.out]; simp (disch := omega) only [upd_ne]; exact hbn1.out
        have hHn2 : H (n + 2) = some (.cells [iv .i64 0, .fslc true true 0 []]) := by rw [hH.out]; simp (disch := omega) only [upd_ne]; exact hbn2.out
        have hHo : H o = some (.cells [iv .i64 N.st, acV 4 m L]) := by rw [hH.out]; simp (disch := omega) only [upd_ne, upd_same]
        have hHm : Hide (H m = acO L) := by rw [Hide, hH.out, upd_same]
        have hH0 : Hide (∀ k, n' ≤ k → H k = none) := fun k hk => by rw [hH.out]; simp (disch := omega) only [upd_ne]; exact hb0.out _ (by omega)
        have hHk : Hide (∀ k, k < n → H k = h k) := fun k hk => by rw [hH.out]; simp (disch := omega) only [upd_ne]; exact hbk.out k hk
        by_cases hlt : k < N.links.length
        · obtain ⟨x, hx1, hx2, _⟩ := at_k hlt
          have hnext : Hide (linksA s (N.links.take (k + 1)) = L ++ [encLink (closedL s x)]) := by rw [Hide, linksA_snoc hx2, hLd.out]
          have hxo := right_spans (hok.out x (List.mem_of_getElem? hx2)).ok
          obtain ⟨d1, d2, o1, o2⟩ := hxo
          replace o2 : Hide _ := o2
          replace hx2 : Hide _ := hx2
          repeat' (first
            | (refine ac_seq_h fun K hK => ?_)
            | (refine ac_region_h fun K hK => ?_; simp (disch := omega) [go_sem, *, ilt_true, ile_true])
            | (refine ac_draw_h mixed (by kernel_rfl) fun K hK => ?_; simp (disch := omega) [go_sem, *, wrap64_id, upd_ne, mk3_true, flatten_replicate_one, stepK_if, ilt_true, ilt_false, ile_true, ile_false, Try.ntmps32])
            | (apply Hide.out hK; clear hK K; try with_reducible dsimp only [thenA])
            | (apply Hide.out ht; clear ht hf Kt Kf)
            | (apply Hide.out hf; clear ht hf Kt Kf)
            | (clear hK K; apply Hide.out hK; clear hK K; try with_reducible dsimp only [thenA])
            | (clear hK K; clear hK K; apply Hide.out hK; clear hK K; try with_reducible dsimp only [thenA])
            | (refine ac_block ?_)
            | (refine ac_skip ?_; simp only [thenA])
            | (refine ac_exit ?_; simp only [thenA, blockA, if_true, if_false, Nat.reduceEqDiff])
            | (with_reducible show nextK _ _ _ _ _ _ _; simp (disch := omega) [go_sem, *, wrap64_id, upd_ne, mk3_true, flatten_replicate_one, stepK_if, ilt_true, ilt_false, ile_true, ile_false, Try.ntmps32])
            | (refine wantK_split (fun hc => ?_) (fun hc => ?_) <;> (try simp only [Bool.not_eq_true', Bool.not_eq_false', Bool.not_eq_eq_eq_not, Bool.not_true, Bool.not_false, decide_eq_true_eq, decide_eq_false_iff_not, Int.not_lt, Int.not_le] at hc) <;> (try (exfalso; omega)) <;> (try simp (disch := omega) [go_sem, *, wrap64_id, upd_ne, mk3_true, flatten_replicate_one, stepK_if, ilt_true, ilt_false, ile_true, ile_false, Try.ntmps32]))
            | (refine ac_cond_h fun Kt Kf ht hf => ?_; simp (disch := omega) [go_sem, *]; try (refine ⟨fun hc => ?_, fun hc => ?_⟩ <;> try (exfalso; omega))))
          obtain ⟨p, hp⟩ : ∃ p, p = n' + 5 + 5 := ⟨_, rfl⟩
          rw [← hp]
          have hpn : n' ≤ p := by omega
          have hpp : p < n' + 12 := by omega
          replace hp : Hide _ := hp
          obtain ⟨B, hB⟩ : ∃ B, Hide (B = H.upd p (some (cellsLink x))) := ⟨_, rfl⟩
          have hHp : H p = none := hH0.out _ hpn
          have hBn : B n = some (cellsNet N) := by rw [hB.out]; simp (disch := omega) only [upd_ne]; exact hHn
          have hBn1 : B (n + 1) = some (.cells [iv .i64 s.lo, iv .i64 s.hi]) := by rw [hB.out]; simp (disch := omega) only [upd_ne]; exact hHn1
          have hBn2 : B (n + 2) = some (.cells [iv .i64 0, .fslc true true 0 []]) := by rw [hB.out]; simp (disch := omega) only [upd_ne]; exact hHn2
          have hBo : B o = some (.cells [iv .i64 N.st, acV 4 m L]) := by rw [hB.out]; simp (disch := omega) only [upd_ne]; exact hHo
          have hBm : Hide (B m = acO L) := by rw [Hide, hB.out]; simp (disch := omega) only [upd_ne]; exact hHm.out
          have hBp : B p = some (cellsLink x) := by rw [hB.out, upd_same]
          have hB0 : Hide (∀ k, p < k → B k = none) := fun k hk => by rw [hB.out]; simp (disch := omega) only [upd_ne]; exact hH0.out _ (by omega)
          have hBk : Hide (∀ k, k < n → B k = h k) := fun k hk => by rw [hB.out]; simp (disch := omega) only [upd_ne]; exact hHk.out k hk
          clear hHn hHn1 hHn2 hHo hHp
          refine ac_loop_wk (fun s' => ∃ (n2 q j : Nat), n' + 12 < q ∧ q < n2 ∧ j ≤ x.opn.length ∧ s' = ⟨109, [(2, .ptr n 0), (3, .ptr (n + 1) 0), (4, .ptr (n + 2) 0), (7, .ptr o 0), (8, iv .i64 k), (9, .ptr p 0), (10, acV 2 q (partsA s (x.opn.take j))), (11, iv .i64 j)], B.upd q (acO (partsA s (x.opn.take j))), n2⟩)
            (fun s => x.opn.length - (intAt s 11).toNat) ?_ ?_
          · refine loop_start (by simp [go_sem, partsA, partsOf, acV]) ?_ ⟨_, n' + 13, 0, by omega, by omega, by omega, rfl⟩
            show Sub (B.upd (n' + 13) none) _
            rw [upd_none_eq (hB0.out _ (by omega)), upd_upd, hB.out]
            exact Sub.refl _
          · rintro s' ⟨n2, q, j, hq1, hq2, hj, rfl⟩
            obtain ⟨M, hMd⟩ : ∃ M, Hide (M = partsA s (x.opn.take j)) := ⟨_, rfl⟩
            rw [← hMd.out]
            obtain ⟨D, hD⟩ : ∃ D, Hide (D = B.upd q (acO M)) := ⟨_, rfl⟩
            rw [← hD.out]
            have hMl : M.length ≤ 24 := by
              have := partsOf_len s (x.opn.take j)
              rw [hMd.out, partsA, List.length_map]; rw [List.length_take] at this; omega
            have hMc : Hide (∀ x ∈ M, (cellsOf x).length = 2) := by rw [hMd.out]; exact partsA_cells
            have hDn : D n = some (cellsNet N) := by rw [hD.out]; simp (disch := omega) only [upd_ne]; exact hBn
            have hDn1 : D (n + 1) = some (.cells [iv .i64 s.lo, iv .i64 s.hi]) := by rw [hD.out]; simp (disch := omega) only [upd_ne]; exact hBn1
            have hDn2 : D (n + 2) = some (.cells [iv .i64 0, .fslc true true 0 []]) := by rw [hD.out]; simp (disch := omega) only [upd_ne]; exact hBn2
            have hDo : D o = some (.cells [iv .i64 N.st, acV 4 m L]) := by rw [hD.out]; simp (disch := omega) only [upd_ne]; exact hBo
            have hDp : D p = some (cellsLink x) := by rw [hD.out]; simp (disch := omega) only [upd_ne]; exact hBp
            have hDm : Hide (D m = acO L) := by rw [Hide, hD.out]; simp (disch := omega) only [upd_ne]; exact hBm.out
            have hDq : Hide (D q = acO M) := by rw [Hide, hD.out, upd_same]
            have hD0 : Hide (∀ k, n2 ≤ k → D k = none) := fun k hk => by rw [hD.out]; simp (disch := omega) only [upd_ne]; exact hB0.out _ (by omega)
            by_cases hlj : j < x.opn.length
            · obtain ⟨y, hy1, hy2, _⟩ := at_k hlj
              have hyo := o2.out j y hy2
              have hmnext : Hide (partsA s (x.opn.take (j + 1)) = M ++ (cutS s y).map encSpan) := by rw [Hide, partsA_snoc hy2, hMd.out]
              replace hy2 : Hide _ := hy2
              have hap := fun nm X hX hlX hh hm => ap_span (nm := nm) (m := q) (L := M) (X := X) (nl := false) (full := false) (h := hh) hm hMc.out hX hlX
              replace hap : Hide _ := hap
              by_cases k1 : y.hi < s.lo
              · have hcut : Hide ((cutS s y).map encSpan = [encSpan y]) := by rw [Hide, cutS, if_pos (.inl k1)]; rfl
                repeat' (first
                  | (refine ac_seq_h fun K hK => ?_)
                  | (refine ac_region_h fun K hK => ?_; simp (disch := omega) [go_sem, *, upd_ne, ilt_true, ile_true])
                  | (refine ac_draw_h mixed (by kernel_rfl) fun K hK => ?_; simp (disch := omega) [go_sem, *, wrap64_id, upd_ne, mk3_true, flatten_replicate_one, stepK_if, ilt_true, ilt_false, ile_true, ile_false, Try.ntmps32])
                  | (apply Hide.out hK; clear hK K; try with_reducible dsimp only [thenA])
                  | (apply Hide.out ht; clear ht hf Kt Kf)
                  | (apply Hide.out hf; clear ht hf Kt Kf)
                  | (clear hK K; apply Hide.out hK; clear hK K; try with_reducible dsimp only [thenA])
                  | (clear hK K; clear hK K; apply Hide.out hK; clear hK K; try with_reducible dsimp only [thenA])
                  | (refine ac_block ?_)
                  | (refine ac_skip ?_; simp only [thenA])
                  | (refine ac_exit ?_; simp only [thenA, blockA, if_true, if_false, Nat.reduceEqDiff])
                  | (with_reducible show nextK _ _ _ _ _ _ _; simp (disch := omega) [go_sem, *, wrap64_id, upd_ne, mk3_true, flatten_replicate_one, stepK_if, ilt_true, ilt_false, ile_true, ile_false, Try.ntmps32])
                  | (refine wantK_split (fun hc => ?_) (fun hc => ?_) <;> (try simp only [Bool.not_eq_true', Bool.not_eq_false', Bool.not_eq_eq_eq_not, Bool.not_true, Bool.not_false, decide_eq_true_eq, decide_eq_false_iff_not, Int.not_lt, Int.not_le] at hc) <;> (try (exfalso; omega)) <;> (try simp (disch := omega) [go_sem, *, wrap64_id, upd_ne, mk3_true, flatten_replicate_one, stepK_if, ilt_true, ilt_false, ile_true, ile_false, Try.ntmps32]))
                  | (refine ac_cond_h fun Kt Kf ht hf => ?_; simp (disch := omega) [go_sem, *]; try (refine ⟨fun hc => ?_, fun hc => ?_⟩ <;> try (exfalso; omega))))
                rw [hap.out _ _ (by simp) (by simp; omega) _ (by simp (disch := omega) only [upd_ne]; exact hDq.out)]
                simp only [stepK]
                repeat' (first
                  | (refine ac_seq_h fun K hK => ?_)
                  | (refine ac_region_h fun K hK => ?_; simp (disch := omega) [go_sem, *, wrap64_id])
                  | (refine ac_draw_h mixed (by kernel_rfl) fun K hK => ?_; simp (disch := omega) [go_sem, *, wrap64_id, upd_ne, mk3_true, flatten_replicate_one, stepK_if, ilt_true, ilt_false, ile_true, ile_false, Try.ntmps32])
                  | (apply Hide.out hK; clear hK K; try with_reducible dsimp only [thenA])
                  | (apply Hide.out ht; clear ht hf Kt Kf)
                  | (apply Hide.out hf; clear ht hf Kt Kf)
                  | (clear hK K; apply Hide.out hK; clear hK K; try with_reducible dsimp only [thenA])
                  | (clear hK K; clear hK K; apply Hide.out hK; clear hK K; try with_reducible dsimp only [thenA])
                  | (refine ac_block ?_)
                  | (refine ac_skip ?_; simp only [thenA, blockA])
                  | (refine ac_exit ?_; simp only [thenA, blockA, if_true, if_false, Nat.reduceEqDiff])
                  | (with_reducible show nextK _ _ _ _ _ _ _; simp (disch := omega) [go_sem, *])
                  | (refine wantK_split (fun hc => ?_) (fun hc => ?_) <;> (try simp only [Bool.not_eq_true', Bool.not_eq_false', Bool.not_eq_eq_eq_not, Bool.not_true, Bool.not_false, decide_eq_true_eq, decide_eq_false_iff_not, Int.not_lt, Int.not_le] at hc) <;> (try (exfalso; omega)) <;> (try simp (disch := omega) [go_sem, *, wrap64_id, upd_ne, mk3_true, flatten_replicate_one, stepK_if, ilt_true, ilt_false, ile_true, ile_false, Try.ntmps32]))
                  | (refine ac_cond_h fun Kt Kf ht hf => ?_; simp (disch := omega) [go_sem, *, wrap64_id, upd_ne, mk3_true, flatten_replicate_one, stepK_if, ilt_true, ilt_false, ile_true, ile_false, Try.ntmps32]; try (refine ⟨fun hc => ?_, fun hc => ?_⟩ <;> try (exfalso; omega))))
                have hnx := hmnext.out
                rw [hcut.out] at hnx
                refine round_end (by simp [go_sem, hnx]) ?_ ⟨_, n2 + 5 + 7 + 12 + 3, j + 1, by omega, by omega, by omega, rfl⟩ (by simp [intAt, go_sem]; omega)
                rw [hnx]
                refine Sub.both ?_ _ _
                rw [hD.out]
                repeat (first | exact Sub.refl _ | refine Sub.upd ?_ (hB0.out _ (by omega)) _)
              by_cases k2 : s.hi < y.lo
              · have hcut : Hide ((cutS s y).map encSpan = [encSpan y]) := by rw [Hide, cutS, if_pos (.inr k2)]; rfl
                repeat' (first
                  | (refine ac_seq_h fun K hK => ?_)
                  | (refine ac_region_h fun K hK => ?_; simp (disch := omega) [go_sem, *, upd_ne, ilt_true, ile_true])
                  | (refine ac_draw_h mixed (by kernel_rfl) fun K hK => ?_; simp (disch := omega) [go_sem, *, wrap64_id, upd_ne, mk3_true, flatten_replicate_one, stepK_if, ilt_true, ilt_false, ile_true, ile_false, Try.ntmps32])
                  | (apply Hide.out hK; clear hK K; try with_reducible dsimp only [thenA])
                  | (apply Hide.out ht; clear ht hf Kt Kf)
                  | (apply Hide.out hf; clear ht hf Kt Kf)
                  | (clear hK K; apply Hide.out hK; clear hK K; try with_reducible dsimp only [thenA])
                  | (clear hK K; clear hK K; apply Hide.out hK; clear hK K; try with_reducible dsimp only [thenA])
                  | (refine ac_block ?_)
                  | (refine ac_skip ?_; simp only [thenA])
                  | (refine ac_exit ?_; simp only [thenA, blockA, if_true, if_false, Nat.reduceEqDiff])
                  | (with_reducible show nextK _ _ _ _ _ _ _; simp (disch := omega) [go_sem, *, wrap64_id, upd_ne, mk3_true, flatten_replicate_one, stepK_if, ilt_true, ilt_false, ile_true, ile_false, Try.ntmps32])
                  | (refine wantK_split (fun hc => ?_) (fun hc => ?_) <;> (try simp only [Bool.not_eq_true', Bool.not_eq_false', Bool.not_eq_eq_eq_not, Bool.not_true, Bool.not_false, decide_eq_true_eq, decide_eq_false_iff_not, Int.not_lt, Int.not_le] at hc) <;> (try (exfalso; omega)) <;> (try simp (disch := omega) [go_sem, *, wrap64_id, upd_ne, mk3_true, flatten_replicate_one, stepK_if, ilt_true, ilt_false, ile_true, ile_false, Try.ntmps32]))
                  | (refine ac_cond_h fun Kt Kf ht hf => ?_; simp (disch := omega) [go_sem, *]; try (refine ⟨fun hc => ?_, fun hc => ?_⟩ <;> try (exfalso; omega))))
                rw [hap.out _ _ (by simp) (by simp; omega) _ (by simp (disch := omega) only [upd_ne]; exact hDq.out)]
                simp only [stepK]
                repeat' (first
                  | (refine ac_seq_h fun K hK => ?_)
                  | (refine ac_region_h fun K hK => ?_; simp (disch := omega) [go_sem, *, wrap64_id])
                  | (refine ac_draw_h mixed (by kernel_rfl) fun K hK => ?_; simp (disch := omega) [go_sem, *, wrap64_id, upd_ne, mk3_true, flatten_replicate_one, stepK_if, ilt_true, ilt_false, ile_true, ile_false, Try.ntmps32])
                  | (apply Hide.out hK; clear hK K; try with_reducible dsimp only [thenA])
                  | (apply Hide.out ht; clear ht hf Kt Kf)
                  | (apply Hide.out hf; clear ht hf Kt Kf)
                  | (clear hK K; apply Hide.out hK; clear hK K; try with_reducible dsimp only [thenA])
                  | (clear hK K; clear hK K; apply Hide.out hK; clear hK K; try with_reducible dsimp only [thenA])
                  | (refine ac_block ?_)
                  | (refine ac_skip ?_; simp only [thenA, blockA])
                  | (refine ac_exit ?_; simp only [thenA, blockA, if_true, if_false, Nat.reduceEqDiff])
                  | (with_reducible show nextK _ _ _ _ _ _ _; simp (disch := omega) [go_sem, *])
                  | (refine wantK_split (fun hc => ?_) (fun hc => ?_) <;> (try simp only [Bool.not_eq_true', Bool.not_eq_false', Bool.not_eq_eq_eq_not, Bool.not_true, Bool.not_false, decide_eq_true_eq, decide_eq_false_iff_not, Int.not_lt, Int.not_le] at hc) <;> (try (exfalso; omega)) <;> (try simp (disch := omega) [go_sem, *, wrap64_id, upd_ne, mk3_true, flatten_replicate_one, stepK_if, ilt_true, ilt_false, ile_true, ile_false, Try.ntmps32]))
                  | (refine ac_cond_h fun Kt Kf ht hf => ?_; simp (disch := omega) [go_sem, *, wrap64_id, upd_ne, mk3_true, flatten_replicate_one, stepK_if, ilt_true, ilt_false, ile_true, ile_false, Try.ntmps32]; try (refine ⟨fun hc => ?_, fun hc => ?_⟩ <;> try (exfalso; omega))))
                have hnx := hmnext.out
                rw [hcut.out] at hnx
                refine round_end (by simp [go_sem, hnx]) ?_ ⟨_, n2 + 5 + 7 + 12 + 3, j + 1, by omega, by omega, by omega, rfl⟩ (by simp [intAt, go_sem]; omega)
                rw [hnx]
                refine Sub.both ?_ _ _
                rw [hD.out]
                repeat (first | exact Sub.refl _ | refine Sub.upd ?_ (hB0.out _ (by omega)) _)
              by_cases k3 : y.lo < s.lo <;> by_cases k4 : s.hi < y.hi
              · have hcut : Hide ((cutS s y).map encSpan = [encSpan ⟨y.lo, s.lo - 1⟩, encSpan ⟨s.hi + 1, y.hi⟩]) := by rw [Hide, cutS, if_neg (by omega), if_pos k3, if_pos k4]; rfl
                repeat' (first
                  | (refine ac_seq_h fun K hK => ?_)
                  | (refine ac_region_h fun K hK => ?_; simp (disch := omega) [go_sem, *, wrap64_id, upd_ne, ilt_true, ile_true])
                  | (refine ac_draw_h mixed (by kernel_rfl) fun K hK => ?_; simp (disch := omega) [go_sem, *, wrap64_id, upd_ne, mk3_true, flatten_replicate_one, stepK_if, ilt_true, ilt_false, ile_true, ile_false, Try.ntmps32])
                  | (apply Hide.out hK; clear hK K; try with_reducible dsimp only [thenA])
                  | (apply Hide.out ht; clear ht hf Kt Kf)
                  | (apply Hide.out hf; clear ht hf Kt Kf)
                  | (clear hK K; apply Hide.out hK; clear hK K; try with_reducible dsimp only [thenA])
                  | (clear hK K; clear hK K; apply Hide.out hK; clear hK K; try with_reducible dsimp only [thenA])
                  | (refine ac_block ?_)
                  | (refine ac_skip ?_; simp only [thenA])
                  | (refine ac_exit ?_; simp only [thenA, blockA, if_true, if_false, Nat.reduceEqDiff])
                  | (with_reducible show nextK _ _ _ _ _ _ _; simp (disch := omega) [go_sem, *, wrap64_id, upd_ne, mk3_true, flatten_replicate_one, stepK_if, ilt_true, ilt_false, ile_true, ile_false, Try.ntmps32])
                  | (refine wantK_split (fun hc => ?_) (fun hc => ?_) <;> (try simp only [Bool.not_eq_true', Bool.not_eq_false', Bool.not_eq_eq_eq_not, Bool.not_true, Bool.not_false, decide_eq_true_eq, decide_eq_false_iff_not, Int.not_lt, Int.not_le] at hc) <;> (try (exfalso; omega)) <;> (try simp (disch := omega) [go_sem, *, wrap64_id, upd_ne, mk3_true, flatten_replicate_one, stepK_if, ilt_true, ilt_false, ile_true, ile_false, Try.ntmps32]))
                  | (refine ac_cond_h fun Kt Kf ht hf => ?_; simp (disch := omega) [go_sem, *]; try (refine ⟨fun hc => ?_, fun hc => ?_⟩ <;> try (exfalso; omega))))
                rw [hap.out _ _ (by simp) (by simp; omega) _ (by simp (disch := omega) only [upd_ne]; exact hDq.out)]
                simp only [stepK]
                repeat' (first
                  | (refine ac_seq_h fun K hK => ?_)
                  | (refine ac_region_h fun K hK => ?_; simp (disch := omega) [go_sem, *, wrap64_id, upd_ne])
                  | (refine ac_draw_h mixed (by kernel_rfl) fun K hK => ?_; simp (disch := omega) [go_sem, *, wrap64_id, upd_ne, mk3_true, flatten_replicate_one, stepK_if, ilt_true, ilt_false, ile_true, ile_false, Try.ntmps32])
                  | (apply Hide.out hK; clear hK K; try with_reducible dsimp only [thenA])
                  | (apply Hide.out ht; clear ht hf Kt Kf)
                  | (apply Hide.out hf; clear ht hf Kt Kf)
                  | (clear hK K; apply Hide.out hK; clear hK K; try with_reducible dsimp only [thenA])
                  | (clear hK K; clear hK K; apply Hide.out hK; clear hK K; try with_reducible dsimp only [thenA])
                  | (refine ac_block ?_)
                  | (refine ac_skip ?_; simp only [thenA, blockA])
                  | (refine ac_exit ?_; simp only [thenA, blockA, if_true, if_false, Nat.reduceEqDiff])
                  | (with_reducible show nextK _ _ _ _ _ _ _; simp (disch := omega) [go_sem, *])
                  | (refine wantK_split (fun hc => ?_) (fun hc => ?_) <;> (try simp only [Bool.not_eq_true', Bool.not_eq_false', Bool.not_eq_eq_eq_not, Bool.not_true, Bool.not_false, decide_eq_true_eq, decide_eq_false_iff_not, Int.not_lt, Int.not_le] at hc) <;> (try (exfalso; omega)) <;> (try simp (disch := omega) [go_sem, *, wrap64_id, upd_ne, mk3_true, flatten_replicate_one, stepK_if, ilt_true, ilt_false, ile_true, ile_false, Try.ntmps32]))
                  | (refine ac_cond_h fun Kt Kf ht hf => ?_; simp (disch := omega) [go_sem, *]; try (refine ⟨fun hc => ?_, fun hc => ?_⟩ <;> try (exfalso; omega))))
                rw [ap_span ?h1 ?h2 ?h3 ?h4]
                case h1 => exact upd_same _ _ _
                case h2 =>
                  intro x hx; rcases List.mem_append.1 hx with h' | h'
                  · exact hMc.out x h'
                  · simp at h'; subst h'; rfl
                case h3 => simp
                case h4 => simp; omega
                simp only [stepK]
                repeat' (first
                  | (refine ac_seq_h fun K hK => ?_)
                  | (refine ac_region_h fun K hK => ?_; simp (disch := omega) [go_sem, *, wrap64_id])
                  | (refine ac_draw_h mixed (by kernel_rfl) fun K hK => ?_; simp (disch := omega) [go_sem, *, wrap64_id, upd_ne, mk3_true, flatten_replicate_one, stepK_if, ilt_true, ilt_false, ile_true, ile_false, Try.ntmps32])
                  | (apply Hide.out hK; clear hK K; try with_reducible dsimp only [thenA])
                  | (apply Hide.out ht; clear ht hf Kt Kf)
                  | (apply Hide.out hf; clear ht hf Kt Kf)
                  | (clear hK K; apply Hide.out hK; clear hK K; try with_reducible dsimp only [thenA])
                  | (clear hK K; clear hK K; apply Hide.out hK; clear hK K; try with_reducible dsimp only [thenA])
                  | (refine ac_block ?_)
                  | (refine ac_skip ?_; simp only [thenA, blockA])
                  | (refine ac_exit ?_; simp only [thenA, blockA, if_true, if_false, Nat.reduceEqDiff])
                  | (with_reducible show nextK _ _ _ _ _ _ _; simp (disch := omega) [go_sem, *])
                  | (refine wantK_split (fun hc => ?_) (fun hc => ?_) <;> (try simp only [Bool.not_eq_true', Bool.not_eq_false', Bool.not_eq_eq_eq_not, Bool.not_true, Bool.not_false, decide_eq_true_eq, decide_eq_false_iff_not, Int.not_lt, Int.not_le] at hc) <;> (try (exfalso; omega)) <;> (try simp (disch := omega) [go_sem, *, wrap64_id, upd_ne, mk3_true, flatten_replicate_one, stepK_if, ilt_true, ilt_false, ile_true, ile_false, Try.ntmps32]))
                  | (refine ac_cond_h fun Kt Kf ht hf => ?_; simp (disch := omega) [go_sem, *, wrap64_id, upd_ne, mk3_true, flatten_replicate_one, stepK_if, ilt_true, ilt_false, ile_true, ile_false, Try.ntmps32]; try (refine ⟨fun hc => ?_, fun hc => ?_⟩ <;> try (exfalso; omega))))
                have hnx := hmnext.out
                rw [hcut.out] at hnx
                refine round_end (by simp [go_sem, hnx]) ?_ ⟨_, n2 + 5 + 7 + 12 + 5 + 10 + 5 + 8, j + 1, by omega, by omega, by omega, rfl⟩ (by simp [intAt, go_sem]; omega)
                rw [hnx]
                try simp only [List.append_assoc, List.singleton_append]
                refine Sub.both ?_ _ _
                rw [hD.out]
                repeat (first | exact Sub.refl _ | refine Sub.upd ?_ (hB0.out _ (by omega)) _)
              · have hcut : Hide ((cutS s y).map encSpan = [encSpan ⟨y.lo, s.lo - 1⟩]) := by rw [Hide, cutS, if_neg (by omega), if_pos k3, if_neg k4]; rfl
                repeat' (first
                  | (refine ac_seq_h fun K hK => ?_)
                  | (refine ac_region_h fun K hK => ?_; simp (disch := omega) [go_sem, *, wrap64_id, upd_ne, ilt_true, ile_true])
                  | (refine ac_draw_h mixed (by kernel_rfl) fun K hK => ?_; simp (disch := omega) [go_sem, *, wrap64_id, upd_ne, mk3_true, flatten_replicate_one, stepK_if, ilt_true, ilt_false, ile_true, ile_false, Try.ntmps32])
                  | (apply Hide.out hK; clear hK K; try with_reducible dsimp only [thenA])
                  | (apply Hide.out ht; clear ht hf Kt Kf)
                  | (apply Hide.out hf; clear ht hf Kt Kf)
                  | (clear hK K; apply Hide.out hK; clear hK K; try with_reducible dsimp only [thenA])
                  | (clear hK K; clear hK K; apply Hide.out hK; clear hK K; try with_reducible dsimp only [thenA])
                  | (refine ac_block ?_)
                  | (refine ac_skip ?_; simp only [thenA])
                  | (refine ac_exit ?_; simp only [thenA, blockA, if_true, if_false, Nat.reduceEqDiff])
                  | (with_reducible show nextK _ _ _ _ _ _ _; simp (disch := omega) [go_sem, *, wrap64_id, upd_ne, mk3_true, flatten_replicate_one, stepK_if, ilt_true, ilt_false, ile_true, ile_false, Try.ntmps32])
                  | (refine wantK_split (fun hc => ?_) (fun hc => ?_) <;> (try simp only [Bool.not_eq_true', Bool.not_eq_false', Bool.not_eq_eq_eq_not, Bool.not_true, Bool.not_false, decide_eq_true_eq, decide_eq_false_iff_not, Int.not_lt, Int.not_le] at hc) <;> (try (exfalso; omega)) <;> (try simp (disch := omega) [go_sem, *, wrap64_id, upd_ne, mk3_true, flatten_replicate_one, stepK_if, ilt_true, ilt_false, ile_true, ile_false, Try.ntmps32]))
                  | (refine ac_cond_h fun Kt Kf ht hf => ?_; simp (disch := omega) [go_sem, *]; try (refine ⟨fun hc => ?_, fun hc => ?_⟩ <;> try (exfalso; omega))))
                rw [hap.out _ _ (by simp) (by simp; omega) _ (by simp (disch := omega) only [upd_ne]; exact hDq.out)]
                simp only [stepK]
                repeat' (first
                  | (refine ac_seq_h fun K hK => ?_)
                  | (refine ac_region_h fun K hK => ?_; simp (disch := omega) [go_sem, *, wrap64_id, upd_ne])
                  | (refine ac_draw_h mixed (by kernel_rfl) fun K hK => ?_; simp (disch := omega) [go_sem, *, wrap64_id, upd_ne, mk3_true, flatten_replicate_one, stepK_if, ilt_true, ilt_false, ile_true, ile_false, Try.ntmps32])
                  | (apply Hide.out hK; clear hK K; try with_reducible dsimp only [thenA])
                  | (apply Hide.out ht; clear ht hf Kt Kf)
                  | (apply Hide.out hf; clear ht hf Kt Kf)
                  | (clear hK K; apply Hide.out hK; clear hK K; try with_reducible dsimp only [thenA])
                  | (clear hK K; clear hK K; apply Hide.out hK; clear hK K; try with_reducible dsimp only [thenA])
                  | (refine ac_block ?_)
                  | (refine ac_skip ?_; simp only [thenA, blockA])
                  | (refine ac_exit ?_; simp only [thenA, blockA, if_true, if_false, Nat.reduceEqDiff])
                  | (with_reducible show nextK _ _ _ _ _ _ _; simp (disch := omega) [go_sem, *])
                  | (refine wantK_split (fun hc => ?_) (fun hc => ?_) <;> (try simp only [Bool.not_eq_true', Bool.not_eq_false', Bool.not_eq_eq_eq_not, Bool.not_true, Bool.not_false, decide_eq_true_eq, decide_eq_false_iff_not, Int.not_lt, Int.not_le] at hc) <;> (try (exfalso; omega)) <;> (try simp (disch := omega) [go_sem, *, wrap64_id, upd_ne, mk3_true, flatten_replicate_one, stepK_if, ilt_true, ilt_false, ile_true, ile_false, Try.ntmps32]))
                  | (refine ac_cond_h fun Kt Kf ht hf => ?_; simp (disch := omega) [go_sem, *]; try (refine ⟨fun hc => ?_, fun hc => ?_⟩ <;> try (exfalso; omega))))
                have hnx := hmnext.out
                rw [hcut.out] at hnx
                refine round_end (by simp [go_sem, hnx]) ?_ ⟨_, n2 + 5 + 7 + 12 + 5 + 8, j + 1, by omega, by omega, by omega, rfl⟩ (by simp [intAt, go_sem]; omega)
                rw [hnx]
                refine Sub.both ?_ _ _
                rw [hD.out]
                repeat (first | exact Sub.refl _ | refine Sub.upd ?_ (hB0.out _ (by omega)) _)
              · have hcut : Hide ((cutS s y).map encSpan = [encSpan ⟨s.hi + 1, y.hi⟩]) := by rw [Hide, cutS, if_neg (by omega), if_neg k3, if_pos k4]; rfl
                repeat' (first
                  | (refine ac_seq_h fun K hK => ?_)
                  | (refine ac_region_h fun K hK => ?_; simp (disch := omega) [go_sem, *, wrap64_id, upd_ne, ilt_true, ile_true])
                  | (refine ac_draw_h mixed (by kernel_rfl) fun K hK => ?_; simp (disch := omega) [go_sem, *, wrap64_id, upd_ne, mk3_true, flatten_replicate_one, stepK_if, ilt_true, ilt_false, ile_true, ile_false, Try.ntmps32])
                  | (apply Hide.out hK; clear hK K; try with_reducible dsimp only [thenA])
                  | (apply Hide.out ht; clear ht hf Kt Kf)
                  | (apply Hide.out hf; clear ht hf Kt Kf)
                  | (clear hK K; apply Hide.out hK; clear hK K; try with_reducible dsimp only [thenA])
                  | (clear hK K; clear hK K; apply Hide.out hK; clear hK K; try with_reducible dsimp only [thenA])
                  | (refine ac_block ?_)
                  | (refine ac_skip ?_; simp only [thenA])
                  | (refine ac_exit ?_; simp only [thenA, blockA, if_true, if_false, Nat.reduceEqDiff])
                  | (with_reducible show nextK _ _ _ _ _ _ _; simp (disch := omega) [go_sem, *, wrap64_id, upd_ne, mk3_true, flatten_replicate_one, stepK_if, ilt_true, ilt_false, ile_true, ile_false, Try.ntmps32])
                  | (refine wantK_split (fun hc => ?_) (fun hc => ?_) <;> (try simp only [Bool.not_eq_true', Bool.not_eq_false', Bool.not_eq_eq_eq_not, Bool.not_true, Bool.not_false, decide_eq_true_eq, decide_eq_false_iff_not, Int.not_lt, Int.not_le] at hc) <;> (try (exfalso; omega)) <;> (try simp (disch := omega) [go_sem, *, wrap64_id, upd_ne, mk3_true, flatten_replicate_one, stepK_if, ilt_true, ilt_false, ile_true, ile_false, Try.ntmps32]))
                  | (refine ac_cond_h fun Kt Kf ht hf => ?_; simp (disch := omega) [go_sem, *]; try (refine ⟨fun hc => ?_, fun hc => ?_⟩ <;> try (exfalso; omega))))
                rw [hap.out _ _ (by simp) (by simp; omega) _ (by simp (disch := omega) only [upd_ne]; exact hDq.out)]
                simp only [stepK]
                repeat' (first
                  | (refine ac_seq_h fun K hK => ?_)
                  | (refine ac_region_h fun K hK => ?_; simp (disch := omega) [go_sem, *, wrap64_id])
                  | (refine ac_draw_h mixed (by kernel_rfl) fun K hK => ?_; simp (disch := omega) [go_sem, *, wrap64_id, upd_ne, mk3_true, flatten_replicate_one, stepK_if, ilt_true, ilt_false, ile_true, ile_false, Try.ntmps32])
                  | (apply Hide.out hK; clear hK K; try with_reducible dsimp only [thenA])
                  | (apply Hide.out ht; clear ht hf Kt Kf)
                  | (apply Hide.out hf; clear ht hf Kt Kf)
                  | (clear hK K; apply Hide.out hK; clear hK K; try with_reducible dsimp only [thenA])
                  | (clear hK K; clear hK K; apply Hide.out hK; clear hK K; try with_reducible dsimp only [thenA])
                  | (refine ac_block ?_)
                  | (refine ac_skip ?_; simp only [thenA, blockA])
                  | (refine ac_exit ?_; simp only [thenA, blockA, if_true, if_false, Nat.reduceEqDiff])
                  | (with_reducible show nextK _ _ _ _ _ _ _; simp (disch := omega) [go_sem, *])
                  | (refine wantK_split (fun hc => ?_) (fun hc => ?_) <;> (try simp only [Bool.not_eq_true', Bool.not_eq_false', Bool.not_eq_eq_eq_not, Bool.not_true, Bool.not_false, decide_eq_true_eq, decide_eq_false_iff_not, Int.not_lt, Int.not_le] at hc) <;> (try (exfalso; omega)) <;> (try simp (disch := omega) [go_sem, *, wrap64_id, upd_ne, mk3_true, flatten_replicate_one, stepK_if, ilt_true, ilt_false, ile_true, ile_false, Try.ntmps32]))
                  | (refine ac_cond_h fun Kt Kf ht hf => ?_; simp (disch := omega) [go_sem, *, wrap64_id, upd_ne, mk3_true, flatten_replicate_one, stepK_if, ilt_true, ilt_false, ile_true, ile_false, Try.ntmps32]; try (refine ⟨fun hc => ?_, fun hc => ?_⟩ <;> try (exfalso; omega))))
                have hnx := hmnext.out
                rw [hcut.out] at hnx
                refine round_end (by simp [go_sem, hnx]) ?_ ⟨_, n2 + 5 + 7 + 12 + 5 + 5 + 8, j + 1, by omega, by omega, by omega, rfl⟩ (by simp [intAt, go_sem]; omega)
                rw [hnx]
                refine Sub.both ?_ _ _
                rw [hD.out]
                repeat (first | exact Sub.refl _ | refine Sub.upd ?_ (hB0.out _ (by omega)) _)
              · have hcut : Hide ((cutS s y).map encSpan = []) := by rw [Hide, cutS, if_neg (by omega), if_neg k3, if_neg k4]; rfl
                repeat' (first
                  | (refine ac_seq_h fun K hK => ?_)
                  | (refine ac_region_h fun K hK => ?_; simp (disch := omega) [go_sem, *, wrap64_id, upd_ne, ilt_true, ile_true])
                  | (refine ac_draw_h mixed (by kernel_rfl) fun K hK => ?_; simp (disch := omega) [go_sem, *, wrap64_id, upd_ne, mk3_true, flatten_replicate_one, stepK_if, ilt_true, ilt_false, ile_true, ile_false, Try.ntmps32])
                  | (apply Hide.out hK; clear hK K; try with_reducible dsimp only [thenA])
                  | (apply Hide.out ht; clear ht hf Kt Kf)
                  | (apply Hide.out hf; clear ht hf Kt Kf)
                  | (clear hK K; apply Hide.out hK; clear hK K; try with_reducible dsimp only [thenA])
                  | (clear hK K; clear hK K; apply Hide.out hK; clear hK K; try with_reducible dsimp only [thenA])
                  | (refine ac_block ?_)
                  | (refine ac_skip ?_; simp only [thenA, blockA])
                  | (refine ac_exit ?_; simp only [thenA, blockA, if_true, if_false, Nat.reduceEqDiff])
                  | (with_reducible show nextK _ _ _ _ _ _ _; simp (disch := omega) [go_sem, *, wrap64_id, upd_ne, mk3_true, flatten_replicate_one, stepK_if, ilt_true, ilt_false, ile_true, ile_false, Try.ntmps32])
                  | (refine wantK_split (fun hc => ?_) (fun hc => ?_) <;> (try simp only [Bool.not_eq_true', Bool.not_eq_false', Bool.not_eq_eq_eq_not, Bool.not_true, Bool.not_false, decide_eq_true_eq, decide_eq_false_iff_not, Int.not_lt, Int.not_le] at hc) <;> (try (exfalso; omega)) <;> (try simp (disch := omega) [go_sem, *, wrap64_id, upd_ne, mk3_true, flatten_replicate_one, stepK_if, ilt_true, ilt_false, ile_true, ile_false, Try.ntmps32]))
                  | (refine ac_cond_h fun Kt Kf ht hf => ?_; simp (disch := omega) [go_sem, *]; try (refine ⟨fun hc => ?_, fun hc => ?_⟩ <;> try (exfalso; omega))))
                have hnx := hmnext.out
                rw [hcut.out, List.append_nil] at hnx
                refine round_end (by simp [go_sem, hnx]) ?_ ⟨_, q, j + 1, by omega, by omega, by omega, rfl⟩ (by simp [intAt, go_sem]; omega)
                rw [hnx, ← hD.out]
                repeat (first | exact Sub.refl _ | refine Sub.upd ?_ (hD0.out _ (by omega)) _)
            · have hjl : j = x.opn.length := by omega
              have hM : Hide (M = partsA s x.opn) := by rw [Hide, hMd.out, hjl, List.take_length]
              refine ac_fzac (t := 10) (m := q) (s := 2) (L := M) true (by simp) hDq.out (by simp [go_sem]) hMc.out (by rw [hM.out]; exact partsA_elems _ _) ?_
              obtain ⟨E, hE⟩ : ∃ E, Hide (E = D.upd q none) := ⟨_, rfl⟩
              simp only [← hE.out]
              have hEn : E n = some (cellsNet N) := by rw [hE.out]; simp (disch := omega) only [upd_ne]; exact hDn
              have hEn1 : E (n + 1) = some (.cells [iv .i64 s.lo, iv .i64 s.hi]) := by rw [hE.out]; simp (disch := omega) only [upd_ne]; exact hDn1
              have hEn2 : E (n + 2) = some (.cells [iv .i64 0, .fslc true true 0 []]) := by rw [hE.out]; simp (disch := omega) only [upd_ne]; exact hDn2
              have hEo : E o = some (.cells [iv .i64 N.st, acV 4 m L]) := by rw [hE.out]; simp (disch := omega) only [upd_ne]; exact hDo
              have hEp : E p = some (cellsLink x) := by rw [hE.out]; simp (disch := omega) only [upd_ne]; exact hDp
              have hEm : Hide (E m = acO L) := by rw [Hide, hE.out]; simp (disch := omega) only [upd_ne]; exact hDm.out
              have hEb : Hide (E = (H.upd p (some (cellsLink x)))) := by
                rw [Hide, hE.out, hD.out, upd_upd, upd_none_eq (hB0.out _ (by omega)), hB.out]
              have hEk : Hide (∀ k, k < n → E k = h k) := fun k hk => by rw [hE.out]; simp (disch := omega) only [upd_ne]; rw [hD.out]; simp (disch := omega) only [upd_ne]; exact hBk.out k hk
              clear hDn hDn1 hDn2 hDo hDp
              have hM2 : M = (partsOf s x.opn).map encSpan := hM.out
              have hMe : M.isEmpty = (partsOf s x.opn).isEmpty := by rw [hM2, List.isEmpty_map]
              have hML : M.length = (partsOf s x.opn).length := by rw [hM2, List.length_map]
              rw [hMe]
              by_cases h12 : M.length > 12
              · have hc2 : Hide (closedE N s = 2) := by
                  rw [Hide, closedE, if_neg (by simp [hC]), if_neg hs, if_pos]
                  exact List.any_eq_true.2 ⟨x, List.mem_of_getElem? hx2.out, by simpa using (show 12 < (partsOf s x.opn).length by omega)⟩
                have hN2 : Hide (closedN N s = ⟨0, true, []⟩) := by rw [Hide, closedN, if_neg (by rw [hc2.out]; decide)]
                clear hM2 hML hMe
                repeat' (first
                  | (refine ac_seq_h fun K hK => ?_)
                  | (refine ac_region_h fun K hK => ?_; simp (disch := omega) [go_sem, *, ilt_true])
                  | (refine ac_draw_h mixed (by kernel_rfl) fun K hK => ?_; simp (disch := omega) [go_sem, *, wrap64_id, upd_ne, mk3_true, flatten_replicate_one, stepK_if, ilt_true, ilt_false, ile_true, ile_false, Try.ntmps32])
                  | (apply Hide.out hK; clear hK K; try with_reducible dsimp only [thenA])
                  | (apply Hide.out ht; clear ht hf Kt Kf)
                  | (apply Hide.out hf; clear ht hf Kt Kf)
                  | (clear hK K; apply Hide.out hK; clear hK K; try with_reducible dsimp only [thenA])
                  | (clear hK K; clear hK K; apply Hide.out hK; clear hK K; try with_reducible dsimp only [thenA])
                  | (refine ac_block ?_)
                  | (refine ac_skip ?_; simp only [thenA, blockA])
                  | (refine ac_exit ?_; simp only [thenA, blockA, if_true, if_false, Nat.reduceEqDiff])
                  | (with_reducible show nextK _ _ _ _ _ _ _; simp (disch := omega) [go_sem, *, wrap64_id, upd_ne, mk3_true, flatten_replicate_one, stepK_if, ilt_true, ilt_false, ile_true, ile_false, Try.ntmps32])
                  | (refine wantK_split (fun hc => ?_) (fun hc => ?_) <;> (try simp only [Bool.not_eq_true', Bool.not_eq_false', Bool.not_eq_eq_eq_not, Bool.not_true, Bool.not_false, decide_eq_true_eq, decide_eq_false_iff_not, Int.not_lt, Int.not_le] at hc) <;> (try (exfalso; omega)) <;> (try simp (disch := omega) [go_sem, *, wrap64_id, upd_ne, mk3_true, flatten_replicate_one, stepK_if, ilt_true, ilt_false, ile_true, ile_false, Try.ntmps32]))
                  | (refine ac_cond_h fun Kt Kf ht hf => ?_; simp (disch := omega) [go_sem, *]; try (refine ⟨fun hc => ?_, fun hc => ?_⟩ <;> try (exfalso; omega))))
                refine ac_ret ?_
                refine ⟨by simp, _, (by simp (disch := omega) [go_sem] <;> rfl), ?_⟩
                rw [hc2.out, hN2.out]
                refine ret_weak wk_empty ?_
                refine ret_id ⟨fun k hk => ?_, by simp [below, belowL], rfl, by simp, by simp⟩
                simp (disch := omega) only [upd_ne]
                exact hEk.out k hk
              · have hlnk : Hide (encLink (closedL s x) = .agg [iv .i64 x.fr, iv .i64 x.to, iv .i64 x.delay, .fslc (partsOf s x.opn).isEmpty false 2 M]) := by rw [Hide, hM2]; rfl
                have hany2 : Hide ((N.links.take (k + 1)).any (fun x => decide ((partsOf s x.opn).length > 12)) = false) := by
                  rw [Hide, List.take_succ_eq_append_getElem hlt, List.any_append, hany.out, hx1]
                  simp; omega
                have hap := fun nm X hX hlX hh hm => ap_link (nm := nm) (m := m) (L := L) (X := X) (nl := false) (full := false) (h := hh) hm hLc.out hX hlX
                replace hap : Hide _ := hap
                clear hM2 hMe hML
                generalize (partsOf s x.opn).isEmpty = em at *
                repeat' (first
                  | (refine ac_seq_h fun K hK => ?_)
                  | (refine ac_region_h fun K hK => ?_; simp (disch := omega) [go_sem, *, upd_ne, ilt_false])
                  | (refine ac_draw_h mixed (by kernel_rfl) fun K hK => ?_; simp (disch := omega) [go_sem, *, wrap64_id, upd_ne, mk3_true, flatten_replicate_one, stepK_if, ilt_true, ilt_false, ile_true, ile_false, Try.ntmps32])
                  | (apply Hide.out hK; clear hK K; try with_reducible dsimp only [thenA])
                  | (apply Hide.out ht; clear ht hf Kt Kf)
                  | (apply Hide.out hf; clear ht hf Kt Kf)
                  | (clear hK K; apply Hide.out hK; clear hK K; try with_reducible dsimp only [thenA])
                  | (clear hK K; clear hK K; apply Hide.out hK; clear hK K; try with_reducible dsimp only [thenA])
                  | (refine ac_block ?_)
                  | (refine ac_skip ?_; simp only [thenA])
                  | (refine ac_exit ?_; simp only [thenA, blockA, if_true, if_false, Nat.reduceEqDiff])
                  | (with_reducible show nextK _ _ _ _ _ _ _; simp (disch := omega) [go_sem, *, wrap64_id, upd_ne, mk3_true, flatten_replicate_one, stepK_if, ilt_true, ilt_false, ile_true, ile_false, Try.ntmps32])
                  | (refine wantK_split (fun hc => ?_) (fun hc => ?_) <;> (try simp only [Bool.not_eq_true', Bool.not_eq_false', Bool.not_eq_eq_eq_not, Bool.not_true, Bool.not_false, decide_eq_true_eq, decide_eq_false_iff_not, Int.not_lt, Int.not_le] at hc) <;> (try (exfalso; omega)) <;> (try simp (disch := omega) [go_sem, *, wrap64_id, upd_ne, mk3_true, flatten_replicate_one, stepK_if, ilt_true, ilt_false, ile_true, ile_false, Try.ntmps32]))
                  | (refine ac_cond_h fun Kt Kf ht hf => ?_; simp (disch := omega) [go_sem, *]; try (refine ⟨fun hc => ?_, fun hc => ?_⟩ <;> try (exfalso; omega))))
                rw [hap.out _ _ (by simp) (by simp; omega) _ (by simp (disch := omega) only [upd_ne]; exact hEm.out)]
                rw [acV_ne (show L ++ [_] ≠ [] by simp)]
                simp only [stepK]
                repeat' (first
                  | (refine ac_seq_h fun K hK => ?_)
                  | (refine ac_region_h fun K hK => ?_; simp (disch := omega) [go_sem, *, wrap64_id])
                  | (refine ac_draw_h mixed (by kernel_rfl) fun K hK => ?_; simp (disch := omega) [go_sem, *, wrap64_id, upd_ne, mk3_true, flatten_replicate_one, stepK_if, ilt_true, ilt_false, ile_true, ile_false, Try.ntmps32])
                  | (apply Hide.out hK; clear hK K; try with_reducible dsimp only [thenA])
                  | (apply Hide.out ht; clear ht hf Kt Kf)
                  | (apply Hide.out hf; clear ht hf Kt Kf)
                  | (clear hK K; apply Hide.out hK; clear hK K; try with_reducible dsimp only [thenA])
                  | (clear hK K; clear hK K; apply Hide.out hK; clear hK K; try with_reducible dsimp only [thenA])
                  | (refine ac_block ?_)
                  | (refine ac_skip ?_; simp only [thenA, blockA])
                  | (refine ac_exit ?_; simp only [thenA, blockA, if_true, if_false, Nat.reduceEqDiff])
                  | (with_reducible show nextK _ _ _ _ _ _ _; simp (disch := omega) [go_sem, *, upd_ne])
                  | (refine wantK_split (fun hc => ?_) (fun hc => ?_) <;> (try simp only [Bool.not_eq_true', Bool.not_eq_false', Bool.not_eq_eq_eq_not, Bool.not_true, Bool.not_false, decide_eq_true_eq, decide_eq_false_iff_not, Int.not_lt, Int.not_le] at hc) <;> (try (exfalso; omega)) <;> (try simp (disch := omega) [go_sem, *, wrap64_id, upd_ne, mk3_true, flatten_replicate_one, stepK_if, ilt_true, ilt_false, ile_true, ile_false, Try.ntmps32]))
                  | (refine ac_cond_h fun Kt Kf ht hf => ?_; simp (disch := omega) [go_sem, *, wrap64_id, upd_ne, mk3_true, flatten_replicate_one, stepK_if, ilt_true, ilt_false, ile_true, ile_false, Try.ntmps32]; try (refine ⟨fun hc => ?_, fun hc => ?_⟩ <;> try (exfalso; omega))))
                have hnx := hnext.out
                rw [hlnk.out] at hnx
                refine round_end (by simp [go_sem]) ?_ ⟨_, n2 + 5 + 3 + 3 + 4, k + 1, by omega, by omega, by omega, hany2, rfl⟩ (by simp [intAt, go_sem]; omega)
                rw [hnx, upd_comm _ (show o ≠ n2 + 5 + 3 + 3 + 4 by omega)]
                have hv : acV 4 (n2 + 5 + 3 + 3 + 4) (L ++ [AV.agg [iv IntKind.i64 x.fr, iv IntKind.i64 x.to, iv IntKind.i64 x.delay, AV.fslc em false 2 M]]) = .slc (n2 + 5 + 3 + 3 + 4) 0 (k + 1) 4 := by
                  rw [acV_ne (by simp)]; simp [hLl]
                rw [hv]
                refine Sub.both (Sub.both ?_ _ _) _ _
                rw [hEb.out, hH.out]
                repeat (first | exact Sub.refl _ | refine Sub.upd ?_ (hb0.out _ (by omega)) _)
        · have hkl : k = N.links.length := by omega
          have hL2 : Hide (L = linksA s N.links) := by rw [Hide, hLd.out, hkl, List.take_length]
          have hc0 : Hide (closedE N s = 0) := by
            rw [Hide, closedE, if_neg (by simp [hC]), if_neg hs]
            have := hany.out
            rw [hkl, List.take_length] at this
            rw [if_neg (by rw [this]; simp)]
          have hNN : Hide (closedN N s = ⟨N.st, N.links.isEmpty, N.links.map (closedL s)⟩) := by rw [Hide, closedN, if_pos hc0.out]
          by_cases h0 : L = []
          · subst h0
            have hz : Hide (N.links = []) := by
              have := hL2.out.symm
              rw [Hide]
              simpa [linksA] using this
            rw [ac_nil] at hHo
            have hz0 := hz.out
            repeat' (first
              | (refine ac_seq_h fun K hK => ?_)
              | (refine ac_region_h fun K hK => ?_; simp (disch := omega) [go_sem, *])
              | (refine ac_draw_h mixed (by kernel_rfl) fun K hK => ?_; simp (disch := omega) [go_sem, *, wrap64_id, upd_ne, mk3_true, flatten_replicate_one, stepK_if, ilt_true, ilt_false, ile_true, ile_false, Try.ntmps32])
              | (apply Hide.out hK; clear hK K; try with_reducible dsimp only [thenA])
              | (apply Hide.out ht; clear ht hf Kt Kf)
              | (apply Hide.out hf; clear ht hf Kt Kf)
              | (clear hK K; apply Hide.out hK; clear hK K; try with_reducible dsimp only [thenA])
              | (clear hK K; clear hK K; apply Hide.out hK; clear hK K; try with_reducible dsimp only [thenA])
              | (refine ac_block ?_)
              | (refine ac_skip ?_; simp only [thenA, blockA])
              | (refine ac_exit ?_; simp only [thenA, blockA, if_true])
              | (with_reducible show nextK _ _ _ _ _ _ _; simp (disch := omega) [go_sem, *, wrap64_id, upd_ne, mk3_true, flatten_replicate_one, stepK_if, ilt_true, ilt_false, ile_true, ile_false, Try.ntmps32])
              | (refine wantK_split (fun hc => ?_) (fun hc => ?_) <;> (try simp only [Bool.not_eq_true', Bool.not_eq_false', Bool.not_eq_eq_eq_not, Bool.not_true, Bool.not_false, decide_eq_true_eq, decide_eq_false_iff_not, Int.not_lt, Int.not_le] at hc) <;> (try (exfalso; omega)) <;> (try simp (disch := omega) [go_sem, *, wrap64_id, upd_ne, mk3_true, flatten_replicate_one, stepK_if, ilt_true, ilt_false, ile_true, ile_false, Try.ntmps32]))
              | (refine ac_cond_h fun Kt Kf ht hf => ?_; simp (disch := omega) [go_sem, *]; try (refine ⟨fun hc => ?_, fun hc => ?_⟩ <;> try (exfalso; omega))))
            refine ac_ret ?_
            refine ⟨by simp, _, (by simp (disch := omega) [go_sem] <;> rfl), ?_⟩
            rw [hc0.out, hNN.out, hz.out]
            refine ret_weak wk_nolinks ?_
            refine ret_id ⟨fun k hk => ?_, by simp [below, belowL], rfl, by simp, by simp⟩
            simp (disch := omega) only [upd_ne]
            exact hHk.out k hk
          · rw [acV_ne h0] at hHo
            have hHm2 := hHm.out
            rw [acO_ne h0] at hHm2
            replace hHm2 : Hide _ := hHm2
            repeat' (first
              | (refine ac_seq_h fun K hK => ?_)
              | (refine ac_region_h fun K hK => ?_; simp (disch := omega) [go_sem, *])
              | (refine ac_draw_h mixed (by kernel_rfl) fun K hK => ?_; simp (disch := omega) [go_sem, *, wrap64_id, upd_ne, mk3_true, flatten_replicate_one, stepK_if, ilt_true, ilt_false, ile_true, ile_false, Try.ntmps32])
              | (apply Hide.out hK; clear hK K; try with_reducible dsimp only [thenA])
              | (apply Hide.out ht; clear ht hf Kt Kf)
              | (apply Hide.out hf; clear ht hf Kt Kf)
              | (clear hK K; apply Hide.out hK; clear hK K; try with_reducible dsimp only [thenA])
              | (clear hK K; clear hK K; apply Hide.out hK; clear hK K; try with_reducible dsimp only [thenA])
              | (refine ac_block ?_)
              | (refine ac_skip ?_; simp only [thenA, blockA])
              | (refine ac_exit ?_; simp only [thenA, blockA, if_true])
              | (with_reducible show nextK _ _ _ _ _ _ _; simp (disch := omega) [go_sem, *, wrap64_id, upd_ne, mk3_true, flatten_replicate_one, stepK_if, ilt_true, ilt_false, ile_true, ile_false, Try.ntmps32])
              | (refine wantK_split (fun hc => ?_) (fun hc => ?_) <;> (try simp only [Bool.not_eq_true', Bool.not_eq_false', Bool.not_eq_eq_eq_not, Bool.not_true, Bool.not_false, decide_eq_true_eq, decide_eq_false_iff_not, Int.not_lt, Int.not_le] at hc) <;> (try (exfalso; omega)) <;> (try simp (disch := omega) [go_sem, *, wrap64_id, upd_ne, mk3_true, flatten_replicate_one, stepK_if, ilt_true, ilt_false, ile_true, ile_false, Try.ntmps32]))
              | (refine ac_cond_h fun Kt Kf ht hf => ?_; simp (disch := omega) [go_sem, *]; try (refine ⟨fun hc => ?_, fun hc => ?_⟩ <;> try (exfalso; omega))))
            refine ac_ret ?_
            refine ⟨by simp, _, (by simp (disch := omega) [go_sem] <;> rfl), ?_⟩
            rw [hc0.out, hNN.out]
            refine ret_fzD true (m := m) (c := flat L) (by simp (disch := omega) only [upd_ne]; exact hHm2.out) ?_
            have hLn : L.length = N.links.length := by omega
            have hel : elems true 4 N.links.length (flat L) = L := by rw [← hLn, hL2.out]; exact linksA_elems _ _
            have hfl : (flat L).length = N.links.length * 4 := by rw [flat_len hLc.out, hLn]
            have hem : N.links.isEmpty = false := by
              cases hx : N.links with
              | nil => rw [hx] at hLn; exact absurd (List.length_eq_zero_iff.1 hLn) h0
              | cons _ _ => rfl
            have hfz : fzD m (flat L) true (resVal [AV.agg [iv IntKind.i64 N.st, AV.slc m 0 N.links.length 4], AV.c (Value.int IntKind.i64 0)]) = .tup [.agg [iv .i64 N.st, .fslc false false 4 L], iv .i64 0] := by
              simp only [resVal, fzD, fzDL]
              rw [if_pos ⟨trivial, by omega, by simp⟩, List.drop_zero, hel]
            rw [hfz]
            refine ret_id ⟨fun k hk => ?_, ?_, ?_, by simp, by simp⟩
            · simp (disch := omega) only [upd_ne]
              exact hHk.out k hk
            · have : belowL n L := belowL_iff.2 fun y hy => by
                rw [hL2.out] at hy
                obtain ⟨z, _, rfl⟩ := List.mem_map.1 hy
                simp [below, belowL, belowL_iff]
              simp [below, belowL, this]
            · rw [hem, hL2.out, linksA]
              simp only [encNet, encLinks, List.map_map]
              rfl
  · have hE : closedE N s = checkE N := by rw [closedE, if_pos hC]
    have hN : closedN N s = ⟨0, true, []⟩ := by rw [closedN, if_neg (by rw [hE]; exact hC)]
    rw [hE, hN]
    clear hE hN
    generalize checkE N = E at *
    have hEb : (E != 0) = true := by simpa using hC
    repeat' (first
      | (refine ac_seq_h fun K hK => ?_)
      | (refine ac_region_h fun K hK => ?_; simp (disch := omega) [go_sem, *, upd_ne, Try.ntmps32 ])
      | (refine ac_draw_h mixed (by kernel_rfl) fun K hK => ?_; simp (disch := omega) [go_sem, *, wrap64_id, upd_ne, mk3_true, flatten_replicate_one, stepK_if, ilt_true, ilt_false, ile_true, ile_false, Try.ntmps32 ])
      | (apply Hide.out hK; clear hK K; try with_reducible dsimp only [thenA])
      | (apply Hide.out ht; clear ht hf Kt Kf)
      | (apply Hide.out hf; clear ht hf Kt Kf)
      | (clear hK K; apply Hide.out hK; clear hK K; try with_reducible dsimp only [thenA])
      | (clear hK K; clear hK K; apply Hide.out hK; clear hK K; try with_reducible dsimp only [thenA])
      | (with_reducible refine APure.call (c17) ?_; try simp (disch := omega) [go_sem, * ])
      | (refine ac_block ?_)
      | (refine ac_skip ?_; simp only [thenA, blockA])
      | (refine ac_exit ?_; simp only [thenA, blockA, if_true, if_false, Nat.reduceEqDiff])
      | (with_reducible show nextK _ _ _ _ _ _ _; simp (disch := omega) [go_sem, *, wrap64_id, upd_ne, mk3_true, flatten_replicate_one, stepK_if, ilt_true, ilt_false, ile_true, ile_false, Try.ntmps32 ])
      | (refine wantK_split (fun hc => ?_) (fun hc => ?_) <;> (try simp only [Bool.not_eq_true', Bool.not_eq_false', Bool.not_eq_eq_eq_not, Bool.not_true, Bool.not_false, decide_eq_true_eq, decide_eq_false_iff_not, Int.not_lt, Int.not_le] at hc) <;> (try (exfalso; omega)) <;> (try simp (disch := omega) [go_sem, *, wrap64_id, upd_ne, mk3_true, flatten_replicate_one, stepK_if, ilt_true, ilt_false, ile_true, ile_false, Try.ntmps32 ]))
      | (refine ac_cond_h fun Kt Kf ht hf => ?_; simp (disch := omega) [go_sem, * ]; try (refine ⟨fun hc => ?_, fun hc => ?_⟩ <;> try (exfalso; omega))))
    refine ac_ret ?_
    refine ⟨by simp, _, (by simp (disch := omega) [go_sem] <;> rfl), ?_⟩
    refine ret_weak wk_empty ?_
    refine ret_id ⟨fun k hk => ?_, by simp [below, belowL], rfl, by simp, by simp⟩
    simp (disch := omega) only [upd_ne]
end Go.AM

namespace Go.AM
open Go.Proofs Nets
set_option maxRecDepth 10000
set_option maxHeartbeats 4000000
theorem parts_spec (nl : Bool) (l : List Span) (s : Span) (h : AHeap) (n : Nat) (K : AV → AHeap → Nat → Prop) (hk : K (.func (.func 61) [] [.ptr n 0, .ptr (n + 1) 0]) ((h.upd n (some (.cells [encOpen nl l]))).upd (n + 1) (some (.cells [iv .i64 s.lo, iv .i64 s.hi]))) (n + 3 + 2)) : ACalls Try.prog 54 [encOpen nl l, encSpan s] h n K := by
  refine ACalls.entry (by kernel_rfl) fun hb _ => calls_of Try.func54 rfl (by kernel_rfl) (by simp [Try.ntmps54]) ?_
  repeat' (first
    | (refine ac_seq_h fun K hK => ?_)
    | (refine ac_region_h fun K hK => ?_; simp (disch := omega) [go_sem, *, Try.ntmps54])
    | (refine ac_draw_h mixed (by kernel_rfl) fun K hK => ?_; simp (disch := omega) [go_sem, *, wrap64_id, upd_ne, mk3_true, flatten_replicate_one, stepK_if, ilt_true, ilt_false, ile_true, ile_false, Try.ntmps54])
    | (apply Hide.out hK; clear hK K; try with_reducible dsimp only [thenA])
    | (apply Hide.out ht; clear ht hf Kt Kf)
    | (apply Hide.out hf; clear ht hf Kt Kf)
    | (clear hK K; apply Hide.out hK; clear hK K; try with_reducible dsimp only [thenA])
    | (clear hK K; clear hK K; apply Hide.out hK; clear hK K; try with_reducible dsimp only [thenA])
    | (refine ac_block ?_)
    | (refine ac_skip ?_; simp only [thenA, blockA])
    | (refine ac_exit ?_; simp only [thenA, blockA, if_true, if_false, Nat.reduceEqDiff])
    | (with_reducible show nextK _ _ _ _ _ _ _; simp (disch := omega) [go_sem, *, wrap64_id, upd_ne, mk3_true, flatten_replicate_one, stepK_if, ilt_true, ilt_false, ile_true, ile_false, Try.ntmps54])
    | (refine wantK_split (fun hc => ?_) (fun hc => ?_) <;> (try simp only [Bool.not_eq_true', Bool.not_eq_false', Bool.not_eq_eq_eq_not, Bool.not_true, Bool.not_false, decide_eq_true_eq, decide_eq_false_iff_not, Int.not_lt, Int.not_le] at hc) <;> (try (exfalso; omega)) <;> (try simp (disch := omega) [go_sem, *, wrap64_id, upd_ne, mk3_true, flatten_replicate_one, stepK_if, ilt_true, ilt_false, ile_true, ile_false, Try.ntmps54]))
    | (refine ac_cond_h fun Kt Kf ht hf => ?_; simp (disch := omega) [go_sem, *, wrap64_id, upd_ne, mk3_true, flatten_replicate_one, stepK_if, ilt_true, ilt_false, ile_true, ile_false, Try.ntmps54]; try (refine ⟨fun hc => ?_, fun hc => ?_⟩ <;> try (exfalso; omega))))
  refine ac_ret ?_
  try dsimp only [thenA, blockA]
  refine ⟨by simp, _, rfl, ?_⟩
  exact ret_id hk
theorem parts_iter (m p : Nat) (nl : Bool) (l : List Span) (s : Span) (hl : l.length < 100000) (hbd : ∀ (i : Nat) (y : Span), l[i]? = some y → 0 ≤ y.lo ∧ y.lo ≤ y.hi ∧ y.hi ≤ 1048576) (I : List Span → AHeap → Nat → Prop) (h : AHeap) (n : Nat) (K : AV → AHeap → Nat → Prop)
    (h0 : I [] h n) (hp : ∀ A h' n', I A h' n' → h' p = some (.cells [encOpen nl l]) ∧ h' (p + 1) = some (.cells [iv .i64 s.lo, iv .i64 s.hi]) ∧ n ≤ n' ∧ ∀ j, n' ≤ j → h' j = none) (mono : ∀ A h' a b, I A h' a → a ≤ b → I A h' b)
    (step : ∀ A y h' n', A.length < 1000000 → I A h' n' → YieldsA Try.prog m [encSpan y] (I (A ++ [y])) (fun _ _ => False) h' n')
    (hI : ∀ h' n', I (partsOf s l) h' n' → K (.tup []) h' n') : ACalls Try.prog 61 [.yld m, .ptr p 0, .ptr (p + 1) 0] h n K := by
  refine ACalls.entry (by kernel_rfl) fun hb _ => calls_of Try.func61 rfl (by kernel_rfl) (by simp [Try.ntmps61]) ?_
  have hp0 := (hp _ _ _ h0).1
  replace hp : Hide _ := hp
  replace hbd : Hide _ := hbd
  replace mono : Hide _ := mono
  replace step : Hide _ := step
  replace hI : Hide _ := hI
  repeat' (first
    | (refine ac_seq_h fun K hK => ?_)
    | (refine ac_region_h fun K hK => ?_; simp (disch := omega) [go_sem, *, Try.ntmps61])
    | (refine ac_draw_h mixed (by kernel_rfl) fun K hK => ?_; simp (disch := omega) [go_sem, *, wrap64_id, upd_ne, mk3_true, flatten_replicate_one, stepK_if, ilt_true, ilt_false, ile_true, ile_false, Try.ntmps61])
    | (apply Hide.out hK; clear hK K; try with_reducible dsimp only [thenA])
    | (apply Hide.out ht; clear ht hf Kt Kf)
    | (apply Hide.out hf; clear ht hf Kt Kf)
    | (clear hK K; apply Hide.out hK; clear hK K; try with_reducible dsimp only [thenA])
    | (clear hK K; clear hK K; apply Hide.out hK; clear hK K; try with_reducible dsimp only [thenA])
    | (refine ac_block ?_)
    | (refine ac_skip ?_; simp only [thenA, blockA])
    | (refine ac_exit ?_; simp only [thenA, blockA, if_true, if_false, Nat.reduceEqDiff])
    | (with_reducible show nextK _ _ _ _ _ _ _; simp (disch := omega) [go_sem, *, wrap64_id, upd_ne, mk3_true, flatten_replicate_one, stepK_if, ilt_true, ilt_false, ile_true, ile_false, Try.ntmps61])
    | (refine wantK_split (fun hc => ?_) (fun hc => ?_) <;> (try simp only [Bool.not_eq_true', Bool.not_eq_false', Bool.not_eq_eq_eq_not, Bool.not_true, Bool.not_false, decide_eq_true_eq, decide_eq_false_iff_not, Int.not_lt, Int.not_le] at hc) <;> (try (exfalso; omega)) <;> (try simp (disch := omega) [go_sem, *, wrap64_id, upd_ne, mk3_true, flatten_replicate_one, stepK_if, ilt_true, ilt_false, ile_true, ile_false, Try.ntmps61]))
    | (refine ac_cond_h fun Kt Kf ht hf => ?_; simp (disch := omega) [go_sem, *, wrap64_id, upd_ne, mk3_true, flatten_replicate_one, stepK_if, ilt_true, ilt_false, ile_true, ile_false, Try.ntmps61]; try (refine ⟨fun hc => ?_, fun hc => ?_⟩ <;> try (exfalso; omega))))
  refine ac_loop_wk (fun s' => ∃ (k n' : Nat) (h' : AHeap), n ≤ n' ∧ k ≤ l.length ∧ I (partsOf s (l.take k)) h' n' ∧ s' = ⟨61, [(0, .yld m), (1, .ptr p 0), (2, .ptr (p + 1) 0), (6, encOpen nl l), (7, iv .i64 l.length), (8, iv .i64 k)], h', n'⟩)
      (fun s => l.length - (intAt s 8).toNat) ?_ ?_
  · refine loop_start (by simp [go_sem]) (Sub.refl _) ⟨0, _, _, ?_, Nat.zero_le _, mono.out _ _ _ _ h0 ?_, rfl⟩ <;> omega
  · rintro s' ⟨k, n', h', hn', hk, hIk, rfl⟩
    obtain ⟨hpp, hpq, hpn, hpz⟩ := hp.out _ _ _ hIk
    have hpl : p + 1 < n' := by
      rcases Nat.lt_or_ge (p + 1) n' with h1 | h1
      · exact h1
      · rw [hpz _ h1] at hpq; cases hpq
    replace hpz : Hide _ := hpz
    by_cases hlt : k < l.length
    · obtain ⟨y, hy1, hy2, _⟩ := at_k hlt
      have hyo := hbd.out k y hy2
      have hsn := partsOf_snoc (s := s) hy2
      have hlen : (partsOf s (l.take k)).length < 500000 := by
        have := partsOf_len s (l.take k)
        rw [List.length_take] at this; omega
      generalize partsOf s (l.take k) = A at *
      replace hsn : Hide _ := hsn
      replace hIk : Hide _ := hIk
      replace hy2 : Hide _ := hy2
      have hstep := fun y b (hb : n' ≤ b) => step.out A y h' b (by omega) (mono.out _ _ _ b hIk.out hb)
      replace hstep : Hide _ := hstep
      iterate 13 (first
        | (refine ac_seq_h fun K hK => ?_)
        | (refine ac_region_h fun K hK => ?_; simp (disch := omega) [go_sem, *, ilt_true, ile_true])
        | (refine ac_draw_h mixed (by kernel_rfl) fun K hK => ?_; simp (disch := omega) [go_sem, *, wrap64_id, upd_ne, mk3_true, flatten_replicate_one, stepK_if, ilt_true, ilt_false, ile_true, ile_false])
        | (apply Hide.out hK; clear hK K; try with_reducible dsimp only [thenA])
        | (apply Hide.out ht; clear ht hf Kt Kf)
        | (apply Hide.out hf; clear ht hf Kt Kf)
        | (clear hK K; apply Hide.out hK; clear hK K; try with_reducible dsimp only [thenA])
        | (clear hK K; clear hK K; apply Hide.out hK; clear hK K; try with_reducible dsimp only [thenA])
        | (refine ac_block ?_)
        | (refine ac_skip ?_; simp only [thenA])
        | (refine ac_exit ?_; simp only [thenA, blockA, if_true, if_false, Nat.reduceEqDiff])
        | (with_reducible show nextK _ _ _ _ _ _ _; simp (disch := omega) [go_sem, *, wrap64_id, upd_ne, mk3_true, flatten_replicate_one, stepK_if, ilt_true, ilt_false, ile_true, ile_false])
        | (refine wantK_split (fun hc => ?_) (fun hc => ?_) <;> (try simp only [Bool.not_eq_true', Bool.not_eq_false', Bool.not_eq_eq_eq_not, Bool.not_true, Bool.not_false, decide_eq_true_eq, decide_eq_false_iff_not, Int.not_lt, Int.not_le] at hc) <;> (try (exfalso; omega)) <;> (try simp (disch := omega) [go_sem, *, wrap64_id, upd_ne, mk3_true, flatten_replicate_one, stepK_if, ilt_true, ilt_false, ile_true, ile_false]))
        | (refine ac_cond_h fun Kt Kf ht hf => ?_; simp (disch := omega) [go_sem, *]; try (refine ⟨fun hc => ?_, fun hc => ?_⟩ <;> try (exfalso; omega))))
      refine hK.out _ ?_
      clear hK K
      refine hK.out _ ?_
      clear hK K
      refine ac_fzbox (m := n' + 1 + 2) (t := 5) (c := [iv .i64 y.lo, iv .i64 y.hi]) (by simp only [upd_same]) (by simp [go_sem]) ?_
      simp only [upd_upd]
      rw [upd_none_eq (hpz.out _ (by omega))]
      by_cases k1 : y.hi < s.lo
      · have hcut : Hide (cutS s y = [y]) := by rw [Hide, cutS, if_pos (.inl k1)]
        repeat' (first
          | (refine ac_seq_h fun K hK => ?_)
          | (refine ac_region_h fun K hK => ?_; simp (disch := omega) [go_sem, *])
          | (refine ac_draw_h mixed (by kernel_rfl) fun K hK => ?_; simp (disch := omega) [go_sem, *, wrap64_id, upd_ne, mk3_true, flatten_replicate_one, stepK_if, ilt_true, ilt_false, ile_true, ile_false])
          | (apply Hide.out hK; clear hK K; try with_reducible dsimp only [thenA])
          | (apply Hide.out ht; clear ht hf Kt Kf)
          | (apply Hide.out hf; clear ht hf Kt Kf)
          | (clear hK K; apply Hide.out hK; clear hK K; try with_reducible dsimp only [thenA])
          | (clear hK K; clear hK K; apply Hide.out hK; clear hK K; try with_reducible dsimp only [thenA])
          | (refine ac_block ?_)
          | (refine ac_skip ?_; simp only [thenA, blockA])
          | (refine ac_exit ?_; simp only [thenA, blockA, if_true, if_false, Nat.reduceEqDiff])
          | (with_reducible show nextK _ _ _ _ _ _ _; simp (disch := omega) [go_sem, *, wrap64_id, upd_ne, mk3_true, flatten_replicate_one, stepK_if, ilt_true, ilt_false, ile_true, ile_false])
          | (refine wantK_split (fun hc => ?_) (fun hc => ?_) <;> (try simp only [Bool.not_eq_true', Bool.not_eq_false', Bool.not_eq_eq_eq_not, Bool.not_true, Bool.not_false, decide_eq_true_eq, decide_eq_false_iff_not, Int.not_lt, Int.not_le] at hc) <;> (try (exfalso; omega)) <;> (try simp (disch := omega) [go_sem, *, wrap64_id, upd_ne, mk3_true, flatten_replicate_one, stepK_if, ilt_true, ilt_false, ile_true, ile_false]))
          | (refine ac_cond_h fun Kt Kf ht hf => ?_; simp (disch := omega) [go_sem, *]; try (refine ⟨fun hc => ?_, fun hc => ?_⟩ <;> try (exfalso; omega))))
        refine hstep.out _ _ (by omega) _ (fun h2 n2 hI2 => ?_) (fun h2 n2 hJ2 => hJ2.elim)
        have hn2 := (hp.out _ _ _ hI2).2.2.1
        replace hI2 : Hide _ := hI2
        repeat' (first
          | (refine ac_seq_h fun K hK => ?_)
          | (refine ac_region_h fun K hK => ?_; simp (disch := omega) [go_sem, *, wrap64_id])
          | (refine ac_draw_h mixed (by kernel_rfl) fun K hK => ?_; simp (disch := omega) [go_sem, *, wrap64_id, upd_ne, mk3_true, flatten_replicate_one, stepK_if, ilt_true, ilt_false, ile_true, ile_false])
          | (apply Hide.out hK; clear hK K; try with_reducible dsimp only [thenA])
          | (apply Hide.out ht; clear ht hf Kt Kf)
          | (apply Hide.out hf; clear ht hf Kt Kf)
          | (clear hK K; apply Hide.out hK; clear hK K; try with_reducible dsimp only [thenA])
          | (clear hK K; clear hK K; apply Hide.out hK; clear hK K; try with_reducible dsimp only [thenA])
          | (refine ac_block ?_)
          | (refine ac_skip ?_; simp only [thenA])
          | (refine ac_exit ?_; simp only [thenA, blockA, if_true, if_false, Nat.reduceEqDiff])
          | (with_reducible show nextK _ _ _ _ _ _ _; simp (disch := omega) [go_sem, *])
          | (refine wantK_split (fun hc => ?_) (fun hc => ?_) <;> (try simp only [Bool.not_eq_true', Bool.not_eq_false', Bool.not_eq_eq_eq_not, Bool.not_true, Bool.not_false, decide_eq_true_eq, decide_eq_false_iff_not, Int.not_lt, Int.not_le] at hc) <;> (try (exfalso; omega)) <;> (try simp (disch := omega) [go_sem, *, wrap64_id, upd_ne, mk3_true, flatten_replicate_one, stepK_if, ilt_true, ilt_false, ile_true, ile_false]))
          | (refine ac_cond_h fun Kt Kf ht hf => ?_; simp (disch := omega) [go_sem, *]; try (refine ⟨fun hc => ?_, fun hc => ?_⟩ <;> try (exfalso; omega))))
        have hsn := hsn.out
        rw [hcut.out] at hsn
        exact round_end (by simp [go_sem]) (Sub.refl _) ⟨k + 1, _, _, by omega, by omega, by rw [hsn]; exact mono.out _ _ _ _ hI2.out (by omega), rfl⟩ (by simp [intAt, go_sem]; omega)
      by_cases k2 : s.hi < y.lo
      · have hcut : Hide (cutS s y = [y]) := by rw [Hide, cutS, if_pos (.inr k2)]
        repeat' (first
          | (refine ac_seq_h fun K hK => ?_)
          | (refine ac_region_h fun K hK => ?_; simp (disch := omega) [go_sem, *])
          | (refine ac_draw_h mixed (by kernel_rfl) fun K hK => ?_; simp (disch := omega) [go_sem, *, wrap64_id, upd_ne, mk3_true, flatten_replicate_one, stepK_if, ilt_true, ilt_false, ile_true, ile_false])
          | (apply Hide.out hK; clear hK K; try with_reducible dsimp only [thenA])
          | (apply Hide.out ht; clear ht hf Kt Kf)
          | (apply Hide.out hf; clear ht hf Kt Kf)
          | (clear hK K; apply Hide.out hK; clear hK K; try with_reducible dsimp only [thenA])
          | (clear hK K; clear hK K; apply Hide.out hK; clear hK K; try with_reducible dsimp only [thenA])
          | (refine ac_block ?_)
          | (refine ac_skip ?_; simp only [thenA, blockA])
          | (refine ac_exit ?_; simp only [thenA, blockA, if_true, if_false, Nat.reduceEqDiff])
          | (with_reducible show nextK _ _ _ _ _ _ _; simp (disch := omega) [go_sem, *, wrap64_id, upd_ne, mk3_true, flatten_replicate_one, stepK_if, ilt_true, ilt_false, ile_true, ile_false])
          | (refine wantK_split (fun hc => ?_) (fun hc => ?_) <;> (try simp only [Bool.not_eq_true', Bool.not_eq_false', Bool.not_eq_eq_eq_not, Bool.not_true, Bool.not_false, decide_eq_true_eq, decide_eq_false_iff_not, Int.not_lt, Int.not_le] at hc) <;> (try (exfalso; omega)) <;> (try simp (disch := omega) [go_sem, *, wrap64_id, upd_ne, mk3_true, flatten_replicate_one, stepK_if, ilt_true, ilt_false, ile_true, ile_false]))
          | (refine ac_cond_h fun Kt Kf ht hf => ?_; simp (disch := omega) [go_sem, *]; try (refine ⟨fun hc => ?_, fun hc => ?_⟩ <;> try (exfalso; omega))))
        refine hstep.out _ _ (by omega) _ (fun h2 n2 hI2 => ?_) (fun h2 n2 hJ2 => hJ2.elim)
        have hn2 := (hp.out _ _ _ hI2).2.2.1
        replace hI2 : Hide _ := hI2
        repeat' (first
          | (refine ac_seq_h fun K hK => ?_)
          | (refine ac_region_h fun K hK => ?_; simp (disch := omega) [go_sem, *, wrap64_id])
          | (refine ac_draw_h mixed (by kernel_rfl) fun K hK => ?_; simp (disch := omega) [go_sem, *, wrap64_id, upd_ne, mk3_true, flatten_replicate_one, stepK_if, ilt_true, ilt_false, ile_true, ile_false])
          | (apply Hide.out hK; clear hK K; try with_reducible dsimp only [thenA])
          | (apply Hide.out ht; clear ht hf Kt Kf)
          | (apply Hide.out hf; clear ht hf Kt Kf)
          | (clear hK K; apply Hide.out hK; clear hK K; try with_reducible dsimp only [thenA])
          | (clear hK K; clear hK K; apply Hide.out hK; clear hK K; try with_reducible dsimp only [thenA])
          | (refine ac_block ?_)
          | (refine ac_skip ?_; simp only [thenA])
          | (refine ac_exit ?_; simp only [thenA, blockA, if_true, if_false, Nat.reduceEqDiff])
          | (with_reducible show nextK _ _ _ _ _ _ _; simp (disch := omega) [go_sem, *])
          | (refine wantK_split (fun hc => ?_) (fun hc => ?_) <;> (try simp only [Bool.not_eq_true', Bool.not_eq_false', Bool.not_eq_eq_eq_not, Bool.not_true, Bool.not_false, decide_eq_true_eq, decide_eq_false_iff_not, Int.not_lt, Int.not_le] at hc) <;> (try (exfalso; omega)) <;> (try simp (disch := omega) [go_sem, *, wrap64_id, upd_ne, mk3_true, flatten_replicate_one, stepK_if, ilt_true, ilt_false, ile_true, ile_false]))
          | (refine ac_cond_h fun Kt Kf ht hf => ?_; simp (disch := omega) [go_sem, *]; try (refine ⟨fun hc => ?_, fun hc => ?_⟩ <;> try (exfalso; omega))))
        have hsn := hsn.out
        rw [hcut.out] at hsn
        exact round_end (by simp [go_sem]) (Sub.refl _) ⟨k + 1, _, _, by omega, by omega, by rw [hsn]; exact mono.out _ _ _ _ hI2.out (by omega), rfl⟩ (by simp [intAt, go_sem]; omega)
      by_cases k3 : y.lo < s.lo <;> by_cases k4 : s.hi < y.hi
      · have hcut : Hide (cutS s y = [⟨y.lo, s.lo - 1⟩, ⟨s.hi + 1, y.hi⟩]) := by rw [Hide, cutS, if_neg (by omega), if_pos k3, if_pos k4]; rfl
        repeat' (first
          | (refine ac_seq_h fun K hK => ?_)
          | (refine ac_region_h fun K hK => ?_; simp (disch := omega) [go_sem, *, wrap64_id])
          | (refine ac_draw_h mixed (by kernel_rfl) fun K hK => ?_; simp (disch := omega) [go_sem, *, wrap64_id, upd_ne, mk3_true, flatten_replicate_one, stepK_if, ilt_true, ilt_false, ile_true, ile_false])
          | (apply Hide.out hK; clear hK K; try with_reducible dsimp only [thenA])
          | (apply Hide.out ht; clear ht hf Kt Kf)
          | (apply Hide.out hf; clear ht hf Kt Kf)
          | (clear hK K; apply Hide.out hK; clear hK K; try with_reducible dsimp only [thenA])
          | (clear hK K; clear hK K; apply Hide.out hK; clear hK K; try with_reducible dsimp only [thenA])
          | (refine ac_block ?_)
          | (refine ac_skip ?_; simp only [thenA])
          | (refine ac_exit ?_; simp only [thenA, blockA, if_true, if_false, Nat.reduceEqDiff])
          | (with_reducible show nextK _ _ _ _ _ _ _; simp (disch := omega) [go_sem, *, wrap64_id, upd_ne, mk3_true, flatten_replicate_one, stepK_if, ilt_true, ilt_false, ile_true, ile_false])
          | (refine wantK_split (fun hc => ?_) (fun hc => ?_) <;> (try simp only [Bool.not_eq_true', Bool.not_eq_false', Bool.not_eq_eq_eq_not, Bool.not_true, Bool.not_false, decide_eq_true_eq, decide_eq_false_iff_not, Int.not_lt, Int.not_le] at hc) <;> (try (exfalso; omega)) <;> (try simp (disch := omega) [go_sem, *, wrap64_id, upd_ne, mk3_true, flatten_replicate_one, stepK_if, ilt_true, ilt_false, ile_true, ile_false]))
          | (refine ac_cond_h fun Kt Kf ht hf => ?_; simp (disch := omega) [go_sem, *]; try (refine ⟨fun hc => ?_, fun hc => ?_⟩ <;> try (exfalso; omega))))
        refine hstep.out ⟨y.lo, s.lo - 1⟩ _ (by omega) _ (fun h2 n2 hI2 => ?_) (fun h2 n2 hJ2 => hJ2.elim)
        obtain ⟨e1, e2, hn2, _⟩ := hp.out _ _ _ hI2
        replace hI2 : Hide _ := hI2
        repeat' (first
          | (refine ac_seq_h fun K hK => ?_)
          | (refine ac_region_h fun K hK => ?_; simp (disch := omega) [go_sem, *, wrap64_id])
          | (refine ac_draw_h mixed (by kernel_rfl) fun K hK => ?_; simp (disch := omega) [go_sem, *, wrap64_id, upd_ne, mk3_true, flatten_replicate_one, stepK_if, ilt_true, ilt_false, ile_true, ile_false])
          | (apply Hide.out hK; clear hK K; try with_reducible dsimp only [thenA])
          | (apply Hide.out ht; clear ht hf Kt Kf)
          | (apply Hide.out hf; clear ht hf Kt Kf)
          | (clear hK K; apply Hide.out hK; clear hK K; try with_reducible dsimp only [thenA])
          | (clear hK K; clear hK K; apply Hide.out hK; clear hK K; try with_reducible dsimp only [thenA])
          | (refine ac_block ?_)
          | (refine ac_skip ?_; simp only [thenA])
          | (refine ac_exit ?_; simp only [thenA, blockA, if_true, if_false, Nat.reduceEqDiff])
          | (with_reducible show nextK _ _ _ _ _ _ _; simp (disch := omega) [go_sem, *])
          | (refine wantK_split (fun hc => ?_) (fun hc => ?_) <;> (try simp only [Bool.not_eq_true', Bool.not_eq_false', Bool.not_eq_eq_eq_not, Bool.not_true, Bool.not_false, decide_eq_true_eq, decide_eq_false_iff_not, Int.not_lt, Int.not_le] at hc) <;> (try (exfalso; omega)) <;> (try simp (disch := omega) [go_sem, *, wrap64_id, upd_ne, mk3_true, flatten_replicate_one, stepK_if, ilt_true, ilt_false, ile_true, ile_false]))
          | (refine ac_cond_h fun Kt Kf ht hf => ?_; simp (disch := omega) [go_sem, *]; try (refine ⟨fun hc => ?_, fun hc => ?_⟩ <;> try (exfalso; omega))))
        refine step.out _ ⟨s.hi + 1, y.hi⟩ h2 _ (by simp; omega) (mono.out _ _ _ _ hI2.out (by omega)) _ (fun h3 n3 hI3 => ?_) (fun h2 n2 hJ2 => hJ2.elim)
        have hn4 := (hp.out _ _ _ hI3).2.2.1
        replace hI3 : Hide _ := hI3
        repeat' (first
          | (refine ac_seq_h fun K hK => ?_)
          | (refine ac_region_h fun K hK => ?_; simp (disch := omega) [go_sem, *, wrap64_id])
          | (refine ac_draw_h mixed (by kernel_rfl) fun K hK => ?_; simp (disch := omega) [go_sem, *, wrap64_id, upd_ne, mk3_true, flatten_replicate_one, stepK_if, ilt_true, ilt_false, ile_true, ile_false])
          | (apply Hide.out hK; clear hK K; try with_reducible dsimp only [thenA])
          | (apply Hide.out ht; clear ht hf Kt Kf)
          | (apply Hide.out hf; clear ht hf Kt Kf)
          | (clear hK K; apply Hide.out hK; clear hK K; try with_reducible dsimp only [thenA])
          | (clear hK K; clear hK K; apply Hide.out hK; clear hK K; try with_reducible dsimp only [thenA])
          | (refine ac_block ?_)
          | (refine ac_skip ?_; simp only [thenA, blockA])
          | (refine ac_exit ?_; simp only [thenA, blockA, if_true, if_false, Nat.reduceEqDiff])
          | (with_reducible show nextK _ _ _ _ _ _ _; simp (disch := omega) [go_sem, *])
          | (refine wantK_split (fun hc => ?_) (fun hc => ?_) <;> (try simp only [Bool.not_eq_true', Bool.not_eq_false', Bool.not_eq_eq_eq_not, Bool.not_true, Bool.not_false, decide_eq_true_eq, decide_eq_false_iff_not, Int.not_lt, Int.not_le] at hc) <;> (try (exfalso; omega)) <;> (try simp (disch := omega) [go_sem, *, wrap64_id, upd_ne, mk3_true, flatten_replicate_one, stepK_if, ilt_true, ilt_false, ile_true, ile_false]))
          | (refine ac_cond_h fun Kt Kf ht hf => ?_; simp (disch := omega) [go_sem, *]; try (refine ⟨fun hc => ?_, fun hc => ?_⟩ <;> try (exfalso; omega))))
        have hsn := hsn.out
        rw [hcut.out] at hsn
        exact round_end (by simp [go_sem]) (Sub.refl _) ⟨k + 1, _, _, by omega, by omega, by rw [hsn]; have := mono.out _ _ _ _ hI3.out (Nat.le_refl _); rw [List.append_assoc] at this; exact mono.out _ _ _ _ this (by omega), rfl⟩ (by simp [intAt, go_sem]; omega)
      · have hcut : Hide (cutS s y = [⟨y.lo, s.lo - 1⟩]) := by rw [Hide, cutS, if_neg (by omega), if_pos k3, if_neg k4]; rfl
        repeat' (first
          | (refine ac_seq_h fun K hK => ?_)
          | (refine ac_region_h fun K hK => ?_; simp (disch := omega) [go_sem, *, wrap64_id])
          | (refine ac_draw_h mixed (by kernel_rfl) fun K hK => ?_; simp (disch := omega) [go_sem, *, wrap64_id, upd_ne, mk3_true, flatten_replicate_one, stepK_if, ilt_true, ilt_false, ile_true, ile_false])
          | (apply Hide.out hK; clear hK K; try with_reducible dsimp only [thenA])
          | (apply Hide.out ht; clear ht hf Kt Kf)
          | (apply Hide.out hf; clear ht hf Kt Kf)
          | (clear hK K; apply Hide.out hK; clear hK K; try with_reducible dsimp only [thenA])
          | (clear hK K; clear hK K; apply Hide.out hK; clear hK K; try with_reducible dsimp only [thenA])
          | (refine ac_block ?_)
          | (refine ac_skip ?_; simp only [thenA])
          | (refine ac_exit ?_; simp only [thenA, blockA, if_true, if_false, Nat.reduceEqDiff])
          | (with_reducible show nextK _ _ _ _ _ _ _; simp (disch := omega) [go_sem, *, wrap64_id, upd_ne, mk3_true, flatten_replicate_one, stepK_if, ilt_true, ilt_false, ile_true, ile_false])
          | (refine wantK_split (fun hc => ?_) (fun hc => ?_) <;> (try simp only [Bool.not_eq_true', Bool.not_eq_false', Bool.not_eq_eq_eq_not, Bool.not_true, Bool.not_false, decide_eq_true_eq, decide_eq_false_iff_not, Int.not_lt, Int.not_le] at hc) <;> (try (exfalso; omega)) <;> (try simp (disch := omega) [go_sem, *, wrap64_id, upd_ne, mk3_true, flatten_replicate_one, stepK_if, ilt_true, ilt_false, ile_true, ile_false]))
          | (refine ac_cond_h fun Kt Kf ht hf => ?_; simp (disch := omega) [go_sem, *]; try (refine ⟨fun hc => ?_, fun hc => ?_⟩ <;> try (exfalso; omega))))
        refine hstep.out ⟨y.lo, s.lo - 1⟩ _ (by omega) _ (fun h2 n2 hI2 => ?_) (fun h2 n2 hJ2 => hJ2.elim)
        obtain ⟨e1, e2, hn2, _⟩ := hp.out _ _ _ hI2
        replace hI2 : Hide _ := hI2
        repeat' (first
          | (refine ac_seq_h fun K hK => ?_)
          | (refine ac_region_h fun K hK => ?_; simp (disch := omega) [go_sem, *, wrap64_id])
          | (refine ac_draw_h mixed (by kernel_rfl) fun K hK => ?_; simp (disch := omega) [go_sem, *, wrap64_id, upd_ne, mk3_true, flatten_replicate_one, stepK_if, ilt_true, ilt_false, ile_true, ile_false])
          | (apply Hide.out hK; clear hK K; try with_reducible dsimp only [thenA])
          | (apply Hide.out ht; clear ht hf Kt Kf)
          | (apply Hide.out hf; clear ht hf Kt Kf)
          | (clear hK K; apply Hide.out hK; clear hK K; try with_reducible dsimp only [thenA])
          | (clear hK K; clear hK K; apply Hide.out hK; clear hK K; try with_reducible dsimp only [thenA])
          | (refine ac_block ?_)
          | (refine ac_skip ?_; simp only [thenA, blockA])
          | (refine ac_exit ?_; simp only [thenA, blockA, if_true, if_false, Nat.reduceEqDiff])
          | (with_reducible show nextK _ _ _ _ _ _ _; simp (disch := omega) [go_sem, *])
          | (refine wantK_split (fun hc => ?_) (fun hc => ?_) <;> (try simp only [Bool.not_eq_true', Bool.not_eq_false', Bool.not_eq_eq_eq_not, Bool.not_true, Bool.not_false, decide_eq_true_eq, decide_eq_false_iff_not, Int.not_lt, Int.not_le] at hc) <;> (try (exfalso; omega)) <;> (try simp (disch := omega) [go_sem, *, wrap64_id, upd_ne, mk3_true, flatten_replicate_one, stepK_if, ilt_true, ilt_false, ile_true, ile_false]))
          | (refine ac_cond_h fun Kt Kf ht hf => ?_; simp (disch := omega) [go_sem, *]; try (refine ⟨fun hc => ?_, fun hc => ?_⟩ <;> try (exfalso; omega))))
        have hsn := hsn.out
        rw [hcut.out] at hsn
        exact round_end (by simp [go_sem]) (Sub.refl _) ⟨k + 1, _, _, by omega, by omega, by rw [hsn]; exact mono.out _ _ _ _ hI2.out (by omega), rfl⟩ (by simp [intAt, go_sem]; omega)
      · have hcut : Hide (cutS s y = [⟨s.hi + 1, y.hi⟩]) := by rw [Hide, cutS, if_neg (by omega), if_neg k3, if_pos k4]; rfl
        repeat' (first
          | (refine ac_seq_h fun K hK => ?_)
          | (refine ac_region_h fun K hK => ?_; simp (disch := omega) [go_sem, *, wrap64_id])
          | (refine ac_draw_h mixed (by kernel_rfl) fun K hK => ?_; simp (disch := omega) [go_sem, *, wrap64_id, upd_ne, mk3_true, flatten_replicate_one, stepK_if, ilt_true, ilt_false, ile_true, ile_false])
          | (apply Hide.out hK; clear hK K; try with_reducible dsimp only [thenA])
          | (apply Hide.out ht; clear ht hf Kt Kf)
          | (apply Hide.out hf; clear ht hf Kt Kf)
          | (clear hK K; apply Hide.out hK; clear hK K; try with_reducible dsimp only [thenA])
          | (clear hK K; clear hK K; apply Hide.out hK; clear hK K; try with_reducible dsimp only [thenA])
          | (refine ac_block ?_)
          | (refine ac_skip ?_; simp only [thenA])
          | (refine ac_exit ?_; simp only [thenA, blockA, if_true, if_false, Nat.reduceEqDiff])
          | (with_reducible show nextK _ _ _ _ _ _ _; simp (disch := omega) [go_sem, *, wrap64_id, upd_ne, mk3_true, flatten_replicate_one, stepK_if, ilt_true, ilt_false, ile_true, ile_false])
          | (refine wantK_split (fun hc => ?_) (fun hc => ?_) <;> (try simp only [Bool.not_eq_true', Bool.not_eq_false', Bool.not_eq_eq_eq_not, Bool.not_true, Bool.not_false, decide_eq_true_eq, decide_eq_false_iff_not, Int.not_lt, Int.not_le] at hc) <;> (try (exfalso; omega)) <;> (try simp (disch := omega) [go_sem, *, wrap64_id, upd_ne, mk3_true, flatten_replicate_one, stepK_if, ilt_true, ilt_false, ile_true, ile_false]))
          | (refine ac_cond_h fun Kt Kf ht hf => ?_; simp (disch := omega) [go_sem, *]; try (refine ⟨fun hc => ?_, fun hc => ?_⟩ <;> try (exfalso; omega))))
        refine hstep.out ⟨s.hi + 1, y.hi⟩ _ (by omega) _ (fun h2 n2 hI2 => ?_) (fun h2 n2 hJ2 => hJ2.elim)
        have hn2 := (hp.out _ _ _ hI2).2.2.1
        replace hI2 : Hide _ := hI2
        repeat' (first
          | (refine ac_seq_h fun K hK => ?_)
          | (refine ac_region_h fun K hK => ?_; simp (disch := omega) [go_sem, *, wrap64_id])
          | (refine ac_draw_h mixed (by kernel_rfl) fun K hK => ?_; simp (disch := omega) [go_sem, *, wrap64_id, upd_ne, mk3_true, flatten_replicate_one, stepK_if, ilt_true, ilt_false, ile_true, ile_false])
          | (apply Hide.out hK; clear hK K; try with_reducible dsimp only [thenA])
          | (apply Hide.out ht; clear ht hf Kt Kf)
          | (apply Hide.out hf; clear ht hf Kt Kf)
          | (clear hK K; apply Hide.out hK; clear hK K; try with_reducible dsimp only [thenA])
          | (clear hK K; clear hK K; apply Hide.out hK; clear hK K; try with_reducible dsimp only [thenA])
          | (refine ac_block ?_)
          | (refine ac_skip ?_; simp only [thenA, blockA])
          | (refine ac_exit ?_; simp only [thenA, blockA, if_true, if_false, Nat.reduceEqDiff])
          | (with_reducible show nextK _ _ _ _ _ _ _; simp (disch := omega) [go_sem, *])
          | (refine wantK_split (fun hc => ?_) (fun hc => ?_) <;> (try simp only [Bool.not_eq_true', Bool.not_eq_false', Bool.not_eq_eq_eq_not, Bool.not_true, Bool.not_false, decide_eq_true_eq, decide_eq_false_iff_not, Int.not_lt, Int.not_le] at hc) <;> (try (exfalso; omega)) <;> (try simp (disch := omega) [go_sem, *, wrap64_id, upd_ne, mk3_true, flatten_replicate_one, stepK_if, ilt_true, ilt_false, ile_true, ile_false]))
          | (refine ac_cond_h fun Kt Kf ht hf => ?_; simp (disch := omega) [go_sem, *]; try (refine ⟨fun hc => ?_, fun hc => ?_⟩ <;> try (exfalso; omega))))
        have hsn := hsn.out
        rw [hcut.out] at hsn
        exact round_end (by simp [go_sem]) (Sub.refl _) ⟨k + 1, _, _, by omega, by omega, by rw [hsn]; exact mono.out _ _ _ _ hI2.out (by omega), rfl⟩ (by simp [intAt, go_sem]; omega)
      · have hcut : Hide (cutS s y = []) := by rw [Hide, cutS, if_neg (by omega), if_neg k3, if_neg k4]; rfl
        repeat' (first
          | (refine ac_seq_h fun K hK => ?_)
          | (refine ac_region_h fun K hK => ?_; simp (disch := omega) [go_sem, *, wrap64_id])
          | (refine ac_draw_h mixed (by kernel_rfl) fun K hK => ?_; simp (disch := omega) [go_sem, *, wrap64_id, upd_ne, mk3_true, flatten_replicate_one, stepK_if, ilt_true, ilt_false, ile_true, ile_false])
          | (apply Hide.out hK; clear hK K; try with_reducible dsimp only [thenA])
          | (apply Hide.out ht; clear ht hf Kt Kf)
          | (apply Hide.out hf; clear ht hf Kt Kf)
          | (clear hK K; apply Hide.out hK; clear hK K; try with_reducible dsimp only [thenA])
          | (clear hK K; clear hK K; apply Hide.out hK; clear hK K; try with_reducible dsimp only [thenA])
          | (refine ac_block ?_)
          | (refine ac_skip ?_; simp only [thenA, blockA])
          | (refine ac_exit ?_; simp only [thenA, blockA, if_true, if_false, Nat.reduceEqDiff])
          | (with_reducible show nextK _ _ _ _ _ _ _; simp (disch := omega) [go_sem, *, wrap64_id, upd_ne, mk3_true, flatten_replicate_one, stepK_if, ilt_true, ilt_false, ile_true, ile_false])
          | (refine wantK_split (fun hc => ?_) (fun hc => ?_) <;> (try simp only [Bool.not_eq_true', Bool.not_eq_false', Bool.not_eq_eq_eq_not, Bool.not_true, Bool.not_false, decide_eq_true_eq, decide_eq_false_iff_not, Int.not_lt, Int.not_le] at hc) <;> (try (exfalso; omega)) <;> (try simp (disch := omega) [go_sem, *, wrap64_id, upd_ne, mk3_true, flatten_replicate_one, stepK_if, ilt_true, ilt_false, ile_true, ile_false]))
          | (refine ac_cond_h fun Kt Kf ht hf => ?_; simp (disch := omega) [go_sem, *]; try (refine ⟨fun hc => ?_, fun hc => ?_⟩ <;> try (exfalso; omega))))
        have hsn := hsn.out
        rw [hcut.out, List.append_nil] at hsn
        exact round_end (by simp [go_sem]) (Sub.refl _) ⟨k + 1, _, _, by omega, by omega, by rw [hsn]; exact mono.out _ _ _ _ hIk.out (by omega), rfl⟩ (by simp [intAt, go_sem]; omega)
    · have hkl : k = l.length := by omega
      rw [hkl, List.take_length] at hIk
      replace hIk : Hide _ := hIk
      replace hkl : Hide _ := hkl
      repeat' (first
        | (refine ac_seq_h fun K hK => ?_)
        | (refine ac_region_h fun K hK => ?_; simp (disch := omega) [go_sem, *, ilt_false])
        | (refine ac_draw_h mixed (by kernel_rfl) fun K hK => ?_; simp (disch := omega) [go_sem, *, wrap64_id, upd_ne, mk3_true, flatten_replicate_one, stepK_if, ilt_true, ilt_false, ile_true, ile_false])
        | (apply Hide.out hK; clear hK K; try with_reducible dsimp only [thenA])
        | (apply Hide.out ht; clear ht hf Kt Kf)
        | (apply Hide.out hf; clear ht hf Kt Kf)
        | (clear hK K; apply Hide.out hK; clear hK K; try with_reducible dsimp only [thenA])
        | (clear hK K; clear hK K; apply Hide.out hK; clear hK K; try with_reducible dsimp only [thenA])
        | (refine ac_block ?_)
        | (refine ac_skip ?_; simp only [thenA, blockA])
        | (refine ac_exit ?_; simp only [thenA, blockA, if_true])
        | (with_reducible show nextK _ _ _ _ _ _ _; simp (disch := omega) [go_sem, *, wrap64_id, upd_ne, mk3_true, flatten_replicate_one, stepK_if, ilt_true, ilt_false, ile_true, ile_false])
        | (refine wantK_split (fun hc => ?_) (fun hc => ?_) <;> (try simp only [Bool.not_eq_true', Bool.not_eq_false', Bool.not_eq_eq_eq_not, Bool.not_true, Bool.not_false, decide_eq_true_eq, decide_eq_false_iff_not, Int.not_lt, Int.not_le] at hc) <;> (try (exfalso; omega)) <;> (try simp (disch := omega) [go_sem, *, wrap64_id, upd_ne, mk3_true, flatten_replicate_one, stepK_if, ilt_true, ilt_false, ile_true, ile_false]))
        | (refine ac_cond_h fun Kt Kf ht hf => ?_; simp (disch := omega) [go_sem, *]; try (refine ⟨fun hc => ?_, fun hc => ?_⟩ <;> try (exfalso; omega))))
      refine ⟨by simp, _, rfl, ?_⟩
      exact ret_id (hI.out _ _ (mono.out _ _ _ _ hIk.out (by omega)))
theorem ret_ac {fl : Nat} {K : AV → AHeap → Nat → Prop} {h : AHeap} {n m s : Nat} {L : List AV} (agg : Bool) (has : agg = false → s = 1) (hm : h m = acO L) (hL : ∀ x ∈ L, (cellsOf x).length = s) (he : elems agg s L.length (flat L) = L)
    (hk : RetOk fl K (.fslc L.isEmpty false s L) (h.upd m none) n) : RetOk fl K (acV s m L) h n := by
  by_cases h0 : L = []
  · subst h0
    rw [upd_none_eq hm] at hk
    refine ret_weak (fun G v hv => ?_) hk
    rw [ac_nil] at hv
    simp only [Rv] at hv ⊢
    obtain ⟨a, cap, k1, k2, k3, k4, k5⟩ := hv
    exact ⟨a, cap, k1, k2, by simp, fun _ => k4 trivial, by simp⟩
  · rw [acV_ne h0]
    rw [acO_ne h0] at hm
    have hemp : L.isEmpty = false := by simpa using h0
    refine ret_fzD agg hm ?_
    simp only [fzD]
    rw [if_pos ⟨trivial, by rw [flat_len hL]; omega, has⟩, List.drop_zero, he]
    rw [hemp] at hk
    exact hk
theorem appendSeq_spec (p : Nat) (nl : Bool) (l : List Span) (s : Span) (hl : l.length < 100000) (hbd : ∀ (i : Nat) (y : Span), l[i]? = some y → 0 ≤ y.lo ∧ y.lo ≤ y.hi ∧ y.hi ≤ 1048576) (h : AHeap) (n : Nat) (hp : h p = some (.cells [encOpen nl l])) (hp1 : h (p + 1) = some (.cells [iv .i64 s.lo, iv .i64 s.hi])) :
    APureAt Try.prog 60 [.fslc true true 0 [], .func (.func 61) [] [.ptr p 0, .ptr (p + 1) 0]] h n (encOpen (partsOf s l).isEmpty (partsOf s l)) := by
  refine ACalls.pure (ACalls.entry (by kernel_rfl) fun hb _ => calls_of Try.func60 rfl (by kernel_rfl) (by simp [Try.ntmps60]) ?_)
  replace hbd : Hide _ := hbd
  repeat' (first
    | (refine ac_seq_h fun K hK => ?_)
    | (refine ac_region_h fun K hK => ?_; simp (disch := omega) [go_sem, *, Try.ntmps60])
    | (refine ac_draw_h mixed (by kernel_rfl) fun K hK => ?_; simp (disch := omega) [go_sem, *, wrap64_id, upd_ne, mk3_true, flatten_replicate_one, stepK_if, ilt_true, ilt_false, ile_true, ile_false, Try.ntmps60])
    | (apply Hide.out hK; clear hK K; try with_reducible dsimp only [thenA])
    | (apply Hide.out ht; clear ht hf Kt Kf)
    | (apply Hide.out hf; clear ht hf Kt Kf)
    | (clear hK K; apply Hide.out hK; clear hK K; try with_reducible dsimp only [thenA])
    | (clear hK K; clear hK K; apply Hide.out hK; clear hK K; try with_reducible dsimp only [thenA])
    | (refine ac_block ?_)
    | (refine ac_skip ?_; simp only [thenA, blockA])
    | (refine ac_exit ?_; simp only [thenA, blockA, if_true, if_false, Nat.reduceEqDiff])
    | (with_reducible show nextK _ _ _ _ _ _ _; simp (disch := omega) [go_sem, *, wrap64_id, upd_ne, mk3_true, flatten_replicate_one, stepK_if, ilt_true, ilt_false, ile_true, ile_false, Try.ntmps60])
    | (refine wantK_split (fun hc => ?_) (fun hc => ?_) <;> (try simp only [Bool.not_eq_true', Bool.not_eq_false', Bool.not_eq_eq_eq_not, Bool.not_true, Bool.not_false, decide_eq_true_eq, decide_eq_false_iff_not, Int.not_lt, Int.not_le] at hc) <;> (try (exfalso; omega)) <;> (try simp (disch := omega) [go_sem, *, wrap64_id, upd_ne, mk3_true, flatten_replicate_one, stepK_if, ilt_true, ilt_false, ile_true, ile_false, Try.ntmps60]))
    | (refine ac_cond_h fun Kt Kf ht hf => ?_; simp (disch := omega) [go_sem, *, wrap64_id, upd_ne, mk3_true, flatten_replicate_one, stepK_if, ilt_true, ilt_false, ile_true, ile_false, Try.ntmps60]; try (refine ⟨fun hc => ?_, fun hc => ?_⟩ <;> try (exfalso; omega))))
  refine ac_rangeFunc (by rfl) ?_
  generalize hLO : AObj.loop LoopState.ready none 13 _ _ _ _ = LO
  have hpn : p + 1 < n := by
    rcases Nat.lt_or_ge (p + 1) n with h1 | h1
    · exact h1
    · rw [hb.none h1] at hp1; cases hp1
  have hnone : Hide (∀ k, n ≤ k → h k = none) := fun k hk => hb.none hk
  refine parts_iter _ p nl l s hl hbd.out (fun A h' n' => ∃ q, n < q ∧ q ≠ n + 3 ∧ q < n' ∧ n + 4 ≤ n' ∧ h' = ((h.upd n (some (.cells [acV 2 q (A.map encSpan)]))).upd q (acO (A.map encSpan))).upd (n + 3) (some LO)) _ _ _ ?_ ?_ ?_ ?_ ?_
  · refine ⟨n + 1, by omega, by omega, by simp only; omega, by simp only; omega, ?_⟩
    show _ = ((h.upd n _).upd (n + 1) none).upd (n + 3) _
    rw [upd_none_eq (by rw [upd_ne _ _ _ _ (by omega)]; exact hnone.out _ (by omega))]
    rfl
  · rintro A h' n' ⟨q, hq1, hq2, hq3, hq4, rfl⟩
    refine ⟨by simp (disch := omega) only [upd_ne]; exact hp, by simp (disch := omega) only [upd_ne]; exact hp1, by simp only; omega, fun j hj => ?_⟩
    simp (disch := omega) only [upd_ne]; exact hnone.out _ (by omega)
  · rintro A h' a b ⟨q, hq1, hq2, hq3, hq4, hq5⟩ hab
    exact ⟨q, hq1, hq2, by omega, by omega, hq5⟩
  · rintro A y h' n' hA ⟨q, hq1, hq2, hq3, hq4, rfl⟩ KK hI hJ
    subst hLO
    refine yield_at (upd_same _ _ _) rfl (by simp) ?_
    obtain ⟨M, hMd⟩ : ∃ M, Hide (M = A.map encSpan) := ⟨_, rfl⟩
    simp only [← hMd.out]
    have hMl : M.length = A.length := by rw [hMd.out, List.length_map]
    have hMc : Hide (∀ x ∈ M, (cellsOf x).length = 2) := fun x hx => by
      rw [hMd.out] at hx; obtain ⟨z, _, rfl⟩ := List.mem_map.1 hx; rfl
    obtain ⟨H, hH⟩ : ∃ H, Hide (H = (h.upd n (some (.cells [acV 2 q M]))).upd q (acO M)) := ⟨_, rfl⟩
    simp only [← hH.out]
    have hHn : H n = some (.cells [acV 2 q M]) := by rw [hH.out]; simp (disch := omega) only [upd_ne, upd_same]
    have hHq : Hide (H q = acO M) := by rw [Hide, hH.out, upd_same]
    have hHB : NB H n' := fun k hk => by
      rw [hH.out]
      simp (disch := omega) only [upd_ne]; exact hnone.out _ (by omega)
    simp only [go_sem]
    repeat' (first
      | (refine ac_seq_h fun K hK => ?_)
      | (refine ac_region_h fun K hK => ?_; simp (disch := omega) [go_sem, *, encSpan])
      | (refine ac_draw_h mixed (by kernel_rfl) fun K hK => ?_; simp (disch := omega) [go_sem, *, wrap64_id, upd_ne, mk3_true, flatten_replicate_one, stepK_if, ilt_true, ilt_false, ile_true, ile_false, encSpan])
      | (apply Hide.out hK; clear hK K; try with_reducible dsimp only [thenA])
      | (apply Hide.out ht; clear ht hf Kt Kf)
      | (apply Hide.out hf; clear ht hf Kt Kf)
      | (clear hK K; apply Hide.out hK; clear hK K; try with_reducible dsimp only [thenA])
      | (clear hK K; clear hK K; apply Hide.out hK; clear hK K; try with_reducible dsimp only [thenA])
      | (refine ac_block ?_)
      | (refine ac_skip ?_; simp only [thenA, blockA])
      | (refine ac_exit ?_; simp only [thenA, blockA, if_true, if_false, Nat.reduceEqDiff])
      | (with_reducible show nextK _ _ _ _ _ _ _; simp (disch := omega) [go_sem, *, wrap64_id, upd_ne, mk3_true, flatten_replicate_one, stepK_if, ilt_true, ilt_false, ile_true, ile_false, encSpan])
      | (refine wantK_split (fun hc => ?_) (fun hc => ?_) <;> (try simp only [Bool.not_eq_true', Bool.not_eq_false', Bool.not_eq_eq_eq_not, Bool.not_true, Bool.not_false, decide_eq_true_eq, decide_eq_false_iff_not, Int.not_lt, Int.not_le] at hc) <;> (try (exfalso; omega)) <;> (try simp (disch := omega) [go_sem, *, wrap64_id, upd_ne, mk3_true, flatten_replicate_one, stepK_if, ilt_true, ilt_false, ile_true, ile_false, encSpan]))
      | (refine ac_cond_h fun Kt Kf ht hf => ?_; simp (disch := omega) [go_sem, *, wrap64_id, upd_ne, mk3_true, flatten_replicate_one, stepK_if, ilt_true, ilt_false, ile_true, ile_false, encSpan]; try (refine ⟨fun hc => ?_, fun hc => ?_⟩ <;> try (exfalso; omega))))
    refine asg_keep ((h.upd n (some (.cells [acV 2 (n' + 2 + 3) (M ++ [encSpan y])]))).upd (n' + 2 + 3) (acO (M ++ [encSpan y]))) (by simp (disch := omega) only [upd_ne, upd_same]) ?_
    repeat' (first
      | (refine ac_seq_h fun K hK => ?_)
      | (refine ac_region_h fun K hK => ?_; simp (disch := omega) [go_sem, *, upd_ne])
      | (refine ac_draw_h mixed (by kernel_rfl) fun K hK => ?_; simp (disch := omega) [go_sem, *, wrap64_id, upd_ne, mk3_true, flatten_replicate_one, stepK_if, ilt_true, ilt_false, ile_true, ile_false, encSpan])
      | (apply Hide.out hK; clear hK K; try with_reducible dsimp only [thenA])
      | (apply Hide.out ht; clear ht hf Kt Kf)
      | (apply Hide.out hf; clear ht hf Kt Kf)
      | (clear hK K; apply Hide.out hK; clear hK K; try with_reducible dsimp only [thenA])
      | (clear hK K; clear hK K; apply Hide.out hK; clear hK K; try with_reducible dsimp only [thenA])
      | (refine ac_block ?_)
      | (refine ac_skip ?_; simp only [thenA, blockA])
      | (refine ac_exit ?_; simp only [thenA, blockA, if_true, if_false, Nat.reduceEqDiff])
      | (with_reducible show nextK _ _ _ _ _ _ _; simp (disch := omega) [go_sem, *, wrap64_id, upd_ne, mk3_true, flatten_replicate_one, stepK_if, ilt_true, ilt_false, ile_true, ile_false, encSpan])
      | (refine wantK_split (fun hc => ?_) (fun hc => ?_) <;> (try simp only [Bool.not_eq_true', Bool.not_eq_false', Bool.not_eq_eq_eq_not, Bool.not_true, Bool.not_false, decide_eq_true_eq, decide_eq_false_iff_not, Int.not_lt, Int.not_le] at hc) <;> (try (exfalso; omega)) <;> (try simp (disch := omega) [go_sem, *, wrap64_id, upd_ne, mk3_true, flatten_replicate_one, stepK_if, ilt_true, ilt_false, ile_true, ile_false, encSpan]))
      | (refine ac_cond_h fun Kt Kf ht hf => ?_; simp (disch := omega) [go_sem, *, wrap64_id, upd_ne, mk3_true, flatten_replicate_one, stepK_if, ilt_true, ilt_false, ile_true, ile_false, encSpan]; try (refine ⟨fun hc => ?_, fun hc => ?_⟩ <;> try (exfalso; omega))))
    have hap := fun nm X hX hlX hh hm => ap_span (nm := nm) (m := q) (L := M) (X := X) (nl := false) (full := false) (h := hh) hm hMc.out hX hlX
    rw [hap _ _ (by simp) (by simp; omega) _ (by simp (disch := omega) only [upd_ne]; exact hHq.out)]
    rw [acV_ne (show M ++ [_] ≠ [] by simp)]
    simp only [stepK]
    replace hap : Hide _ := hap
    repeat' (first
      | (refine ac_seq_h fun K hK => ?_)
      | (refine ac_region_h fun K hK => ?_; simp (disch := omega) [go_sem, *, wrap64_id, upd_ne, mk3_true, flatten_replicate_one, stepK_if, ilt_true, ilt_false, ile_true, ile_false, encSpan])
      | (refine ac_draw_h mixed (by kernel_rfl) fun K hK => ?_; simp (disch := omega) [go_sem, *, wrap64_id, upd_ne, mk3_true, flatten_replicate_one, stepK_if, ilt_true, ilt_false, ile_true, ile_false, encSpan])
      | (apply Hide.out hK; clear hK K; try with_reducible dsimp only [thenA])
      | (apply Hide.out ht; clear ht hf Kt Kf)
      | (apply Hide.out hf; clear ht hf Kt Kf)
      | (clear hK K; apply Hide.out hK; clear hK K; try with_reducible dsimp only [thenA])
      | (clear hK K; clear hK K; apply Hide.out hK; clear hK K; try with_reducible dsimp only [thenA])
      | (refine ac_block ?_)
      | (refine ac_skip ?_; simp only [thenA, blockA])
      | (refine ac_exit ?_; simp only [thenA, blockA, if_true, if_false, Nat.reduceEqDiff])
      | (with_reducible show nextK _ _ _ _ _ _ _; simp (disch := omega) [go_sem, *, upd_ne])
      | (refine wantK_split (fun hc => ?_) (fun hc => ?_) <;> (try simp only [Bool.not_eq_true', Bool.not_eq_false', Bool.not_eq_eq_eq_not, Bool.not_true, Bool.not_false, decide_eq_true_eq, decide_eq_false_iff_not, Int.not_lt, Int.not_le] at hc) <;> (try (exfalso; omega)) <;> (try simp (disch := omega) [go_sem, *, wrap64_id, upd_ne, mk3_true, flatten_replicate_one, stepK_if, ilt_true, ilt_false, ile_true, ile_false, encSpan]))
      | (refine ac_cond_h fun Kt Kf ht hf => ?_; simp (disch := omega) [go_sem, *, wrap64_id, upd_ne, mk3_true, flatten_replicate_one, stepK_if, ilt_true, ilt_false, ile_true, ile_false, encSpan]; try (refine ⟨fun hc => ?_, fun hc => ?_⟩ <;> try (exfalso; omega))))
    dsimp only [blockA]
    refine keep_round ?_ (by simp (disch := omega) only [upd_ne, upd_same]) (Hide.out hI _ _ ⟨n' + 2 + 3, by omega, by omega, by simp only; omega, by simp only; omega, ?_⟩)
    · intro k o hk e
      by_cases e1 : k = n' + 2 + 3
      · subst e1
        rw [upd_same] at e
        simp (disch := omega) only [upd_ne, upd_same]
        exact e
      · rw [upd_ne _ _ _ _ e1] at e
        by_cases e2 : k = n
        · subst e2
          rw [upd_same] at e
          simp only [upd_same]
          rw [← e, acV_ne (by simp)]
          simp [hMl]
        · rw [upd_ne _ _ _ _ e2] at e
          have hkn : k < n := by
            rcases Nat.lt_or_ge k n with h1 | h1
            · exact h1
            · rw [hnone.out _ h1] at e; cases e
          simp (disch := omega) only [upd_ne]
          rw [hH.out]
          simp (disch := omega) only [upd_ne]
          exact e
    · simp only [List.map_append, List.map_cons, List.map_nil, ← hMd.out]
  · rintro h' n' ⟨q, hq1, hq2, hq3, hq4, rfl⟩
    obtain ⟨M, hMd⟩ : ∃ M, Hide (M = (partsOf s l).map encSpan) := ⟨_, rfl⟩
    simp only [← hMd.out]
    have hMc : Hide (∀ x ∈ M, (cellsOf x).length = 2) := fun x hx => by
      rw [hMd.out] at hx; obtain ⟨z, _, rfl⟩ := List.mem_map.1 hx; rfl
    rw [rangeK, upd_same, ← hLO]
    refine ⟨by simp, ?_⟩
    dsimp only [blockA, thenA]
    apply Hide.out hK
    clear hK K hLO
    obtain ⟨H, hH⟩ : ∃ H, Hide (H = (h.upd n (some (.cells [acV 2 q M]))).upd q (acO M)) := ⟨_, rfl⟩
    have hHn : H n = some (.cells [acV 2 q M]) := by rw [hH.out]; simp (disch := omega) only [upd_ne, upd_same]
    have hHq : Hide (H q = acO M) := by rw [Hide, hH.out, upd_same]
    simp only [← hH.out]
    repeat' (first
      | (refine ac_seq_h fun K hK => ?_)
      | (refine ac_region_h fun K hK => ?_; simp (disch := omega) [go_sem, *, upd_ne])
      | (refine ac_draw_h mixed (by kernel_rfl) fun K hK => ?_; simp (disch := omega) [go_sem, *, wrap64_id, upd_ne, mk3_true, flatten_replicate_one, stepK_if, ilt_true, ilt_false, ile_true, ile_false])
      | (apply Hide.out hK; clear hK K; try with_reducible dsimp only [thenA])
      | (apply Hide.out ht; clear ht hf Kt Kf)
      | (apply Hide.out hf; clear ht hf Kt Kf)
      | (clear hK K; apply Hide.out hK; clear hK K; try with_reducible dsimp only [thenA])
      | (clear hK K; clear hK K; apply Hide.out hK; clear hK K; try with_reducible dsimp only [thenA])
      | (refine ac_block ?_)
      | (refine ac_skip ?_; simp only [thenA, blockA])
      | (refine ac_exit ?_; simp only [thenA, blockA, if_true, if_false, Nat.reduceEqDiff])
      | (with_reducible show nextK _ _ _ _ _ _ _; simp (disch := omega) [go_sem, *, wrap64_id, upd_ne, mk3_true, flatten_replicate_one, stepK_if, ilt_true, ilt_false, ile_true, ile_false])
      | (refine wantK_split (fun hc => ?_) (fun hc => ?_) <;> (try simp only [Bool.not_eq_true', Bool.not_eq_false', Bool.not_eq_eq_eq_not, Bool.not_true, Bool.not_false, decide_eq_true_eq, decide_eq_false_iff_not, Int.not_lt, Int.not_le] at hc) <;> (try (exfalso; omega)) <;> (try simp (disch := omega) [go_sem, *, wrap64_id, upd_ne, mk3_true, flatten_replicate_one, stepK_if, ilt_true, ilt_false, ile_true, ile_false]))
      | (refine ac_cond_h fun Kt Kf ht hf => ?_; simp (disch := omega) [go_sem, *, wrap64_id, upd_ne, mk3_true, flatten_replicate_one, stepK_if, ilt_true, ilt_false, ile_true, ile_false]; try (refine ⟨fun hc => ?_, fun hc => ?_⟩ <;> try (exfalso; omega))))
    refine ac_ret ?_
    refine ⟨by simp, _, (by simp (disch := omega) [go_sem] <;> rfl), ?_⟩
    refine ret_ac (m := q) (s := 2) (L := M) true (by simp) (by simp (disch := omega) only [upd_ne]; exact hHq.out) hMc.out (by rw [hMd.out]; exact partsA_elems _ _) ?_
    refine ret_id ⟨fun k hk => ?_, ?_, ?_, by simp, by simp⟩
    · simp (disch := omega) only [upd_ne]; rw [hH.out]; simp (disch := omega) only [upd_ne]
    · rw [hMd.out]; simp [below, belowL, belowL_iff]
    · rw [hMd.out, List.isEmpty_map]
theorem collect_spec (p : Nat) (nl : Bool) (l : List Span) (s : Span) (hl : l.length < 100000) (hbd : ∀ (i : Nat) (y : Span), l[i]? = some y → 0 ≤ y.lo ∧ y.lo ≤ y.hi ∧ y.hi ≤ 1048576) (h : AHeap) (n : Nat) (hp : h p = some (.cells [encOpen nl l])) (hp1 : h (p + 1) = some (.cells [iv .i64 s.lo, iv .i64 s.hi])) :
    APureAt Try.prog 53 [.func (.func 61) [] [.ptr p 0, .ptr (p + 1) 0]] h n (encOpen (partsOf s l).isEmpty (partsOf s l)) := by
  refine ACalls.pure (ACalls.entry (by kernel_rfl) fun hb _ => calls_of Try.func53 rfl (by kernel_rfl) (by simp [Try.ntmps53]) ?_)
  replace hbd : Hide _ := hbd
  have c60 := fun b => appendSeq_spec p nl l s hl hbd.out h b hp hp1
  generalize partsOf s l = L at *
  repeat' (first
    | (refine ac_seq_h fun K hK => ?_)
    | (refine ac_region_h fun K hK => ?_; simp (disch := omega) [go_sem, *, Try.ntmps53 ])
    | (refine ac_draw_h mixed (by kernel_rfl) fun K hK => ?_; simp (disch := omega) [go_sem, *, wrap64_id, upd_ne, mk3_true, flatten_replicate_one, stepK_if, ilt_true, ilt_false, ile_true, ile_false, Try.ntmps53 ])
    | (apply Hide.out hK; clear hK K; try with_reducible dsimp only [thenA])
    | (apply Hide.out ht; clear ht hf Kt Kf)
    | (apply Hide.out hf; clear ht hf Kt Kf)
    | (clear hK K; apply Hide.out hK; clear hK K; try with_reducible dsimp only [thenA])
    | (clear hK K; clear hK K; apply Hide.out hK; clear hK K; try with_reducible dsimp only [thenA])
    | (with_reducible refine APureAt.call (c60 _) ?_; try simp (disch := omega) [go_sem, * ])
    | (refine ac_block ?_)
    | (refine ac_skip ?_; simp only [thenA, blockA])
    | (refine ac_exit ?_; simp only [thenA, blockA, if_true, if_false, Nat.reduceEqDiff])
    | (with_reducible show nextK _ _ _ _ _ _ _; simp (disch := omega) [go_sem, *, wrap64_id, upd_ne, mk3_true, flatten_replicate_one, stepK_if, ilt_true, ilt_false, ile_true, ile_false, Try.ntmps53 ])
    | (refine wantK_split (fun hc => ?_) (fun hc => ?_) <;> (try simp only [Bool.not_eq_true', Bool.not_eq_false', Bool.not_eq_eq_eq_not, Bool.not_true, Bool.not_false, decide_eq_true_eq, decide_eq_false_iff_not, Int.not_lt, Int.not_le] at hc) <;> (try (exfalso; omega)) <;> (try simp (disch := omega) [go_sem, *, wrap64_id, upd_ne, mk3_true, flatten_replicate_one, stepK_if, ilt_true, ilt_false, ile_true, ile_false, Try.ntmps53 ]))
    | (refine ac_cond_h fun Kt Kf ht hf => ?_; simp (disch := omega) [go_sem, *, wrap64_id, upd_ne, mk3_true, flatten_replicate_one, stepK_if, ilt_true, ilt_false, ile_true, ile_false, Try.ntmps53 ]; try (refine ⟨fun hc => ?_, fun hc => ?_⟩ <;> try (exfalso; omega))))
  refine ac_ret ?_
  refine ⟨by simp, _, (by first | rfl | (simp (disch := omega) [go_sem, upd_ne] <;> rfl)), ?_⟩
  exact ret_id ⟨fun k hk => rfl, by simp [go_sem, below, belowL, belowL_iff, resVal], by rfl, by simp, by simp⟩
end Go.AM
