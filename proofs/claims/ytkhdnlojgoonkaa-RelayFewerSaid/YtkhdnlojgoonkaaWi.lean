/- Walks: the specification's shut, Needed and SameNet. Conditions: as each theorem says. -/
import Derived.Test.YtkhdnlojgoonkaaWh
namespace Go.AM
open Go.Proofs Nets
set_option maxRecDepth 10000
set_option maxHeartbeats 4000000
theorem ret_weak {fl : Nat} {K : AV → AHeap → Nat → Prop} {x x' : AV} {h : AHeap} {n : Nat} (hw : ∀ G v, Rv G x v → Rv G x' v) (hk : RetOk fl K x' h n) : RetOk fl K x h n :=
  ret_step (fun _ G _ _ I f r hl => ⟨G, ⟨Ext.refl _ _, rfl⟩, I, f, hw _ _ r, hl⟩) hk
theorem ap_links' (nm : Nat) (nl : Bool) (l : List Link) (h : AHeap) (h0 : l ≠ []) (hl : l.length < 1000000) : aAppend Try.prog nm 22 (.fslc false true 4 []) (encLinks nl l) h = some (.slc nm 0 l.length 4, h.upd nm (some (.cells (flat (l.map encLink))))) := by
  have e1 : eltOf Try.prog 22 = some 27 := by kernel_rfl
  have e2 : szOf Try.prog 27 = some 4 := by kernel_rfl
  have e3 : byOf Try.prog 27 = some 48 := by kernel_rfl
  have e4 : zerOf Try.prog 27 = some (.agg [iv .i64 0, iv .i64 0, iv .i64 0, .fslc true true 0 []]) := by kernel_rfl
  have hl2 : l.length ≤ 67108864 := by omega
  have hf : flat [] = [] := rfl
  simp [aAppend, e1, e2, e3, e4, srcCells, cellsOf, AV.scalar, h0, hl2, hf]
theorem shut_ref (N : Net) (k : Nat) (x : Link) (hx : N.links[k]? = some x) (hl : N.links.length < 1000000) : APure Try.prog 52 [encNet N, iv .i64 k] (encNet (shutN N k)) := by
  intro h n
  refine ACalls.pure (ACalls.entry (by kernel_rfl) fun hb _ => calls_of Try.func52 rfl (by kernel_rfl) (by simp [Try.ntmps52]) ?_)
  have hk : k < N.links.length := (List.getElem?_eq_some_iff.1 hx).1
  have h0 : N.links ≠ [] := by intro e; rw [e] at hk; simp at hk
  have hap := fun nm H => ap_links' nm N.nl N.links H h0 hl
  have hfl := flat_links_len N.links
  have hfs := flat_shut N.links k x hx
  replace hfs : Hide _ := hfs
  replace hx : Hide _ := hx
  repeat' (first
    | (refine ac_seq_h fun K hK => ?_)
    | (refine ac_region_h fun K hK => ?_; simp (disch := omega) [go_sem, *, Try.ntmps52])
    | (apply Hide.out hK; clear hK K; try with_reducible dsimp only [thenA])
    | (apply Hide.out ht; clear ht hf Kt Kf)
    | (apply Hide.out hf; clear ht hf Kt Kf)
    | (clear hK K; apply Hide.out hK; clear hK K; try with_reducible dsimp only [thenA])
    | (clear hK K; clear hK K; apply Hide.out hK; clear hK K; try with_reducible dsimp only [thenA])
    | (refine ac_block ?_)
    | (refine ac_skip ?_; simp only [thenA, blockA])
    | (refine ac_exit ?_; simp only [thenA, blockA, if_true, if_false, Nat.reduceEqDiff])
    | (with_reducible show nextK _ _ _ _ _ _ _; simp (disch := omega) [go_sem, *, wrap64_id, upd_ne, mk3_true, flatten_replicate_one, stepK_if, ilt_true, ilt_false, ile_true, ile_false, Try.ntmps52])
    | (refine wantK_split (fun hc => ?_) (fun hc => ?_) <;> (try simp only [Bool.not_eq_true', Bool.not_eq_false', Bool.not_eq_eq_eq_not, Bool.not_true, Bool.not_false, decide_eq_true_eq, decide_eq_false_iff_not, Int.not_lt, Int.not_le] at hc) <;> (try (exfalso; omega)) <;> (try simp (disch := omega) [go_sem, *, wrap64_id, upd_ne, mk3_true, flatten_replicate_one, stepK_if, ilt_true, ilt_false, ile_true, ile_false, Try.ntmps52]))
    | (refine ac_cond_h fun Kt Kf ht hf => ?_; simp (disch := omega) [go_sem, *, wrap64_id, upd_ne, mk3_true, flatten_replicate_one, stepK_if, ilt_true, ilt_false, ile_true, ile_false, Try.ntmps52]; try (refine ⟨fun hc => ?_, fun hc => ?_⟩ <;> try (exfalso; omega))))
  refine ac_fzbox (m := n) (t := 2) (c := [iv .i64 N.st, encLinks N.nl N.links]) (by simp only [upd_ne _ _ _ _ (show n ≠ n + 1 by omega), upd_same]) (by simp [go_sem]) ?_
  refine ac_draw3_h [2] mixed (by kernel_rfl) (fun x hx => by simp at hx; subst hx; exact ⟨_, by simp [go_sem]; rfl⟩) fun K2 hK2 => ?_
  simp (disch := omega) [go_sem, *]
  repeat' (first
    | (refine ac_seq_h fun K hK => ?_)
    | (refine ac_region_h fun K hK => ?_; simp (disch := omega) [go_sem, *, wrap64_id, upd_ne, mk3_true, flatten_replicate_one, stepK_if, ilt_true, ilt_false, ile_true, ile_false, Try.ntmps52])
    | (refine ac_draw_h mixed (by kernel_rfl) fun K hK => ?_; simp (disch := omega) [go_sem, *, wrap64_id, upd_ne, mk3_true, flatten_replicate_one, stepK_if, ilt_true, ilt_false, ile_true, ile_false, Try.ntmps52])
    | (apply Hide.out hK; clear hK K; try with_reducible dsimp only [thenA])
    | (apply Hide.out ht; clear ht hf Kt Kf)
    | (apply Hide.out hf; clear ht hf Kt Kf)
    | (clear hK K; apply Hide.out hK; clear hK K; try with_reducible dsimp only [thenA])
    | (clear hK K; clear hK K; apply Hide.out hK; clear hK K; try with_reducible dsimp only [thenA])
    | (refine ac_block ?_)
    | (refine ac_skip ?_; simp only [thenA, blockA])
    | (refine ac_exit ?_; simp only [thenA, blockA, if_true, if_false, Nat.reduceEqDiff])
    | (with_reducible show nextK _ _ _ _ _ _ _; simp (disch := omega) [go_sem, *, wrap64_id, upd_ne, mk3_true, flatten_replicate_one, stepK_if, ilt_true, ilt_false, ile_true, ile_false, Try.ntmps52])
    | (refine wantK_split (fun hc => ?_) (fun hc => ?_) <;> (try simp only [Bool.not_eq_true', Bool.not_eq_false', Bool.not_eq_eq_eq_not, Bool.not_true, Bool.not_false, decide_eq_true_eq, decide_eq_false_iff_not, Int.not_lt, Int.not_le] at hc) <;> (try (exfalso; omega)) <;> (try simp (disch := omega) [go_sem, *, wrap64_id, upd_ne, mk3_true, flatten_replicate_one, stepK_if, ilt_true, ilt_false, ile_true, ile_false, Try.ntmps52]))
    | (refine ac_cond_h fun Kt Kf ht hf => ?_; simp (disch := omega) [go_sem, *, wrap64_id, upd_ne, mk3_true, flatten_replicate_one, stepK_if, ilt_true, ilt_false, ile_true, ile_false, Try.ntmps52]; try (refine ⟨fun hc => ?_, fun hc => ?_⟩ <;> try (exfalso; omega))))
  refine hK2.out _ ?_
  dsimp only [thenA]
  refine hK.out _ ?_
  clear hK2 hK
  repeat' (first
    | (refine ac_seq_h fun K hK => ?_)
    | (refine ac_region_h fun K hK => ?_; simp (disch := omega) [go_sem, *, upd_ne, stepK_if, ilt_true, ile_true])
    | (refine ac_draw_h mixed (by kernel_rfl) fun K hK => ?_; simp (disch := omega) [go_sem, *, wrap64_id, upd_ne, mk3_true, flatten_replicate_one, stepK_if, ilt_true, ilt_false, ile_true, ile_false, Try.ntmps52])
    | (apply Hide.out hK; clear hK K; try with_reducible dsimp only [thenA])
    | (apply Hide.out ht; clear ht hf Kt Kf)
    | (apply Hide.out hf; clear ht hf Kt Kf)
    | (clear hK K; apply Hide.out hK; clear hK K; try with_reducible dsimp only [thenA])
    | (clear hK K; clear hK K; apply Hide.out hK; clear hK K; try with_reducible dsimp only [thenA])
    | (refine ac_block ?_)
    | (refine ac_skip ?_; simp only [thenA, blockA])
    | (refine ac_exit ?_; simp only [thenA, blockA, if_true, if_false, Nat.reduceEqDiff])
    | (with_reducible show nextK _ _ _ _ _ _ _; simp (disch := omega) [go_sem, *, wrap64_id, upd_ne, mk3_true, flatten_replicate_one, stepK_if, ilt_true, ilt_false, ile_true, ile_false, Try.ntmps52])
    | (refine wantK_split (fun hc => ?_) (fun hc => ?_) <;> (try simp only [Bool.not_eq_true', Bool.not_eq_false', Bool.not_eq_eq_eq_not, Bool.not_true, Bool.not_false, decide_eq_true_eq, decide_eq_false_iff_not, Int.not_lt, Int.not_le] at hc) <;> (try (exfalso; omega)) <;> (try simp (disch := omega) [go_sem, *, wrap64_id, upd_ne, mk3_true, flatten_replicate_one, stepK_if, ilt_true, ilt_false, ile_true, ile_false, Try.ntmps52]))
    | (refine ac_cond_h fun Kt Kf ht hf => ?_; simp (disch := omega) [go_sem, *, wrap64_id, upd_ne, mk3_true, flatten_replicate_one, stepK_if, ilt_true, ilt_false, ile_true, ile_false, Try.ntmps52]; try (refine ⟨fun hc => ?_, fun hc => ?_⟩ <;> try (exfalso; omega))))
  refine ac_ret ?_
  try dsimp only [thenA, blockA]
  refine ⟨by simp, _, (by first | rfl | (simp (disch := omega) [go_sem] <;> rfl)), ?_⟩
  rw [hfs.out]
  refine ret_freeze true (m := n + 2 + 5) (c := flat ((N.links.map encLink).set k (encShut x))) (by simp (disch := omega) only [upd_ne, upd_same]) ?_
  have hlks := shutN_links hx.out
  have hencS : encNet (shutN N k) = .agg [iv .i64 N.st, .fslc false false 4 ((N.links.set k (shutL x)).map encLink)] := by rw [encNet, encLinks, hlks]; rfl
  have fzv : fzT (n + 2 + 5) (flat ((N.links.map encLink).set k (encShut x))) true (.agg [iv .i64 N.st, .slc (n + 2 + 5) 0 N.links.length 4]) = .agg [iv .i64 N.st, .fslc false false 4 ((N.links.map encLink).set k (encShut x))] := by
    have e1 := elems_flat ((N.links.map encLink).set k (encShut x)) fun y hy => by
      rcases List.mem_or_eq_of_mem_set hy with h' | rfl
      · obtain ⟨z, _, rfl⟩ := List.mem_map.1 h'; exact ⟨_, _, _, _, rfl⟩
      · exact ⟨_, _, _, _, rfl⟩
    have e2 := flat_shut N.links k x hx.out
    have e3 : (flat ((N.links.map encLink).set k (encShut x))).length = N.links.length * 4 := by
      rw [← e2]; simp only [List.length_append, List.length_cons, List.length_take, List.length_drop, hfl]; omega
    rw [List.length_set, List.length_map] at e1
    simp only [List.map_cons, List.map_nil, fzT, fz]
    rw [if_pos ⟨by trivial, by rw [e3]; omega, by simp⟩, List.drop_zero, e1]
  show RetOk _ _ (fzT (n + 2 + 5) (flat ((N.links.map encLink).set k (encShut x))) true (.agg [iv .i64 N.st, .slc (n + 2 + 5) 0 N.links.length 4])) _ _
  rw [fzv]
  refine ret_weak (x' := encNet (shutN N k)) (fun G v hv => ?_) ?_
  · rw [hencS]
    simp only [RvL, Rv] at hv ⊢
    obtain ⟨us, e2, u1, r1, f1, g1, u2, r2, f2, ⟨aa, cap, k1, k2, k3, k4, k5⟩, f3⟩ := hv
    refine ⟨us, e2, u1, r1, f1, g1, u2, r2, f2, ⟨aa, cap, ?_, ?_, by simp, by simp, fun _ => ?_⟩, f3⟩
    · rw [k1]; simp
    · simpa using k2
    · obtain ⟨ad, p, q⟩ := k5 trivial
      exact ⟨ad, p, shut_rel _ _ _ _ hx.out q⟩
  · refine ret_id ⟨fun k hk => ?_, ?_, rfl, by simp, by simp⟩
    · simp (disch := omega) only [upd_ne]
    · simp [below, belowL, belowL_iff]
theorem needed_ref (N : Net) (s to t : Int) : APure Try.prog 30 [encNet N, iv .i64 s, iv .i64 to, iv .i64 t] (.agg [neV (needH N s to t (askedE N t [s, to])), iv .i64 (wayE N s to t (askedE N t [s, to]))]) := by
  intro h n
  refine ACalls.pure (ACalls.entry (by kernel_rfl) fun hb _ => calls_of Try.func30 rfl (by kernel_rfl) (by simp [Try.ntmps30]) ?_)
  have c24 := arrives_ref N s to t
  rw [← wayE_eq] at c24
  by_cases hE : wayE N s to t (askedE N t [s, to]) = 0
  · have hEA : askedE N t [s, to] = 0 := by
      unfold wayE at hE
      split at hE
      · rename_i h1; exact absurd hE h1
      · rename_i h1; simpa using h1
    have hE1 : askedE N t [s] = 0 ∧ bad N to = false := by
      have := askedE2_eq N s to t
      rw [hEA] at this
      unfold askedE2 at this
      by_cases hz : askedE N t [s] = 0
      · rw [if_pos hz] at this
        refine ⟨hz, ?_⟩
        cases hb2 : bad N to
        · rfl
        · rw [hb2] at this; simp at this
      · rw [if_neg hz] at this; exact absurd this.symm hz
    obtain ⟨hE1, hbad⟩ := hE1
    obtain ⟨hC, _⟩ := asked_zero hEA
    obtain ⟨s1, s2, hll, hok⟩ := checkE_ok hC
    replace hok : Hide _ := hok
    have ha : 0 ≤ at' (arrP N s t).out to := by
      rw [hEA, wayE, if_neg (by simp)] at hE
      split at hE
      · cases hE
      · omega
    have hap0 := arr_pair hE1 hbad
    rw [if_neg (by omega)] at hap0
    rw [hE, hE1, hap0] at c24
    have hnA : Hide (∀ k, needAt N s to t k = decide (at' (arrP (shutN N k) s t).out to ≠ at' (arrP N s t).out to)) := fun k => rfl
    have hpair : Hide (∀ k, k < N.links.length → APure Try.prog 24 [encNet (shutN N k), iv .i64 s, iv .i64 to, iv .i64 t] (.tup [iv .i64 (if at' (arrP (shutN N k) s t).out to < 0 then 0 else at' (arrP (shutN N k) s t).out to), iv .i64 (if at' (arrP (shutN N k) s t).out to < 0 then 5 else 0)])) := fun k hk => by
      have hx := List.getElem?_eq_getElem hk
      have h1 := asked_shut hx hE1
      have h2 : bad (shutN N k) to = false := hbad
      have := arrives_ref (shutN N k) s to t
      rw [h1, arr_pair h1 h2] at this
      split
      · rename_i hneg
        rw [if_pos hneg] at this; exact this
      · rename_i hneg
        rw [if_neg hneg] at this; exact this
    generalize at' (arrP N s t).out to = a at *
    have hfin : Hide (needH N s to t (askedE N t [s, to]) = needTo N s to t N.links.length) := by rw [Hide, needH, if_pos hE]
    replace hap0 : Hide _ := hap0
    replace hE : Hide _ := hE
    clear hE1 hbad
    repeat' (first
      | (refine ac_seq_h fun K hK => ?_)
      | (refine ac_region_h fun K hK => ?_; simp (disch := omega) [go_sem, *, upd_ne, Try.ntmps30 ])
      | (refine ac_draw_h mixed (by kernel_rfl) fun K hK => ?_; simp (disch := omega) [go_sem, *, wrap64_id, upd_ne, mk3_true, flatten_replicate_one, stepK_if, ilt_true, ilt_false, ile_true, ile_false, Try.ntmps30 ])
      | (apply Hide.out hK; clear hK K; try with_reducible dsimp only [thenA])
      | (apply Hide.out ht; clear ht hf Kt Kf)
      | (apply Hide.out hf; clear ht hf Kt Kf)
      | (clear hK K; apply Hide.out hK; clear hK K; try with_reducible dsimp only [thenA])
      | (clear hK K; clear hK K; apply Hide.out hK; clear hK K; try with_reducible dsimp only [thenA])
      | (with_reducible refine APure.call (c24) ?_; try simp (disch := omega) [go_sem, * ])
      | (refine ac_block ?_)
      | (refine ac_skip ?_; simp only [thenA])
      | (refine ac_exit ?_; simp only [thenA, blockA, if_true, if_false, Nat.reduceEqDiff])
      | (with_reducible show nextK _ _ _ _ _ _ _; simp (disch := omega) [go_sem, *, wrap64_id, upd_ne, mk3_true, flatten_replicate_one, stepK_if, ilt_true, ilt_false, ile_true, ile_false, Try.ntmps30 ])
      | (refine wantK_split (fun hc => ?_) (fun hc => ?_) <;> (try simp only [Bool.not_eq_true', Bool.not_eq_false', Bool.not_eq_eq_eq_not, Bool.not_true, Bool.not_false, decide_eq_true_eq, decide_eq_false_iff_not, Int.not_lt, Int.not_le] at hc) <;> (try (exfalso; omega)) <;> (try simp (disch := omega) [go_sem, *, wrap64_id, upd_ne, mk3_true, flatten_replicate_one, stepK_if, ilt_true, ilt_false, ile_true, ile_false, Try.ntmps30 ]))
      | (refine ac_cond_h fun Kt Kf ht hf => ?_; simp (disch := omega) [go_sem, * ]; try (refine ⟨fun hc => ?_, fun hc => ?_⟩ <;> try (exfalso; omega))))
    · obtain ⟨b, hbb⟩ : ∃ b, b = (h.upd n (some (cellsNet N))).upd (n + 1) (some (.cells [.fslc true true 0 [], iv .i64 0])) := ⟨_, rfl⟩
      have hbn : b n = some (cellsNet N) := by rw [hbb, upd_ne _ _ _ _ (by omega), upd_same]
      have hbn1 : b (n + 1) = some (.cells [.fslc true true 0 [], iv .i64 0]) := by rw [hbb, upd_same]
      have hb0 : Hide (∀ k, n + 1 < k → b k = none) := fun k hk => by rw [hbb, upd_ne _ _ _ _ (by omega), upd_ne _ _ _ _ (by omega)]; exact hb.none (by omega)
      rw [← hbb]
      replace hbb : Hide _ := hbb
      refine ac_loop_wk (fun s' => ∃ (n' m k : Nat), n + 1 < m ∧ m < n' ∧ k ≤ N.links.length ∧ s' = ⟨57, [(1, iv .i64 s), (2, iv .i64 to), (3, iv .i64 t), (4, .ptr n 0), (8, .ptr (n + 1) 0), (9, iv .i64 a), (11, accV 1 m (needTo N s to t k).length), (12, iv .i64 k)], accH b m (needTo N s to t k).length ((needTo N s to t k).map (iv .i64)), n'⟩)
        (fun s => N.links.length - (intAt s 12).toNat) ?_ ?_
      · exact loop_start (by simp [go_sem, accV, needTo]) (Sub.refl _) ⟨_, n + 2, 0, by omega, by omega, by omega, rfl⟩
      · rintro s' ⟨n', m, k, hm1, hm2, hk, rfl⟩
        obtain ⟨H, hH⟩ : ∃ H, H = accH b m (needTo N s to t k).length ((needTo N s to t k).map (iv .i64)) := ⟨_, rfl⟩
        obtain ⟨V, hV⟩ : ∃ V, V = accV 1 m (needTo N s to t k).length := ⟨_, rfl⟩
        have hHn : H n = some (cellsNet N) := by rw [hH, accH]; split; exact hbn; rw [upd_ne _ _ _ _ (by omega)]; exact hbn
        have hHn1 : H (n + 1) = some (.cells [.fslc true true 0 [], iv .i64 0]) := by rw [hH, accH]; split; exact hbn1; rw [upd_ne _ _ _ _ (by omega)]; exact hbn1
        have hH0 : Hide (∀ k, n' ≤ k → H k = none) := fun k hk => by
          rw [hH, accH]; split
          · exact hb0.out _ (by omega)
          · rw [upd_ne _ _ _ _ (by omega)]; exact hb0.out _ (by omega)
        have hacc := needTo_len N s to t k
        have hnext := needTo_succ N s to t k
        rw [← hH, ← hV]
        replace hV : Hide _ := hV
        replace hH : Hide _ := hH
        by_cases hlt : k < N.links.length
        · obtain ⟨x, hx1, hx2, _⟩ := at_k hlt
          have csh := shut_ref N k x hx2 (by omega)
          have cpk := hpair.out k hlt
          have hnk := hnA.out k
          generalize at' (arrP (shutN N k) s t).out to = q at *
          replace hnk : Hide _ := hnk
          replace hx2 : Hide _ := hx2
          replace hnext : Hide _ := hnext
          clear hx1
          by_cases hq0 : q < 0
          · rw [if_pos hq0, if_pos hq0] at cpk
            have hne : needAt N s to t k = true := by rw [hnk.out]; simp; omega
            have hnx := hnext.out
            rw [if_pos hne] at hnx
            replace hnx : Hide _ := hnx
            clear hnext hne
            by_cases hz : (needTo N s to t k).length = 0
            · have hz2 : needTo N s to t k = [] := List.length_eq_zero_iff.1 hz
              have hHb : H = b := by rw [hH.out, accH, if_pos hz]
              replace hHb : Hide _ := hHb
              replace hz : Hide _ := hz
              replace hz2 : Hide _ := hz2
              have hVz : Hide (V = .fslc true true 0 []) := by rw [Hide, hV.out, accV, if_pos hz.out]
              repeat' (first
                | (refine ac_seq_h fun K hK => ?_)
                | (refine ac_region_h fun K hK => ?_; simp (disch := omega) [go_sem, *, ilt_true ])
                | (refine ac_draw_h mixed (by kernel_rfl) fun K hK => ?_; simp (disch := omega) [go_sem, *, wrap64_id, upd_ne, mk3_true, flatten_replicate_one, stepK_if, ilt_true, ilt_false, ile_true, ile_false, Try.ntmps30 ])
                | (apply Hide.out hK; clear hK K; try with_reducible dsimp only [thenA])
                | (apply Hide.out ht; clear ht hf Kt Kf)
                | (apply Hide.out hf; clear ht hf Kt Kf)
                | (clear hK K; apply Hide.out hK; clear hK K; try with_reducible dsimp only [thenA])
                | (clear hK K; clear hK K; apply Hide.out hK; clear hK K; try with_reducible dsimp only [thenA])
                | (with_reducible refine APure.call (csh) ?_; try simp (disch := omega) [go_sem, * ])
                | (with_reducible refine APure.call (cpk) ?_; try simp (disch := omega) [go_sem, * ])
                | (refine ac_block ?_)
                | (refine ac_skip ?_; simp only [thenA])
                | (refine ac_exit ?_; simp only [thenA, blockA, if_true, if_false, Nat.reduceEqDiff])
                | (with_reducible show nextK _ _ _ _ _ _ _; simp (disch := omega) [go_sem, *, wrap64_id, upd_ne, mk3_true, flatten_replicate_one, stepK_if, ilt_true, ilt_false, ile_true, ile_false, Try.ntmps30 ])
                | (refine wantK_split (fun hc => ?_) (fun hc => ?_) <;> (try simp only [Bool.not_eq_true', Bool.not_eq_false', Bool.not_eq_eq_eq_not, Bool.not_true, Bool.not_false, decide_eq_true_eq, decide_eq_false_iff_not, Int.not_lt, Int.not_le] at hc) <;> (try (exfalso; omega)) <;> (try simp (disch := omega) [go_sem, *, wrap64_id, upd_ne, mk3_true, flatten_replicate_one, stepK_if, ilt_true, ilt_false, ile_true, ile_false, Try.ntmps30 ]))
                | (refine ac_cond_h fun Kt Kf ht hf => ?_; simp (disch := omega) [go_sem, * ]; try (refine ⟨fun hc => ?_, fun hc => ?_⟩ <;> try (exfalso; omega))))
              rw [hVz.out, ap_int_nil]
              simp only [stepK]
              repeat' (first
                | (refine ac_seq_h fun K hK => ?_)
                | (refine ac_region_h fun K hK => ?_; simp (disch := omega) [go_sem, *, wrap64_id])
                | (refine ac_draw_h mixed (by kernel_rfl) fun K hK => ?_; simp (disch := omega) [go_sem, *, wrap64_id, upd_ne, mk3_true, flatten_replicate_one, stepK_if, ilt_true, ilt_false, ile_true, ile_false, Try.ntmps30])
                | (apply Hide.out hK; clear hK K; try with_reducible dsimp only [thenA])
                | (apply Hide.out ht; clear ht hf Kt Kf)
                | (apply Hide.out hf; clear ht hf Kt Kf)
                | (clear hK K; apply Hide.out hK; clear hK K; try with_reducible dsimp only [thenA])
                | (clear hK K; clear hK K; apply Hide.out hK; clear hK K; try with_reducible dsimp only [thenA])
                | (refine ac_block ?_)
                | (refine ac_skip ?_; simp only [thenA, blockA])
                | (refine ac_exit ?_; simp only [thenA, blockA, if_true, if_false, Nat.reduceEqDiff])
                | (with_reducible show nextK _ _ _ _ _ _ _; simp (disch := omega) [go_sem, *])
                | (refine wantK_split (fun hc => ?_) (fun hc => ?_) <;> (try simp only [Bool.not_eq_true', Bool.not_eq_false', Bool.not_eq_eq_eq_not, Bool.not_true, Bool.not_false, decide_eq_true_eq, decide_eq_false_iff_not, Int.not_lt, Int.not_le] at hc) <;> (try (exfalso; omega)) <;> (try simp (disch := omega) [go_sem, *, wrap64_id, upd_ne, mk3_true, flatten_replicate_one, stepK_if, ilt_true, ilt_false, ile_true, ile_false, Try.ntmps30]))
                | (refine ac_cond_h fun Kt Kf ht hf => ?_; simp (disch := omega) [go_sem, *, wrap64_id, upd_ne, mk3_true, flatten_replicate_one, stepK_if, ilt_true, ilt_false, ile_true, ile_false, Try.ntmps30]; try (refine ⟨fun hc => ?_, fun hc => ?_⟩ <;> try (exfalso; omega))))
              have hnx := hnx.out
              rw [hz2.out] at hnx
              refine round_end (by simp [go_sem, hnx, accV]) ?_ ⟨_, n' + 5 + 12 + 7 + 3, k + 1, by omega, by omega, by omega, rfl⟩ (by simp [intAt, go_sem]; omega)
              rw [hnx, accH_pos (by simp), hHb.out]
              refine Sub.both ?_ _ _
              repeat (first | exact Sub.refl _ | refine Sub.upd ?_ (hb0.out _ (by omega)) _)
            · have hHb : H = b.upd m (some (.cells ((needTo N s to t k).map (iv .i64)))) := by rw [hH.out, accH, if_neg hz]
              replace hHb : Hide _ := hHb
              replace hz : Hide _ := hz
              have hVz : Hide (V = .slc m 0 (needTo N s to t k).length 1) := by rw [Hide, hV.out, accV, if_neg hz.out]
              repeat' (first
                | (refine ac_seq_h fun K hK => ?_)
                | (refine ac_region_h fun K hK => ?_; simp (disch := omega) [go_sem, *, ilt_true ])
                | (refine ac_draw_h mixed (by kernel_rfl) fun K hK => ?_; simp (disch := omega) [go_sem, *, wrap64_id, upd_ne, mk3_true, flatten_replicate_one, stepK_if, ilt_true, ilt_false, ile_true, ile_false, Try.ntmps30 ])
                | (apply Hide.out hK; clear hK K; try with_reducible dsimp only [thenA])
                | (apply Hide.out ht; clear ht hf Kt Kf)
                | (apply Hide.out hf; clear ht hf Kt Kf)
                | (clear hK K; apply Hide.out hK; clear hK K; try with_reducible dsimp only [thenA])
                | (clear hK K; clear hK K; apply Hide.out hK; clear hK K; try with_reducible dsimp only [thenA])
                | (with_reducible refine APure.call (csh) ?_; try simp (disch := omega) [go_sem, * ])
                | (with_reducible refine APure.call (cpk) ?_; try simp (disch := omega) [go_sem, * ])
                | (refine ac_block ?_)
                | (refine ac_skip ?_; simp only [thenA])
                | (refine ac_exit ?_; simp only [thenA, blockA, if_true, if_false, Nat.reduceEqDiff])
                | (with_reducible show nextK _ _ _ _ _ _ _; simp (disch := omega) [go_sem, *, wrap64_id, upd_ne, mk3_true, flatten_replicate_one, stepK_if, ilt_true, ilt_false, ile_true, ile_false, Try.ntmps30 ])
                | (refine wantK_split (fun hc => ?_) (fun hc => ?_) <;> (try simp only [Bool.not_eq_true', Bool.not_eq_false', Bool.not_eq_eq_eq_not, Bool.not_true, Bool.not_false, decide_eq_true_eq, decide_eq_false_iff_not, Int.not_lt, Int.not_le] at hc) <;> (try (exfalso; omega)) <;> (try simp (disch := omega) [go_sem, *, wrap64_id, upd_ne, mk3_true, flatten_replicate_one, stepK_if, ilt_true, ilt_false, ile_true, ile_false, Try.ntmps30 ]))
                | (refine ac_cond_h fun Kt Kf ht hf => ?_; simp (disch := omega) [go_sem, * ]; try (refine ⟨fun hc => ?_, fun hc => ?_⟩ <;> try (exfalso; omega))))
              rw [hVz.out, ap_int _ m (needTo N s to t k).length ((needTo N s to t k).map (iv .i64)) _ _ (by first | (rw [hHb.out, upd_same]) | (simp (disch := omega) only [upd_ne]; rw [hHb.out, upd_same])) (by simp) (by omega)]
              simp only [stepK]
              repeat' (first
                | (refine ac_seq_h fun K hK => ?_)
                | (refine ac_region_h fun K hK => ?_; simp (disch := omega) [go_sem, *, wrap64_id])
                | (refine ac_draw_h mixed (by kernel_rfl) fun K hK => ?_; simp (disch := omega) [go_sem, *, wrap64_id, upd_ne, mk3_true, flatten_replicate_one, stepK_if, ilt_true, ilt_false, ile_true, ile_false, Try.ntmps30])
                | (apply Hide.out hK; clear hK K; try with_reducible dsimp only [thenA])
                | (apply Hide.out ht; clear ht hf Kt Kf)
                | (apply Hide.out hf; clear ht hf Kt Kf)
                | (clear hK K; apply Hide.out hK; clear hK K; try with_reducible dsimp only [thenA])
                | (clear hK K; clear hK K; apply Hide.out hK; clear hK K; try with_reducible dsimp only [thenA])
                | (refine ac_block ?_)
                | (refine ac_skip ?_; simp only [thenA, blockA])
                | (refine ac_exit ?_; simp only [thenA, blockA, if_true, if_false, Nat.reduceEqDiff])
                | (with_reducible show nextK _ _ _ _ _ _ _; simp (disch := omega) [go_sem, *])
                | (refine wantK_split (fun hc => ?_) (fun hc => ?_) <;> (try simp only [Bool.not_eq_true', Bool.not_eq_false', Bool.not_eq_eq_eq_not, Bool.not_true, Bool.not_false, decide_eq_true_eq, decide_eq_false_iff_not, Int.not_lt, Int.not_le] at hc) <;> (try (exfalso; omega)) <;> (try simp (disch := omega) [go_sem, *, wrap64_id, upd_ne, mk3_true, flatten_replicate_one, stepK_if, ilt_true, ilt_false, ile_true, ile_false, Try.ntmps30]))
                | (refine ac_cond_h fun Kt Kf ht hf => ?_; simp (disch := omega) [go_sem, *, wrap64_id, upd_ne, mk3_true, flatten_replicate_one, stepK_if, ilt_true, ilt_false, ile_true, ile_false, Try.ntmps30]; try (refine ⟨fun hc => ?_, fun hc => ?_⟩ <;> try (exfalso; omega))))
              have hnx := hnx.out
              refine round_end (by simp [go_sem, hnx, accV]) ?_ ⟨_, n' + 5 + 12 + 7 + 3, k + 1, by omega, by omega, by omega, rfl⟩ (by simp [intAt, go_sem]; omega)
              rw [hnx, accH_pos (by simp), hHb.out, List.map_append]
              refine Sub.both ?_ _ _
              repeat (first | exact Sub.refl _ | refine Sub.upd ?_ (hb0.out _ (by omega)) _)
          · rw [if_neg hq0, if_neg hq0] at cpk
            by_cases hqa : q = a
            · have hne : needAt N s to t k = false := by rw [hnk.out]; simp [hqa]
              have hnx := hnext.out
              rw [if_neg (by rw [hne]; simp)] at hnx
              replace hnx : Hide _ := hnx
              clear hnext hne hnk
              subst hqa
              repeat' (first
                | (refine ac_seq_h fun K hK => ?_)
                | (refine ac_region_h fun K hK => ?_; simp (disch := omega) [go_sem, *, wrap64_id, ilt_true ])
                | (refine ac_draw_h mixed (by kernel_rfl) fun K hK => ?_; simp (disch := omega) [go_sem, *, wrap64_id, upd_ne, mk3_true, flatten_replicate_one, stepK_if, ilt_true, ilt_false, ile_true, ile_false, Try.ntmps30 ])
                | (apply Hide.out hK; clear hK K; try with_reducible dsimp only [thenA])
                | (apply Hide.out ht; clear ht hf Kt Kf)
                | (apply Hide.out hf; clear ht hf Kt Kf)
                | (clear hK K; apply Hide.out hK; clear hK K; try with_reducible dsimp only [thenA])
                | (clear hK K; clear hK K; apply Hide.out hK; clear hK K; try with_reducible dsimp only [thenA])
                | (with_reducible refine APure.call (csh) ?_; try simp (disch := omega) [go_sem, * ])
                | (with_reducible refine APure.call (cpk) ?_; try simp (disch := omega) [go_sem, * ])
                | (refine ac_block ?_)
                | (refine ac_skip ?_; simp only [thenA, blockA])
                | (refine ac_exit ?_; simp only [thenA, blockA, if_true, if_false, Nat.reduceEqDiff])
                | (with_reducible show nextK _ _ _ _ _ _ _; simp (disch := omega) [go_sem, *, wrap64_id, upd_ne, mk3_true, flatten_replicate_one, stepK_if, ilt_true, ilt_false, ile_true, ile_false, Try.ntmps30 ])
                | (refine wantK_split (fun hc => ?_) (fun hc => ?_) <;> (try simp only [Bool.not_eq_true', Bool.not_eq_false', Bool.not_eq_eq_eq_not, Bool.not_true, Bool.not_false, decide_eq_true_eq, decide_eq_false_iff_not, Int.not_lt, Int.not_le] at hc) <;> (try (exfalso; omega)) <;> (try simp (disch := omega) [go_sem, *, wrap64_id, upd_ne, mk3_true, flatten_replicate_one, stepK_if, ilt_true, ilt_false, ile_true, ile_false, Try.ntmps30 ]))
                | (refine ac_cond_h fun Kt Kf ht hf => ?_; simp (disch := omega) [go_sem, * ]; try (refine ⟨fun hc => ?_, fun hc => ?_⟩ <;> try (exfalso; omega))))
              have hnx := hnx.out
              refine round_end (by simp [go_sem, hnx, hV.out]) ?_ ⟨_, m, k + 1, by omega, by omega, by omega, rfl⟩ (by simp [intAt, go_sem]; omega)
              rw [hnx, ← hH.out]
              repeat (first | exact Sub.refl _ | refine Sub.upd ?_ (hH0.out _ (by omega)) _)
            · have hne : needAt N s to t k = true := by rw [hnk.out]; simp [hqa]
              have hqb : (q != a) = true := by simpa using hqa
              have hnx := hnext.out
              rw [if_pos hne] at hnx
              replace hnx : Hide _ := hnx
              clear hnext hne
              by_cases hz : (needTo N s to t k).length = 0
              · have hz2 : needTo N s to t k = [] := List.length_eq_zero_iff.1 hz
                have hHb : H = b := by rw [hH.out, accH, if_pos hz]
                replace hHb : Hide _ := hHb
                replace hz : Hide _ := hz
                replace hz2 : Hide _ := hz2
                have hVz : Hide (V = .fslc true true 0 []) := by rw [Hide, hV.out, accV, if_pos hz.out]
                repeat' (first
                  | (refine ac_seq_h fun K hK => ?_)
                  | (refine ac_region_h fun K hK => ?_; simp (disch := omega) [go_sem, *, ilt_true ])
                  | (refine ac_draw_h mixed (by kernel_rfl) fun K hK => ?_; simp (disch := omega) [go_sem, *, wrap64_id, upd_ne, mk3_true, flatten_replicate_one, stepK_if, ilt_true, ilt_false, ile_true, ile_false, Try.ntmps30 ])
                  | (apply Hide.out hK; clear hK K; try with_reducible dsimp only [thenA])
                  | (apply Hide.out ht; clear ht hf Kt Kf)
                  | (apply Hide.out hf; clear ht hf Kt Kf)
                  | (clear hK K; apply Hide.out hK; clear hK K; try with_reducible dsimp only [thenA])
                  | (clear hK K; clear hK K; apply Hide.out hK; clear hK K; try with_reducible dsimp only [thenA])
                  | (with_reducible refine APure.call (csh) ?_; try simp (disch := omega) [go_sem, * ])
                  | (with_reducible refine APure.call (cpk) ?_; try simp (disch := omega) [go_sem, * ])
                  | (refine ac_block ?_)
                  | (refine ac_skip ?_; simp only [thenA])
                  | (refine ac_exit ?_; simp only [thenA, blockA, if_true, if_false, Nat.reduceEqDiff])
                  | (with_reducible show nextK _ _ _ _ _ _ _; simp (disch := omega) [go_sem, *, wrap64_id, upd_ne, mk3_true, flatten_replicate_one, stepK_if, ilt_true, ilt_false, ile_true, ile_false, Try.ntmps30 ])
                  | (refine wantK_split (fun hc => ?_) (fun hc => ?_) <;> (try simp only [Bool.not_eq_true', Bool.not_eq_false', Bool.not_eq_eq_eq_not, Bool.not_true, Bool.not_false, decide_eq_true_eq, decide_eq_false_iff_not, Int.not_lt, Int.not_le] at hc) <;> (try (exfalso; omega)) <;> (try simp (disch := omega) [go_sem, *, wrap64_id, upd_ne, mk3_true, flatten_replicate_one, stepK_if, ilt_true, ilt_false, ile_true, ile_false, Try.ntmps30 ]))
                  | (refine ac_cond_h fun Kt Kf ht hf => ?_; simp (disch := omega) [go_sem, * ]; try (refine ⟨fun hc => ?_, fun hc => ?_⟩ <;> try (exfalso; omega))))
                rw [hVz.out, ap_int_nil]
                simp only [stepK]
                repeat' (first
                  | (refine ac_seq_h fun K hK => ?_)
                  | (refine ac_region_h fun K hK => ?_; simp (disch := omega) [go_sem, *, wrap64_id])
                  | (refine ac_draw_h mixed (by kernel_rfl) fun K hK => ?_; simp (disch := omega) [go_sem, *, wrap64_id, upd_ne, mk3_true, flatten_replicate_one, stepK_if, ilt_true, ilt_false, ile_true, ile_false, Try.ntmps30])
                  | (apply Hide.out hK; clear hK K; try with_reducible dsimp only [thenA])
                  | (apply Hide.out ht; clear ht hf Kt Kf)
                  | (apply Hide.out hf; clear ht hf Kt Kf)
                  | (clear hK K; apply Hide.out hK; clear hK K; try with_reducible dsimp only [thenA])
                  | (clear hK K; clear hK K; apply Hide.out hK; clear hK K; try with_reducible dsimp only [thenA])
                  | (refine ac_block ?_)
                  | (refine ac_skip ?_; simp only [thenA, blockA])
                  | (refine ac_exit ?_; simp only [thenA, blockA, if_true, if_false, Nat.reduceEqDiff])
                  | (with_reducible show nextK _ _ _ _ _ _ _; simp (disch := omega) [go_sem, *])
                  | (refine wantK_split (fun hc => ?_) (fun hc => ?_) <;> (try simp only [Bool.not_eq_true', Bool.not_eq_false', Bool.not_eq_eq_eq_not, Bool.not_true, Bool.not_false, decide_eq_true_eq, decide_eq_false_iff_not, Int.not_lt, Int.not_le] at hc) <;> (try (exfalso; omega)) <;> (try simp (disch := omega) [go_sem, *, wrap64_id, upd_ne, mk3_true, flatten_replicate_one, stepK_if, ilt_true, ilt_false, ile_true, ile_false, Try.ntmps30]))
                  | (refine ac_cond_h fun Kt Kf ht hf => ?_; simp (disch := omega) [go_sem, *, wrap64_id, upd_ne, mk3_true, flatten_replicate_one, stepK_if, ilt_true, ilt_false, ile_true, ile_false, Try.ntmps30]; try (refine ⟨fun hc => ?_, fun hc => ?_⟩ <;> try (exfalso; omega))))
                have hnx := hnx.out
                rw [hz2.out] at hnx
                refine round_end (by simp [go_sem, hnx, accV]) ?_ ⟨_, n' + 5 + 12 + 7 + 3, k + 1, by omega, by omega, by omega, rfl⟩ (by simp [intAt, go_sem]; omega)
                rw [hnx, accH_pos (by simp), hHb.out]
                refine Sub.both ?_ _ _
                repeat (first | exact Sub.refl _ | refine Sub.upd ?_ (hb0.out _ (by omega)) _)
              · have hHb : H = b.upd m (some (.cells ((needTo N s to t k).map (iv .i64)))) := by rw [hH.out, accH, if_neg hz]
                replace hHb : Hide _ := hHb
                replace hz : Hide _ := hz
                have hVz : Hide (V = .slc m 0 (needTo N s to t k).length 1) := by rw [Hide, hV.out, accV, if_neg hz.out]
                repeat' (first
                  | (refine ac_seq_h fun K hK => ?_)
                  | (refine ac_region_h fun K hK => ?_; simp (disch := omega) [go_sem, *, ilt_true ])
                  | (refine ac_draw_h mixed (by kernel_rfl) fun K hK => ?_; simp (disch := omega) [go_sem, *, wrap64_id, upd_ne, mk3_true, flatten_replicate_one, stepK_if, ilt_true, ilt_false, ile_true, ile_false, Try.ntmps30 ])
                  | (apply Hide.out hK; clear hK K; try with_reducible dsimp only [thenA])
                  | (apply Hide.out ht; clear ht hf Kt Kf)
                  | (apply Hide.out hf; clear ht hf Kt Kf)
                  | (clear hK K; apply Hide.out hK; clear hK K; try with_reducible dsimp only [thenA])
                  | (clear hK K; clear hK K; apply Hide.out hK; clear hK K; try with_reducible dsimp only [thenA])
                  | (with_reducible refine APure.call (csh) ?_; try simp (disch := omega) [go_sem, * ])
                  | (with_reducible refine APure.call (cpk) ?_; try simp (disch := omega) [go_sem, * ])
                  | (refine ac_block ?_)
                  | (refine ac_skip ?_; simp only [thenA])
                  | (refine ac_exit ?_; simp only [thenA, blockA, if_true, if_false, Nat.reduceEqDiff])
                  | (with_reducible show nextK _ _ _ _ _ _ _; simp (disch := omega) [go_sem, *, wrap64_id, upd_ne, mk3_true, flatten_replicate_one, stepK_if, ilt_true, ilt_false, ile_true, ile_false, Try.ntmps30 ])
                  | (refine wantK_split (fun hc => ?_) (fun hc => ?_) <;> (try simp only [Bool.not_eq_true', Bool.not_eq_false', Bool.not_eq_eq_eq_not, Bool.not_true, Bool.not_false, decide_eq_true_eq, decide_eq_false_iff_not, Int.not_lt, Int.not_le] at hc) <;> (try (exfalso; omega)) <;> (try simp (disch := omega) [go_sem, *, wrap64_id, upd_ne, mk3_true, flatten_replicate_one, stepK_if, ilt_true, ilt_false, ile_true, ile_false, Try.ntmps30 ]))
                  | (refine ac_cond_h fun Kt Kf ht hf => ?_; simp (disch := omega) [go_sem, * ]; try (refine ⟨fun hc => ?_, fun hc => ?_⟩ <;> try (exfalso; omega))))
                rw [hVz.out, ap_int _ m (needTo N s to t k).length ((needTo N s to t k).map (iv .i64)) _ _ (by first | (rw [hHb.out, upd_same]) | (simp (disch := omega) only [upd_ne]; rw [hHb.out, upd_same])) (by simp) (by omega)]
                simp only [stepK]
                repeat' (first
                  | (refine ac_seq_h fun K hK => ?_)
                  | (refine ac_region_h fun K hK => ?_; simp (disch := omega) [go_sem, *, wrap64_id])
                  | (refine ac_draw_h mixed (by kernel_rfl) fun K hK => ?_; simp (disch := omega) [go_sem, *, wrap64_id, upd_ne, mk3_true, flatten_replicate_one, stepK_if, ilt_true, ilt_false, ile_true, ile_false, Try.ntmps30])
                  | (apply Hide.out hK; clear hK K; try with_reducible dsimp only [thenA])
                  | (apply Hide.out ht; clear ht hf Kt Kf)
                  | (apply Hide.out hf; clear ht hf Kt Kf)
                  | (clear hK K; apply Hide.out hK; clear hK K; try with_reducible dsimp only [thenA])
                  | (clear hK K; clear hK K; apply Hide.out hK; clear hK K; try with_reducible dsimp only [thenA])
                  | (refine ac_block ?_)
                  | (refine ac_skip ?_; simp only [thenA, blockA])
                  | (refine ac_exit ?_; simp only [thenA, blockA, if_true, if_false, Nat.reduceEqDiff])
                  | (with_reducible show nextK _ _ _ _ _ _ _; simp (disch := omega) [go_sem, *])
                  | (refine wantK_split (fun hc => ?_) (fun hc => ?_) <;> (try simp only [Bool.not_eq_true', Bool.not_eq_false', Bool.not_eq_eq_eq_not, Bool.not_true, Bool.not_false, decide_eq_true_eq, decide_eq_false_iff_not, Int.not_lt, Int.not_le] at hc) <;> (try (exfalso; omega)) <;> (try simp (disch := omega) [go_sem, *, wrap64_id, upd_ne, mk3_true, flatten_replicate_one, stepK_if, ilt_true, ilt_false, ile_true, ile_false, Try.ntmps30]))
                  | (refine ac_cond_h fun Kt Kf ht hf => ?_; simp (disch := omega) [go_sem, *, wrap64_id, upd_ne, mk3_true, flatten_replicate_one, stepK_if, ilt_true, ilt_false, ile_true, ile_false, Try.ntmps30]; try (refine ⟨fun hc => ?_, fun hc => ?_⟩ <;> try (exfalso; omega))))
                have hnx := hnx.out
                refine round_end (by simp [go_sem, hnx, accV]) ?_ ⟨_, n' + 5 + 12 + 7 + 3, k + 1, by omega, by omega, by omega, rfl⟩ (by simp [intAt, go_sem]; omega)
                rw [hnx, accH_pos (by simp), hHb.out, List.map_append]
                refine Sub.both ?_ _ _
                repeat (first | exact Sub.refl _ | refine Sub.upd ?_ (hb0.out _ (by omega)) _)
        · have hkl : k = N.links.length := by omega
          have hfin2 : Hide (needH N s to t (askedE N t [s, to]) = needTo N s to t k) := by rw [Hide, hfin.out, hkl]
          replace hnext : Hide _ := hnext
          have hkl2 : (N.links.length : Int) ≤ k := by omega
          replace hkl : Hide _ := hkl
          clear hlt
          by_cases hz : (needTo N s to t k).length = 0
          · have hz2 : needTo N s to t k = [] := List.length_eq_zero_iff.1 hz
            have hV2 : V = .fslc true true 0 [] := by rw [hV.out, accV, if_pos hz]
            have hHb : H = b := by rw [hH.out, accH, if_pos hz]
            rw [hV2]
            replace hHb : Hide _ := hHb
            replace hz2 : Hide _ := hz2
            clear hV2 hV hH hz
            repeat' (first
              | (refine ac_seq_h fun K hK => ?_)
              | (refine ac_region_h fun K hK => ?_; simp (disch := omega) [go_sem, *, ilt_false])
              | (refine ac_draw_h mixed (by kernel_rfl) fun K hK => ?_; simp (disch := omega) [go_sem, *, wrap64_id, upd_ne, mk3_true, flatten_replicate_one, stepK_if, ilt_true, ilt_false, ile_true, ile_false, Try.ntmps30])
              | (apply Hide.out hK; clear hK K; try with_reducible dsimp only [thenA])
              | (apply Hide.out ht; clear ht hf Kt Kf)
              | (apply Hide.out hf; clear ht hf Kt Kf)
              | (clear hK K; apply Hide.out hK; clear hK K; try with_reducible dsimp only [thenA])
              | (clear hK K; clear hK K; apply Hide.out hK; clear hK K; try with_reducible dsimp only [thenA])
              | (refine ac_block ?_)
              | (refine ac_skip ?_; simp only [thenA, blockA])
              | (refine ac_exit ?_; simp only [thenA, blockA, if_true])
              | (with_reducible show nextK _ _ _ _ _ _ _; simp (disch := omega) [go_sem, *, wrap64_id, upd_ne, mk3_true, flatten_replicate_one, stepK_if, ilt_true, ilt_false, ile_true, ile_false, Try.ntmps30])
              | (refine wantK_split (fun hc => ?_) (fun hc => ?_) <;> (try simp only [Bool.not_eq_true', Bool.not_eq_false', Bool.not_eq_eq_eq_not, Bool.not_true, Bool.not_false, decide_eq_true_eq, decide_eq_false_iff_not, Int.not_lt, Int.not_le] at hc) <;> (try (exfalso; omega)) <;> (try simp (disch := omega) [go_sem, *, wrap64_id, upd_ne, mk3_true, flatten_replicate_one, stepK_if, ilt_true, ilt_false, ile_true, ile_false, Try.ntmps30]))
              | (refine ac_cond_h fun Kt Kf ht hf => ?_; simp (disch := omega) [go_sem, *]; try (refine ⟨fun hc => ?_, fun hc => ?_⟩ <;> try (exfalso; omega))))
            refine ac_ret ?_
            refine ⟨by simp, _, (by simp (disch := omega) [go_sem] <;> rfl), ?_⟩
            refine ret_id ⟨fun k hk => ?_, by simp [go_sem, resVal, below, belowL], ?_, by simp, by simp⟩
            · simp (disch := omega) only [upd_ne]
              rw [hHb.out, hbb.out, upd_ne _ _ _ _ (by omega), upd_ne _ _ _ _ (by omega)]
            · rw [hfin2.out, hz2.out, hE.out]; rfl
          · have hV2 : V = .slc m 0 (needTo N s to t k).length 1 := by rw [hV.out, accV, if_neg hz]
            have hHb : H = b.upd m (some (.cells ((needTo N s to t k).map (iv .i64)))) := by rw [hH.out, accH, if_neg hz]
            rw [hV2]
            replace hHb : Hide _ := hHb
            replace hz : Hide _ := hz
            clear hV2 hV hH
            repeat' (first
              | (refine ac_seq_h fun K hK => ?_)
              | (refine ac_region_h fun K hK => ?_; simp (disch := omega) [go_sem, *, ilt_false])
              | (refine ac_draw_h mixed (by kernel_rfl) fun K hK => ?_; simp (disch := omega) [go_sem, *, wrap64_id, upd_ne, mk3_true, flatten_replicate_one, stepK_if, ilt_true, ilt_false, ile_true, ile_false, Try.ntmps30])
              | (apply Hide.out hK; clear hK K; try with_reducible dsimp only [thenA])
              | (apply Hide.out ht; clear ht hf Kt Kf)
              | (apply Hide.out hf; clear ht hf Kt Kf)
              | (clear hK K; apply Hide.out hK; clear hK K; try with_reducible dsimp only [thenA])
              | (clear hK K; clear hK K; apply Hide.out hK; clear hK K; try with_reducible dsimp only [thenA])
              | (refine ac_block ?_)
              | (refine ac_skip ?_; simp only [thenA, blockA])
              | (refine ac_exit ?_; simp only [thenA, blockA, if_true])
              | (with_reducible show nextK _ _ _ _ _ _ _; simp (disch := omega) [go_sem, *, wrap64_id, upd_ne, mk3_true, flatten_replicate_one, stepK_if, ilt_true, ilt_false, ile_true, ile_false, Try.ntmps30])
              | (refine wantK_split (fun hc => ?_) (fun hc => ?_) <;> (try simp only [Bool.not_eq_true', Bool.not_eq_false', Bool.not_eq_eq_eq_not, Bool.not_true, Bool.not_false, decide_eq_true_eq, decide_eq_false_iff_not, Int.not_lt, Int.not_le] at hc) <;> (try (exfalso; omega)) <;> (try simp (disch := omega) [go_sem, *, wrap64_id, upd_ne, mk3_true, flatten_replicate_one, stepK_if, ilt_true, ilt_false, ile_true, ile_false, Try.ntmps30]))
              | (refine ac_cond_h fun Kt Kf ht hf => ?_; simp (disch := omega) [go_sem, *]; try (refine ⟨fun hc => ?_, fun hc => ?_⟩ <;> try (exfalso; omega))))
            refine ac_ret ?_
            refine ⟨by simp, _, (by simp (disch := omega) [go_sem] <;> rfl), ?_⟩
            refine ret_freeze false (m := m) (c := (needTo N s to t k).map (iv .i64)) (by simp (disch := omega) only [upd_ne]; rw [hHb.out, upd_same]) ?_
            have fzv : fzT m ((needTo N s to t k).map (iv .i64)) false (.agg [.slc m 0 (needTo N s to t k).length 1, iv .i64 0]) = .agg [.fslc false false 1 ((needTo N s to t k).map (iv .i64)), iv .i64 0] := by
              simp only [fzT, List.map_cons, List.map_nil, fz]
              rw [if_pos ⟨by trivial, by simp, by simp⟩, List.drop_zero, elems_ints]
            show RetOk _ _ (fzT m ((needTo N s to t k).map (iv .i64)) false (.agg [.slc m 0 (needTo N s to t k).length 1, iv .i64 0])) _ _
            rw [fzv]
            refine ret_id ⟨fun k hk => ?_, ?_, ?_, by simp, by simp⟩
            · simp (disch := omega) only [upd_ne]
              rw [hHb.out]
              simp (disch := omega) only [upd_ne]
              rw [hbb.out, upd_ne _ _ _ _ (by omega), upd_ne _ _ _ _ (by omega)]
            · simp [below, belowL, belowL_iff]
            · rw [hfin2.out, hE.out, neV, if_neg hz.out]
  · have hne : needH N s to t (askedE N t [s, to]) = [] := by rw [needH, if_neg hE]
    rw [hne]
    clear hne
    generalize wayE N s to t (askedE N t [s, to]) = E at *
    have hEb : (E != 0) = true := by simpa using hE
    repeat' (first
      | (refine ac_seq_h fun K hK => ?_)
      | (refine ac_region_h fun K hK => ?_; simp (disch := omega) [go_sem, *, upd_ne, Try.ntmps30 ])
      | (refine ac_draw_h mixed (by kernel_rfl) fun K hK => ?_; simp (disch := omega) [go_sem, *, wrap64_id, upd_ne, mk3_true, flatten_replicate_one, stepK_if, ilt_true, ilt_false, ile_true, ile_false, Try.ntmps30 ])
      | (apply Hide.out hK; clear hK K; try with_reducible dsimp only [thenA])
      | (apply Hide.out ht; clear ht hf Kt Kf)
      | (apply Hide.out hf; clear ht hf Kt Kf)
      | (clear hK K; apply Hide.out hK; clear hK K; try with_reducible dsimp only [thenA])
      | (clear hK K; clear hK K; apply Hide.out hK; clear hK K; try with_reducible dsimp only [thenA])
      | (with_reducible refine APure.call (c24) ?_; try simp (disch := omega) [go_sem, * ])
      | (refine ac_block ?_)
      | (refine ac_skip ?_; simp only [thenA, blockA])
      | (refine ac_exit ?_; simp only [thenA, blockA, if_true, if_false, Nat.reduceEqDiff])
      | (with_reducible show nextK _ _ _ _ _ _ _; simp (disch := omega) [go_sem, *, wrap64_id, upd_ne, mk3_true, flatten_replicate_one, stepK_if, ilt_true, ilt_false, ile_true, ile_false, Try.ntmps30 ])
      | (refine wantK_split (fun hc => ?_) (fun hc => ?_) <;> (try simp only [Bool.not_eq_true', Bool.not_eq_false', Bool.not_eq_eq_eq_not, Bool.not_true, Bool.not_false, decide_eq_true_eq, decide_eq_false_iff_not, Int.not_lt, Int.not_le] at hc) <;> (try (exfalso; omega)) <;> (try simp (disch := omega) [go_sem, *, wrap64_id, upd_ne, mk3_true, flatten_replicate_one, stepK_if, ilt_true, ilt_false, ile_true, ile_false, Try.ntmps30 ]))
      | (refine ac_cond_h fun Kt Kf ht hf => ?_; simp (disch := omega) [go_sem, * ]; try (refine ⟨fun hc => ?_, fun hc => ?_⟩ <;> try (exfalso; omega))))
    refine ac_ret ?_
    refine ⟨by simp, _, (by simp (disch := omega) [go_sem] <;> rfl), ?_⟩
    refine ret_id ⟨fun k hk => ?_, by simp [go_sem, resVal, below, belowL], ?_, by simp, by simp⟩
    · simp (disch := omega) only [upd_ne]
    · rfl
end Go.AM

namespace Go.AM
open Go.Proofs Nets
set_option maxRecDepth 10000
set_option maxHeartbeats 4000000
theorem agg54 (a b c d : Int) : aggEq Try.prog 54 [iv .i64 a, iv .i64 b] [iv .i64 c, iv .i64 d] = some (a == c && b == d) := by
  have h1 : eqPlan Try.prog 54 = some [(0, .int), (1, .int)] := by kernel_rfl
  rw [aggEq_plan h1]
  have hb : ∀ p q : Bool, (match some p with | some true => (match some q with | some true => some true | some false => some false | none => none) | some false => some false | none => none) = some (p && q) := by decide
  exact hb (a == c) (b == d)
theorem sameNet_refl (N : Net) (hl : N.links.length < 1000000) (ho : ∀ x ∈ N.links, x.opn.length < 1000000) : APure Try.prog 33 [encNet N, encNet N] (bv true) := by
  intro h n
  refine ACalls.pure (ACalls.entry (by kernel_rfl) fun hb _ => calls_of Try.func33 rfl (by kernel_rfl) (by simp [Try.ntmps33]) ?_)
  replace ho : Hide _ := ho
  repeat' (first
    | (refine ac_seq_h fun K hK => ?_)
    | (refine ac_region_h fun K hK => ?_; simp (disch := omega) [go_sem, *, upd_ne, Try.ntmps33])
    | (refine ac_draw_h mixed (by kernel_rfl) fun K hK => ?_; simp (disch := omega) [go_sem, *, wrap64_id, upd_ne, mk3_true, flatten_replicate_one, stepK_if, ilt_true, ilt_false, ile_true, ile_false, Try.ntmps33])
    | (apply Hide.out hK; clear hK K; try with_reducible dsimp only [thenA])
    | (apply Hide.out ht; clear ht hf Kt Kf)
    | (apply Hide.out hf; clear ht hf Kt Kf)
    | (clear hK K; apply Hide.out hK; clear hK K; try with_reducible dsimp only [thenA])
    | (clear hK K; clear hK K; apply Hide.out hK; clear hK K; try with_reducible dsimp only [thenA])
    | (refine ac_block ?_)
    | (refine ac_skip ?_; simp only [thenA])
    | (refine ac_exit ?_; simp only [thenA, blockA, if_true, if_false, Nat.reduceEqDiff])
    | (with_reducible show nextK _ _ _ _ _ _ _; simp (disch := omega) [go_sem, *, wrap64_id, upd_ne, mk3_true, flatten_replicate_one, stepK_if, ilt_true, ilt_false, ile_true, ile_false, Try.ntmps33])
    | (refine wantK_split (fun hc => ?_) (fun hc => ?_) <;> (try simp only [Bool.not_eq_true', Bool.not_eq_false', Bool.not_eq_eq_eq_not, Bool.not_true, Bool.not_false, decide_eq_true_eq, decide_eq_false_iff_not, Int.not_lt, Int.not_le] at hc) <;> (try (exfalso; omega)) <;> (try simp (disch := omega) [go_sem, *, wrap64_id, upd_ne, mk3_true, flatten_replicate_one, stepK_if, ilt_true, ilt_false, ile_true, ile_false, Try.ntmps33]))
    | (refine ac_cond_h fun Kt Kf ht hf => ?_; simp (disch := omega) [go_sem, *]; try (refine ⟨fun hc => ?_, fun hc => ?_⟩ <;> try (exfalso; omega))))
  obtain ⟨b, hbb⟩ : ∃ b, b = (h.upd n (some (cellsNet N))).upd (n + 1) (some (cellsNet N)) := ⟨_, rfl⟩
  have hbn : b n = some (cellsNet N) := by rw [hbb, upd_ne _ _ _ _ (by omega), upd_same]
  have hbn1 : b (n + 1) = some (cellsNet N) := by rw [hbb, upd_same]
  have hb0 : Hide (∀ k, n + 1 < k → b k = none) := fun k hk => by rw [hbb, upd_ne _ _ _ _ (by omega), upd_ne _ _ _ _ (by omega)]; exact hb.none (by omega)
  rw [← hbb]
  replace hbb : Hide _ := hbb
  refine ac_loop_wk (fun s' => ∃ (n' k : Nat), n + 1 < n' ∧ k ≤ N.links.length ∧ s' = ⟨86, [(2, .ptr n 0), (3, .ptr (n + 1) 0), (5, iv .i64 k)], b, n'⟩)
    (fun s => N.links.length - (intAt s 5).toNat) ?_ ?_
  · exact loop_start (by simp [go_sem]) (Sub.refl _) ⟨_, 0, by omega, by omega, rfl⟩
  · rintro s' ⟨n', k, hm1, hk, rfl⟩
    by_cases hlt : k < N.links.length
    · obtain ⟨x, hx1, hx2, _⟩ := at_k hlt
      have hox := ho.out x (List.mem_of_getElem? hx2)
      repeat' (first
        | (refine ac_seq_h fun K hK => ?_)
        | (refine ac_region_h fun K hK => ?_; simp (disch := omega) [go_sem, *, upd_ne, ilt_true, ile_true])
        | (refine ac_draw_h mixed (by kernel_rfl) fun K hK => ?_; simp (disch := omega) [go_sem, *, wrap64_id, upd_ne, mk3_true, flatten_replicate_one, stepK_if, ilt_true, ilt_false, ile_true, ile_false])
        | (apply Hide.out hK; clear hK K; try with_reducible dsimp only [thenA])
        | (apply Hide.out ht; clear ht hf Kt Kf)
        | (apply Hide.out hf; clear ht hf Kt Kf)
        | (clear hK K; apply Hide.out hK; clear hK K; try with_reducible dsimp only [thenA])
        | (clear hK K; clear hK K; apply Hide.out hK; clear hK K; try with_reducible dsimp only [thenA])
        | (refine ac_block ?_)
        | (refine ac_skip ?_; simp only [thenA])
        | (refine ac_exit ?_; simp only [thenA, blockA, if_true, if_false, Nat.reduceEqDiff])
        | (with_reducible show nextK _ _ _ _ _ _ _; simp (disch := omega) [go_sem, *, wrap64_id, upd_ne, mk3_true, flatten_replicate_one, stepK_if, ilt_true, ilt_false, ile_true, ile_false])
        | (refine wantK_split (fun hc => ?_) (fun hc => ?_) <;> (try simp only [Bool.not_eq_true', Bool.not_eq_false', Bool.not_eq_eq_eq_not, Bool.not_true, Bool.not_false, decide_eq_true_eq, decide_eq_false_iff_not, Int.not_lt, Int.not_le] at hc) <;> (try (exfalso; omega)) <;> (try simp (disch := omega) [go_sem, *, wrap64_id, upd_ne, mk3_true, flatten_replicate_one, stepK_if, ilt_true, ilt_false, ile_true, ile_false]))
        | (refine ac_cond_h fun Kt Kf ht hf => ?_; simp (disch := omega) [go_sem, *]; try (refine ⟨fun hc => ?_, fun hc => ?_⟩ <;> try (exfalso; omega))))
      obtain ⟨p, hp⟩ : ∃ p, p = n' + 5 + 5 := ⟨_, rfl⟩
      obtain ⟨q, hq⟩ : ∃ q, q = n' + 5 + 7 + 5 := ⟨_, rfl⟩
      have hpq : p ≠ q := by omega
      have hpn : n + 1 < p := by omega
      have hqn : n + 1 < q := by omega
      rw [← hp, ← hq]
      obtain ⟨B, hB⟩ : ∃ B, B = (b.upd p (some (.cells [iv .i64 x.fr, iv .i64 x.to, iv .i64 x.delay, encOpen x.nl x.opn]))).upd q (some (.cells [iv .i64 x.fr, iv .i64 x.to, iv .i64 x.delay, encOpen x.nl x.opn])) := ⟨_, rfl⟩
      have hBn : B n = some (cellsNet N) := by rw [hB, upd_ne _ _ _ _ (by omega), upd_ne _ _ _ _ (by omega)]; exact hbn
      have hBn1 : B (n + 1) = some (cellsNet N) := by rw [hB, upd_ne _ _ _ _ (by omega), upd_ne _ _ _ _ (by omega)]; exact hbn1
      have hBp : B p = some (.cells [iv .i64 x.fr, iv .i64 x.to, iv .i64 x.delay, encOpen x.nl x.opn]) := by rw [hB, upd_ne _ _ _ _ hpq, upd_same]
      have hBq : B q = some (.cells [iv .i64 x.fr, iv .i64 x.to, iv .i64 x.delay, encOpen x.nl x.opn]) := by rw [hB, upd_same]
      have hB0 : Hide (∀ k, n' + 24 < k → B k = none) := fun k hk => by rw [hB, upd_ne _ _ _ _ (by omega), upd_ne _ _ _ _ (by omega)]; exact hb0.out _ (by omega)
      have hsub : Hide (Sub b B) := by
        rw [hB]; exact Sub.upd (Sub.upd (Sub.refl _) (hb0.out _ hpn) _) (hb0.out _ hqn) _
      replace hB : Hide _ := hB
      replace hp : Hide _ := hp
      replace hq : Hide _ := hq
      refine ac_loop_wk (fun s' => ∃ (n2 j : Nat), n' + 24 < n2 ∧ j ≤ x.opn.length ∧ s' = ⟨86, [(2, .ptr n 0), (3, .ptr (n + 1) 0), (5, iv .i64 k), (6, .ptr p 0), (7, .ptr q 0), (8, iv .i64 j)], B, n2⟩)
        (fun s => x.opn.length - (intAt s 8).toNat) ?_ ?_
      · exact loop_start (by simp [go_sem]) (by rw [upd_upd, upd_upd, hB.out]; exact Sub.refl _) ⟨_, 0, by omega, by omega, rfl⟩
      · rintro s' ⟨n2, j, hn2, hj, rfl⟩
        by_cases hlt2 : j < x.opn.length
        · obtain ⟨y, hy1, hy2, _⟩ := at_k hlt2
          repeat' (first
            | (refine ac_seq_h fun K hK => ?_)
            | (refine ac_region_h fun K hK => ?_; simp (disch := omega) [go_sem, *, wrap64_id, ilt_true])
            | (refine ac_draw_h mixed (by kernel_rfl) fun K hK => ?_; simp (disch := omega) [go_sem, *, ile_true, agg54])
            | (apply Hide.out hK; clear hK K; try with_reducible dsimp only [thenA])
            | (apply Hide.out ht; clear ht hf Kt Kf)
            | (apply Hide.out hf; clear ht hf Kt Kf)
            | (clear hK K; apply Hide.out hK; clear hK K; try with_reducible dsimp only [thenA])
            | (clear hK K; clear hK K; apply Hide.out hK; clear hK K; try with_reducible dsimp only [thenA])
            | (refine ac_block ?_)
            | (refine ac_skip ?_; simp only [thenA, blockA])
            | (refine ac_exit ?_; simp only [thenA, blockA, if_true, if_false, Nat.reduceEqDiff])
            | (with_reducible show nextK _ _ _ _ _ _ _; simp (disch := omega) [go_sem, *, wrap64_id, upd_ne, mk3_true, flatten_replicate_one, stepK_if, ilt_true, ilt_false, ile_true, ile_false, agg54])
            | (refine wantK_split (fun hc => ?_) (fun hc => ?_) <;> (try simp only [Bool.not_eq_true', Bool.not_eq_false', Bool.not_eq_eq_eq_not, Bool.not_true, Bool.not_false, decide_eq_true_eq, decide_eq_false_iff_not, Int.not_lt, Int.not_le] at hc) <;> (try (exfalso; omega)) <;> (try simp (disch := omega) [go_sem, *, wrap64_id, upd_ne, mk3_true, flatten_replicate_one, stepK_if, ilt_true, ilt_false, ile_true, ile_false, agg54]))
            | (refine ac_cond_h fun Kt Kf ht hf => ?_; simp (disch := omega) [go_sem, *]; try (refine ⟨fun hc => ?_, fun hc => ?_⟩ <;> try (exfalso; omega))))
          exact round_end (by simp [go_sem]) (Sub.refl _) ⟨_, j + 1, by omega, by omega, rfl⟩ (by simp [intAt, go_sem]; omega)
        · skip
          repeat' (first
            | (refine ac_seq_h fun K hK => ?_)
            | (refine ac_region_h fun K hK => ?_; simp (disch := omega) [go_sem, *, wrap64_id, ilt_false])
            | (refine ac_draw_h mixed (by kernel_rfl) fun K hK => ?_; simp (disch := omega) [go_sem, *, wrap64_id, upd_ne, mk3_true, flatten_replicate_one, stepK_if, ilt_true, ilt_false, ile_true, ile_false])
            | (apply Hide.out hK; clear hK K; try with_reducible dsimp only [thenA])
            | (apply Hide.out ht; clear ht hf Kt Kf)
            | (apply Hide.out hf; clear ht hf Kt Kf)
            | (clear hK K; apply Hide.out hK; clear hK K; try with_reducible dsimp only [thenA])
            | (clear hK K; clear hK K; apply Hide.out hK; clear hK K; try with_reducible dsimp only [thenA])
            | (refine ac_block ?_)
            | (refine ac_skip ?_; simp only [thenA, blockA])
            | (refine ac_exit ?_; simp only [thenA, blockA, if_true, if_false, Nat.reduceEqDiff])
            | (with_reducible show nextK _ _ _ _ _ _ _; simp (disch := omega) [go_sem, *, wrap64_id, upd_ne, mk3_true, flatten_replicate_one, stepK_if, ilt_true, ilt_false, ile_true, ile_false])
            | (refine wantK_split (fun hc => ?_) (fun hc => ?_) <;> (try simp only [Bool.not_eq_true', Bool.not_eq_false', Bool.not_eq_eq_eq_not, Bool.not_true, Bool.not_false, decide_eq_true_eq, decide_eq_false_iff_not, Int.not_lt, Int.not_le] at hc) <;> (try (exfalso; omega)) <;> (try simp (disch := omega) [go_sem, *, wrap64_id, upd_ne, mk3_true, flatten_replicate_one, stepK_if, ilt_true, ilt_false, ile_true, ile_false]))
            | (refine ac_cond_h fun Kt Kf ht hf => ?_; simp (disch := omega) [go_sem, *]; try (refine ⟨fun hc => ?_, fun hc => ?_⟩ <;> try (exfalso; omega))))
          exact round_end (by simp [go_sem]) hsub.out ⟨_, k + 1, by omega, by omega, rfl⟩ (by simp [intAt, go_sem]; omega)
    · skip
      repeat' (first
        | (refine ac_seq_h fun K hK => ?_)
        | (refine ac_region_h fun K hK => ?_; simp (disch := omega) [go_sem, *, ilt_false])
        | (refine ac_draw_h mixed (by kernel_rfl) fun K hK => ?_; simp (disch := omega) [go_sem, *, wrap64_id, upd_ne, mk3_true, flatten_replicate_one, stepK_if, ilt_true, ilt_false, ile_true, ile_false])
        | (apply Hide.out hK; clear hK K; try with_reducible dsimp only [thenA])
        | (apply Hide.out ht; clear ht hf Kt Kf)
        | (apply Hide.out hf; clear ht hf Kt Kf)
        | (clear hK K; apply Hide.out hK; clear hK K; try with_reducible dsimp only [thenA])
        | (clear hK K; clear hK K; apply Hide.out hK; clear hK K; try with_reducible dsimp only [thenA])
        | (refine ac_block ?_)
        | (refine ac_skip ?_; simp only [thenA, blockA])
        | (refine ac_exit ?_; simp only [thenA, blockA, if_true])
        | (with_reducible show nextK _ _ _ _ _ _ _; simp (disch := omega) [go_sem, *, wrap64_id, upd_ne, mk3_true, flatten_replicate_one, stepK_if, ilt_true, ilt_false, ile_true, ile_false])
        | (refine wantK_split (fun hc => ?_) (fun hc => ?_) <;> (try simp only [Bool.not_eq_true', Bool.not_eq_false', Bool.not_eq_eq_eq_not, Bool.not_true, Bool.not_false, decide_eq_true_eq, decide_eq_false_iff_not, Int.not_lt, Int.not_le] at hc) <;> (try (exfalso; omega)) <;> (try simp (disch := omega) [go_sem, *, wrap64_id, upd_ne, mk3_true, flatten_replicate_one, stepK_if, ilt_true, ilt_false, ile_true, ile_false]))
        | (refine ac_cond_h fun Kt Kf ht hf => ?_; simp (disch := omega) [go_sem, *]; try (refine ⟨fun hc => ?_, fun hc => ?_⟩ <;> try (exfalso; omega))))
      refine ac_ret ?_
      refine ⟨by simp, _, (by simp (disch := omega) [go_sem] <;> rfl), ?_⟩
      refine ret_id ⟨fun k hk => ?_, by simp [go_sem, resVal, below], by rfl, by simp, by simp⟩
      show b k = h k
      rw [hbb.out, upd_ne _ _ _ _ (by omega), upd_ne _ _ _ _ (by omega)]
end Go.AM
