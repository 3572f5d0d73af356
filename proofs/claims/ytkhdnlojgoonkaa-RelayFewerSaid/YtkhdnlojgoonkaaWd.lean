/- Walks: Way, Needed, nets(). Conditions: as each theorem says. -/
import Derived.Test.YtkhdnlojgoonkaaWc
namespace Go.AM
open Go.Proofs Nets
set_option maxRecDepth 10000
set_option maxHeartbeats 4000000
theorem hop_get : ∀ (l : List Hop) (k : Nat) (x : Hop), l[k]? = some x → (hopCells l).drop (k * 2) = iv .i64 x.link :: iv .i64 x.tick :: (hopCells l).drop (k * 2 + 2)
  | [], _, _, h => by simp at h
  | a :: r, 0, x, h => by simp at h; subst h; simp [hopCells_cons]
  | a :: r, k + 1, x, h => by
    have := hop_get r k x (by simpa using h)
    rw [hopCells_cons, show (k + 1) * 2 = k * 2 + 1 + 1 by omega, List.drop_succ_cons, List.drop_succ_cons, this]
    simp
theorem reverse_spec (m : Nat) (l : List Hop) (hl : l.length < 2000000) (h : AHeap) (n : Nat) (K : AV → AHeap → Nat → Prop) (hm : h m = some (cellsHops l))
    (hk : ∀ n', n ≤ n' → K (.tup []) (h.upd m (some (cellsHops l.reverse))) n') : ACalls Try.prog 47 [.slc m 0 l.length 2] h n K := by
  refine ACalls.entry (by kernel_rfl) fun hb _ => calls_of Try.func47 rfl (by kernel_rfl) (by simp [Try.ntmps47]) ?_
  obtain ⟨H, hH⟩ : ∃ H : List Hop → AHeap, Hide (∀ o, H o = h.upd m (some (cellsHops o))) := ⟨_, fun _ => rfl⟩
  have hHm : ∀ o, H o m = some (cellsHops o) := fun o => by rw [hH.out, upd_same]
  have hsa : Hide (∀ o o', (H o).upd m (some (cellsHops o')) = H o') := fun o o' => by rw [hH.out, hH.out, upd_upd]
  have hh : Hide (h = H l) := by
    rw [Hide, hH.out]; funext i
    by_cases e : i = m
    · subst e; rw [upd_same, hm]
    · rw [upd_ne _ _ _ _ e]
  replace hk : Hide _ := hk
  have hbL : HB h n := hb
  replace hb : Hide _ := hb
  clear hbL
  repeat' (first
    | (refine ac_seq_h fun K hK => ?_)
    | (refine ac_region_h fun K hK => ?_; simp (disch := omega) [go_sem, *, wrap64_id, Try.ntmps47])
    | (refine ac_draw_h mixed (by kernel_rfl) fun K hK => ?_; simp (disch := omega) [go_sem, *, wrap64_id, upd_ne, mk3_true, flatten_replicate_one, stepK_if, ilt_true, ilt_false, ile_true, ile_false, Try.ntmps47])
    | (apply Hide.out hK; clear hK K; try with_reducible dsimp only [thenA])
    | (apply Hide.out ht; clear ht hf Kt Kf)
    | (apply Hide.out hf; clear ht hf Kt Kf)
    | (clear hK K; apply Hide.out hK; clear hK K; try with_reducible dsimp only [thenA])
    | (clear hK K; clear hK K; apply Hide.out hK; clear hK K; try with_reducible dsimp only [thenA])
    | (refine ac_block ?_)
    | (refine ac_skip ?_; simp only [thenA, blockA])
    | (refine ac_exit ?_; simp only [thenA, blockA, if_true, if_false, Nat.reduceEqDiff])
    | (with_reducible show nextK _ _ _ _ _ _ _; simp (disch := omega) [go_sem, *, wrap64_id, upd_ne, mk3_true, flatten_replicate_one, stepK_if, ilt_true, ilt_false, ile_true, ile_false, Try.ntmps47])
    | (refine wantK_split (fun hc => ?_) (fun hc => ?_) <;> (try simp only [Bool.not_eq_true', Bool.not_eq_false', Bool.not_eq_eq_eq_not, Bool.not_true, Bool.not_false, decide_eq_true_eq, decide_eq_false_iff_not, Int.not_lt, Int.not_le] at hc) <;> (try (exfalso; omega)) <;> (try simp (disch := omega) [go_sem, *, wrap64_id, upd_ne, mk3_true, flatten_replicate_one, stepK_if, ilt_true, ilt_false, ile_true, ile_false, Try.ntmps47]))
    | (refine ac_cond_h fun Kt Kf ht hf => ?_; simp (disch := omega) [go_sem, *, wrap64_id, upd_ne, mk3_true, flatten_replicate_one, stepK_if, ilt_true, ilt_false, ile_true, ile_false, Try.ntmps47]; try (refine ⟨fun hc => ?_, fun hc => ?_⟩ <;> try (exfalso; omega))))
  refine ac_loop_wk (fun s' => ∃ (i n' : Nat) (j : Int) (q : List Hop), n ≤ n' ∧ 2 * i ≤ l.length ∧ j = l.length - 1 - i ∧ q.length = l.length ∧ Hide (∀ k, k < i → k < l.length → q[k]? = l[l.length - 1 - k]? ∧ q[l.length - 1 - k]? = l[k]?) ∧ Hide (∀ k, i ≤ k → k < l.length - i → q[k]? = l[k]?) ∧ s' = ⟨28, [(0, .slc m 0 l.length 2), (2, iv .i64 i), (3, iv .i64 j)], H q, n'⟩)
      (fun s => l.length - (intAt s 2).toNat) ?_ ?_
  · refine loop_start (by simp [go_sem]) ?_ ⟨0, _, _, l, by omega, by omega, rfl, rfl, fun k hk => by omega, fun _ _ _ => rfl, rfl⟩
    rw [← hh.out]; exact Sub.refl _
  · rintro s' ⟨i, n', j, q, hn', hi, hj, hq, h1, h2, rfl⟩
    by_cases hlt : (i : Int) < j
    · obtain ⟨jn, rfl⟩ : ∃ jn : Nat, j = jn := ⟨j.toNat, by omega⟩
      have hjl : jn < l.length := by omega
      have hij : i < jn := by omega
      have hqi : i < q.length := by omega
      have hqj : jn < q.length := by omega
      obtain ⟨x, hx1, hx2, _⟩ := at_k hqi
      obtain ⟨y, hy1, hy2, _⟩ := at_k hqj
      have gx := hop_get q i x hx2
      have gy := hop_get q jn y hy2
      have gs := hop_set q i y (by omega)
      have gs2 := hop_set (q.set i y) jn x (by simpa using (by omega : jn < q.length))
      replace hj : Hide _ := hj
      replace gs2 : Hide _ := gs2
      replace gs : Hide _ := gs
      replace hx2 : Hide _ := hx2
      replace hy2 : Hide _ := hy2
      repeat' (first
        | (refine ac_seq_h fun K hK => ?_)
        | (refine ac_region_h fun K hK => ?_; simp (disch := omega) [go_sem, *, wrap64_id])
        | (refine ac_draw_h mixed (by kernel_rfl) fun K hK => ?_; simp (disch := omega) [go_sem, *, stepK_if, ilt_true, ile_true])
        | (apply Hide.out hK; clear hK K; try with_reducible dsimp only [thenA])
        | (apply Hide.out ht; clear ht hf Kt Kf)
        | (apply Hide.out hf; clear ht hf Kt Kf)
        | (clear hK K; apply Hide.out hK; clear hK K; try with_reducible dsimp only [thenA])
        | (clear hK K; clear hK K; apply Hide.out hK; clear hK K; try with_reducible dsimp only [thenA])
        | (refine ac_block ?_)
        | (refine ac_skip ?_; simp only [thenA])
        | (refine ac_exit ?_; simp only [thenA, blockA, if_true, if_false, Nat.reduceEqDiff])
        | (with_reducible show nextK _ _ _ _ _ _ _; simp (disch := omega) [go_sem, *, wrap64_id, upd_ne, mk3_true, flatten_replicate_one, stepK_if, ilt_true, ilt_false, ile_true, ile_false])
        | (refine wantK_split (fun hc => ?_) (fun hc => ?_) <;> (try simp only [Bool.not_eq_true', Bool.not_eq_false', Bool.not_eq_eq_eq_not, Bool.not_true, Bool.not_false, decide_eq_true_eq, decide_eq_false_iff_not, Int.not_lt, Int.not_le] at hc) <;> (try (exfalso; omega)) <;> (try simp (disch := omega) [go_sem, *, wrap64_id, upd_ne, mk3_true, flatten_replicate_one, stepK_if, ilt_true, ilt_false, ile_true, ile_false]))
        | (refine ac_cond_h fun Kt Kf ht hf => ?_; simp (disch := omega) [go_sem, *]; try (refine ⟨fun hc => ?_, fun hc => ?_⟩ <;> try (exfalso; omega))))
      rw [gs.out]
      have gl := hopCells_len (q.set i y)
      simp only [List.length_set, hq] at gl
      replace gl : Hide _ := gl
      have hjv : jn = l.length - 1 - i := by have := hj.out; omega
      have hx3 : l[i]? = some x := by rw [← h2.out i (Nat.le_refl _) (by omega)]; exact hx2.out
      have hy3 : l[jn]? = some y := by rw [← h2.out jn (by omega) (by omega)]; exact hy2.out
      have hlq : ((q.set i y).set jn x).length = l.length := by simpa using hq
      have h1' : Hide (∀ k, k < i + 1 → k < l.length → ((q.set i y).set jn x)[k]? = l[l.length - 1 - k]? ∧ ((q.set i y).set jn x)[l.length - 1 - k]? = l[k]?) := fun k hk1 hk2 => by
        by_cases hki : k = i
        · subst hki
          rw [← hjv, List.getElem?_set_self (by simpa using hqj), List.getElem?_set_ne (by omega), List.getElem?_set_self hqi, hx3, hy3]; exact ⟨rfl, rfl⟩
        · rw [List.getElem?_set_ne (by omega), List.getElem?_set_ne (by omega), List.getElem?_set_ne (by omega), List.getElem?_set_ne (by omega)]
          exact h1.out k (by omega) hk2
      have h2' : Hide (∀ k, i + 1 ≤ k → k < l.length - (i + 1) → ((q.set i y).set jn x)[k]? = l[k]?) := fun k hk1 hk2 => by
        rw [List.getElem?_set_ne (by omega), List.getElem?_set_ne (by omega)]
        exact h2.out k (by omega) (by omega)
      replace hjv : Hide _ := hjv
      clear hx3 hy3
      repeat' (first
        | (refine ac_seq_h fun K hK => ?_)
        | (refine ac_region_h fun K hK => ?_; simp (disch := omega) [go_sem, *, wrap64_id, upd_ne, mk3_true, flatten_replicate_one, stepK_if, ilt_true, ilt_false, ile_true, ile_false])
        | (refine ac_draw_h mixed (by kernel_rfl) fun K hK => ?_; simp (disch := omega) [go_sem, *, wrap64_id, upd_ne, mk3_true, flatten_replicate_one, stepK_if, ilt_true, ilt_false, ile_true, ile_false])
        | (apply Hide.out hK; clear hK K; try with_reducible dsimp only [thenA])
        | (apply Hide.out ht; clear ht hf Kt Kf)
        | (apply Hide.out hf; clear ht hf Kt Kf)
        | (clear hK K; apply Hide.out hK; clear hK K; try with_reducible dsimp only [thenA])
        | (clear hK K; clear hK K; apply Hide.out hK; clear hK K; try with_reducible dsimp only [thenA])
        | (refine ac_block ?_)
        | (refine ac_skip ?_; simp only [thenA, blockA])
        | (refine ac_exit ?_; simp only [thenA, blockA, if_true, if_false, Nat.reduceEqDiff])
        | (with_reducible show nextK _ _ _ _ _ _ _; simp (disch := omega) [go_sem, *, wrap64_id, upd_ne, mk3_true, flatten_replicate_one, stepK_if, ilt_true, ilt_false, ile_true, ile_false])
        | (refine wantK_split (fun hc => ?_) (fun hc => ?_) <;> (try simp only [Bool.not_eq_true', Bool.not_eq_false', Bool.not_eq_eq_eq_not, Bool.not_true, Bool.not_false, decide_eq_true_eq, decide_eq_false_iff_not, Int.not_lt, Int.not_le] at hc) <;> (try (exfalso; omega)) <;> (try simp (disch := omega) [go_sem, *, wrap64_id, upd_ne, mk3_true, flatten_replicate_one, stepK_if, ilt_true, ilt_false, ile_true, ile_false]))
        | (refine ac_cond_h fun Kt Kf ht hf => ?_; simp (disch := omega) [go_sem, *, wrap64_id, upd_ne, mk3_true, flatten_replicate_one, stepK_if, ilt_true, ilt_false, ile_true, ile_false]; try (refine ⟨fun hc => ?_, fun hc => ?_⟩ <;> try (exfalso; omega))))
      have hjo := hj.out
      refine round_end (by simp [go_sem]) ?_ ⟨i + 1, _, (jn : Int) - 1, (q.set i y).set jn x, by omega, by omega, by omega, hlq, h1', h2', rfl⟩ (by simp [intAt, go_sem]; omega)
      rw [gs2.out, upd_upd, hsa.out]; exact Sub.refl _
    · have hrev : q = l.reverse := List.ext_getElem? fun k => by
        rcases Nat.lt_or_ge k l.length with hk1 | hk1
        · rw [List.getElem?_reverse hk1]
          by_cases hki : k < i
          · exact (h1.out k hki hk1).1
          · by_cases hki2 : l.length - 1 - k < i
            · have := (h1.out (l.length - 1 - k) hki2 (by omega)).2
              rwa [show l.length - 1 - (l.length - 1 - k) = k by omega] at this
            · rw [show l.length - 1 - k = k by omega]
              exact h2.out k (by omega) (by omega)
        · rw [List.getElem?_eq_none (by omega), List.getElem?_eq_none (by simpa using hk1)]
      replace hj : Hide _ := hj
      have hlt2 : j ≤ i := by omega
      repeat' (first
        | (refine ac_seq_h fun K hK => ?_)
        | (refine ac_region_h fun K hK => ?_; simp (disch := omega) [go_sem, *])
        | (refine ac_draw_h mixed (by kernel_rfl) fun K hK => ?_; simp (disch := omega) [go_sem, *, wrap64_id, upd_ne, mk3_true, flatten_replicate_one, stepK_if, ilt_true, ilt_false, ile_true, ile_false])
        | (apply Hide.out hK; clear hK K; try with_reducible dsimp only [thenA])
        | (apply Hide.out ht; clear ht hf Kt Kf)
        | (apply Hide.out hf; clear ht hf Kt Kf)
        | (clear hK K; apply Hide.out hK; clear hK K; try with_reducible dsimp only [thenA])
        | (clear hK K; clear hK K; apply Hide.out hK; clear hK K; try with_reducible dsimp only [thenA])
        | (refine ac_block ?_)
        | (refine ac_skip ?_; simp only [thenA, blockA])
        | (refine ac_exit ?_; simp only [thenA, blockA, if_true])
        | (with_reducible show nextK _ _ _ _ _ _ _; simp (disch := omega) [go_sem, *, wrap64_id, upd_ne, mk3_true, flatten_replicate_one, stepK_if, ilt_true, ilt_false, ile_true, ile_false])
        | (refine wantK_split (fun hc => ?_) (fun hc => ?_) <;> (try simp only [Bool.not_eq_true', Bool.not_eq_false', Bool.not_eq_eq_eq_not, Bool.not_true, Bool.not_false, decide_eq_true_eq, decide_eq_false_iff_not, Int.not_lt, Int.not_le] at hc) <;> (try (exfalso; omega)) <;> (try simp (disch := omega) [go_sem, *, wrap64_id, upd_ne, mk3_true, flatten_replicate_one, stepK_if, ilt_true, ilt_false, ile_true, ile_false]))
        | (refine ac_cond_h fun Kt Kf ht hf => ?_; simp (disch := omega) [go_sem, *]; try (refine ⟨fun hc => ?_, fun hc => ?_⟩ <;> try (exfalso; omega))))
      refine ⟨by simp, _, rfl, ?_⟩
      refine ret_id ?_
      rw [hH.out]
      exact hk.out _ (by omega)
end Go.AM

namespace Go.AM
open Go.Proofs Nets
set_option maxRecDepth 10000
set_option maxHeartbeats 4000000
/-- what append has made so far: a value and where its cells lie -/
def accV (s m len : Nat) : AV := if len = 0 then .fslc true true 0 [] else .slc m 0 len s
def accH (b : AHeap) (m len : Nat) (cells : List AV) : AHeap := if len = 0 then b else b.upd m (some (.cells cells))
theorem accV_zero (s m : Nat) : accV s m 0 = .fslc true true 0 [] := rfl
theorem accH_zero (b : AHeap) (m : Nat) (c : List AV) : accH b m 0 c = b := rfl
theorem accV_pos {s m len : Nat} (h : 0 < len) : accV s m len = .slc m 0 len s := by rw [accV, if_neg (by omega)]
theorem accH_pos {b : AHeap} {m len : Nat} {c : List AV} (h : 0 < len) : accH b m len c = b.upd m (some (.cells c)) := by rw [accH, if_neg (by omega)]
theorem acc_sub {b : AHeap} {m : Nat} (hm : b m = none) (c o : Option AObj) (k : Nat) : Sub (b.upd k o) (((b.upd m c).upd m none).upd k o) := fun i p e => by
  by_cases hi : i = k
  · subst hi; rw [upd_same] at e ⊢; exact e
  · rw [upd_ne _ _ _ _ hi] at e ⊢
    by_cases h2 : i = m
    · subst h2; rw [hm] at e; cases e
    · rw [upd_ne _ _ _ _ h2, upd_ne _ _ _ _ h2]; exact e
theorem ap_hop_nil (nm : Nat) (i d : Int) (h : AHeap) : aAppend Try.prog nm 43 (.fslc true true 0 []) (.fslc false false 2 [.agg [iv .i64 i, iv .i64 d]]) h = some (.slc nm 0 1 2, h.upd nm (some (.cells [iv .i64 i, iv .i64 d]))) := by
  have e1 : eltOf Try.prog 43 = some 80 := by kernel_rfl
  have e2 : szOf Try.prog 80 = some 2 := by kernel_rfl
  have e3 : byOf Try.prog 80 = some 16 := by kernel_rfl
  have e4 : zerOf Try.prog 80 = some (.agg [iv .i64 0, iv .i64 0]) := by kernel_rfl
  simp [aAppend, e1, e2, e3, e4, srcCells, flat, cellsOf, AV.scalar]
theorem ap_hop (nm m len : Nat) (c : List AV) (i d : Int) (h : AHeap) (hm : h m = some (.cells c)) (hc : c.length = len * 2) (hl : len + 1 ≤ 67108864) :
    aAppend Try.prog nm 43 (.slc m 0 len 2) (.fslc false false 2 [.agg [iv .i64 i, iv .i64 d]]) h = some (.slc nm 0 (len + 1) 2, (h.upd m none).upd nm (some (.cells (c ++ [iv .i64 i, iv .i64 d])))) := by
  have e1 : eltOf Try.prog 43 = some 80 := by kernel_rfl
  have e2 : szOf Try.prog 80 = some 2 := by kernel_rfl
  have e3 : byOf Try.prog 80 = some 16 := by kernel_rfl
  have e4 : zerOf Try.prog 80 = some (.agg [iv .i64 0, iv .i64 0]) := by kernel_rfl
  have hnot : ¬ (len + 1) * 2 ≤ len * 2 := by omega
  simp [aAppend, e1, e2, e3, e4, srcCells, flat, cellsOf, AV.scalar, hm, hc, hnot, hl]
theorem ap_int_nil (nm : Nat) (i : Int) (h : AHeap) : aAppend Try.prog nm 35 (.fslc true true 0 []) (.fslc false false 1 [iv .i64 i]) h = some (.slc nm 0 1 1, h.upd nm (some (.cells [iv .i64 i]))) := by
  have e1 : eltOf Try.prog 35 = some 3 := by kernel_rfl
  have e2 : szOf Try.prog 3 = some 1 := by kernel_rfl
  have e3 : byOf Try.prog 3 = some 8 := by kernel_rfl
  have e4 : zerOf Try.prog 3 = some (iv .i64 0) := by kernel_rfl
  simp [aAppend, e1, e2, e3, e4, srcCells, flat, cellsOf, AV.scalar]
theorem ap_int (nm m len : Nat) (c : List AV) (i : Int) (h : AHeap) (hm : h m = some (.cells c)) (hc : c.length = len) (hl : len + 1 ≤ 67108864) :
    aAppend Try.prog nm 35 (.slc m 0 len 1) (.fslc false false 1 [iv .i64 i]) h = some (.slc nm 0 (len + 1) 1, (h.upd m none).upd nm (some (.cells (c ++ [iv .i64 i])))) := by
  have e1 : eltOf Try.prog 35 = some 3 := by kernel_rfl
  have e2 : szOf Try.prog 3 = some 1 := by kernel_rfl
  have e3 : byOf Try.prog 3 = some 8 := by kernel_rfl
  have e4 : zerOf Try.prog 3 = some (iv .i64 0) := by kernel_rfl
  subst hc
  have hnot : ¬ c.length + 1 ≤ c.length := by omega
  simp [aAppend, e1, e2, e3, e4, srcCells, flat, cellsOf, AV.scalar, hm, hl, hnot]
theorem ap_hop' (nm m len : Nat) (c : List AV) (i d : Int) (b : AHeap) (hc : c.length = len * 2) (hl : len + 1 ≤ 67108864) :
    aAppend Try.prog nm 43 (.slc m 0 len 2) (.fslc false false 2 [.agg [iv .i64 i, iv .i64 d]]) (b.upd m (some (.cells c))) = some (.slc nm 0 (len + 1) 2, ((b.upd m (some (.cells c))).upd m none).upd nm (some (.cells (c ++ [iv .i64 i, iv .i64 d])))) := ap_hop nm m len c i d _ (upd_same _ _ _) hc hl
theorem ap_int' (nm m len : Nat) (c : List AV) (i : Int) (b : AHeap) (hc : c.length = len) (hl : len + 1 ≤ 67108864) :
    aAppend Try.prog nm 35 (.slc m 0 len 1) (.fslc false false 1 [iv .i64 i]) (b.upd m (some (.cells c))) = some (.slc nm 0 (len + 1) 1, ((b.upd m (some (.cells c))).upd m none).upd nm (some (.cells (c ++ [iv .i64 i])))) := ap_int nm m len c i _ (upd_same _ _ _) hc hl
theorem hopCells_snoc (l : List Hop) (x : Hop) : hopCells (l ++ [x]) = hopCells l ++ [iv .i64 x.link, iv .i64 x.tick] := by simp [hopCells]
def wayV (l : List Hop) : AV := if l.length = 0 then .fslc true true 0 [] else .fslc false false 2 (l.map encHop)
theorem reverse_nil : APure Try.prog 47 [.fslc true true 0 []] (.tup []) := by
  intro h n
  refine ACalls.pure (ACalls.entry (by kernel_rfl) fun hb _ => calls_of Try.func47 rfl (by kernel_rfl) (by simp [Try.ntmps47]) ?_)
  repeat' (first
    | (refine ac_seq_h fun K hK => ?_)
    | (refine ac_region_h fun K hK => ?_; simp (disch := omega) [go_sem, *, wrap64_id, Try.ntmps47])
    | (refine ac_draw_h mixed (by kernel_rfl) fun K hK => ?_; simp (disch := omega) [go_sem, *, wrap64_id, upd_ne, mk3_true, flatten_replicate_one, stepK_if, ilt_true, ilt_false, ile_true, ile_false, Try.ntmps47])
    | (apply Hide.out hK; clear hK K; try with_reducible dsimp only [thenA])
    | (apply Hide.out ht; clear ht hf Kt Kf)
    | (apply Hide.out hf; clear ht hf Kt Kf)
    | (clear hK K; apply Hide.out hK; clear hK K; try with_reducible dsimp only [thenA])
    | (clear hK K; clear hK K; apply Hide.out hK; clear hK K; try with_reducible dsimp only [thenA])
    | (refine ac_block ?_)
    | (refine ac_skip ?_; simp only [thenA, blockA])
    | (refine ac_exit ?_; simp only [thenA, blockA, if_true, if_false, Nat.reduceEqDiff])
    | (with_reducible show nextK _ _ _ _ _ _ _; simp (disch := omega) [go_sem, *, wrap64_id, upd_ne, mk3_true, flatten_replicate_one, stepK_if, ilt_true, ilt_false, ile_true, ile_false, Try.ntmps47])
    | (refine wantK_split (fun hc => ?_) (fun hc => ?_) <;> (try simp only [Bool.not_eq_true', Bool.not_eq_false', Bool.not_eq_eq_eq_not, Bool.not_true, Bool.not_false, decide_eq_true_eq, decide_eq_false_iff_not, Int.not_lt, Int.not_le] at hc) <;> (try (exfalso; omega)) <;> (try simp (disch := omega) [go_sem, *, wrap64_id, upd_ne, mk3_true, flatten_replicate_one, stepK_if, ilt_true, ilt_false, ile_true, ile_false, Try.ntmps47]))
    | (refine ac_cond_h fun Kt Kf ht hf => ?_; simp (disch := omega) [go_sem, *, wrap64_id, upd_ne, mk3_true, flatten_replicate_one, stepK_if, ilt_true, ilt_false, ile_true, ile_false, Try.ntmps47]; try (refine ⟨fun hc => ?_, fun hc => ?_⟩ <;> try (exfalso; omega))))
  refine ac_loop_wk (fun s' => ∃ (n' : Nat), n ≤ n' ∧ s' = ⟨28, [(0, .fslc true true 0 []), (2, iv .i64 0), (3, iv .i64 (-1))], h, n'⟩) (fun s => 0) ?_ ?_
  · exact loop_start (by simp [go_sem]) (Sub.refl _) ⟨_, by omega, rfl⟩
  · rintro s' ⟨n', hn', rfl⟩
    repeat' (first
      | (refine ac_seq_h fun K hK => ?_)
      | (refine ac_region_h fun K hK => ?_; simp (disch := omega) [go_sem, *, ilt_false])
      | (refine ac_draw_h mixed (by kernel_rfl) fun K hK => ?_; simp (disch := omega) [go_sem, *, wrap64_id, upd_ne, mk3_true, flatten_replicate_one, stepK_if, ilt_true, ilt_false, ile_true, ile_false])
      | (apply Hide.out hK; clear hK K; try with_reducible dsimp only [thenA])
      | (apply Hide.out ht; clear ht hf Kt Kf)
      | (apply Hide.out hf; clear ht hf Kt Kf)
      | (clear hK K; apply Hide.out hK; clear hK K; try with_reducible dsimp only [thenA])
      | (clear hK K; clear hK K; apply Hide.out hK; clear hK K; try with_reducible dsimp only [thenA])
      | (refine ac_block ?_)
      | (refine ac_skip ?_; simp only [thenA, blockA])
      | (refine ac_exit ?_; simp only [thenA, blockA, if_true])
      | (with_reducible show nextK _ _ _ _ _ _ _; simp (disch := omega) [go_sem, *, wrap64_id, upd_ne, mk3_true, flatten_replicate_one, stepK_if, ilt_true, ilt_false, ile_true, ile_false])
      | (refine wantK_split (fun hc => ?_) (fun hc => ?_) <;> (try simp only [Bool.not_eq_true', Bool.not_eq_false', Bool.not_eq_eq_eq_not, Bool.not_true, Bool.not_false, decide_eq_true_eq, decide_eq_false_iff_not, Int.not_lt, Int.not_le] at hc) <;> (try (exfalso; omega)) <;> (try simp (disch := omega) [go_sem, *, wrap64_id, upd_ne, mk3_true, flatten_replicate_one, stepK_if, ilt_true, ilt_false, ile_true, ile_false]))
      | (refine ac_cond_h fun Kt Kf ht hf => ?_; simp (disch := omega) [go_sem, *]; try (refine ⟨fun hc => ?_, fun hc => ?_⟩ <;> try (exfalso; omega))))
    refine ⟨by simp, _, rfl, ?_⟩
    exact ret_id ⟨fun k hk => rfl, by simp [go_sem, below, belowL], by simp [go_sem], by simp, by simp⟩
theorem way_spec (N : Net) (s to t : Int) : APure Try.prog 23 [encNet N, iv .i64 s, iv .i64 to, iv .i64 t] (.tup [wayV (wayH N s to t (askedE N t [s, to])), iv .i64 (wayE N s to t (askedE N t [s, to]))]) := by
  intro h n
  refine ACalls.pure (ACalls.entry (by kernel_rfl) fun hb _ => calls_of Try.func23 rfl (by kernel_rfl) (by simp [Try.ntmps23]) ?_)
  have hasked : APure Try.prog 42 [encNet N, iv .i64 t, .fslc false false 1 [iv .i64 s, iv .i64 to]] (iv .i64 (askedE N t [s, to])) := asked_spec N t false [s, to] (by simp)
  by_cases hE : askedE N t [s, to] = 0
  · obtain ⟨hC, hs, ht1, ht2⟩ := asked_zero hE
    obtain ⟨hs1, hs2⟩ := hs s (by simp)
    obtain ⟨to1, to2⟩ := hs to (by simp)
    obtain ⟨s1, s2, hll, hok⟩ := checkE_ok hC
    have harr := arrivals_spec N s t hC hs1 hs2 ht1 ht2
    obtain ⟨W, _⟩ := arrP_spec hC hs1 hs2 ht1 ht2
    have hlo : (arrP N s t).out.length = N.st.toNat := W.ok.lo
    have hlw : (arrP N s t).way.length = N.st.toNat := W.ok.lw
    have hto : to.toNat < (arrP N s t).out.length := by omega
    have hg := at_get' (o := (arrP N s t).out) to
    have hg2 : (arrP N s t).out[to.toNat]? = some (at' (arrP N s t).out to) := at_get to1 (by omega)
    have hwv := W.ok.vals.at to1 (by omega)
    replace W : Hide _ := W
    replace hok : Hide _ := hok
    clear hs
    by_cases hneg : at' (arrP N s t).out to < 0
    · skip
      repeat' (first
        | (refine ac_seq_h fun K hK => ?_)
        | (refine ac_region_h fun K hK => ?_; simp (disch := omega) [go_sem, *, Try.ntmps23 ])
        | (refine ac_draw_h mixed (by kernel_rfl) fun K hK => ?_; simp (disch := omega) [go_sem, *, wrap64_id, upd_ne, mk3_true, flatten_replicate_one, stepK_if, ilt_true, ilt_false, ile_true, ile_false, Try.ntmps23 ])
        | (apply Hide.out hK; clear hK K; try with_reducible dsimp only [thenA])
        | (apply Hide.out ht; clear ht hf Kt Kf)
        | (apply Hide.out hf; clear ht hf Kt Kf)
        | (clear hK K; apply Hide.out hK; clear hK K; try with_reducible dsimp only [thenA])
        | (clear hK K; clear hK K; apply Hide.out hK; clear hK K; try with_reducible dsimp only [thenA])
        | (with_reducible refine APure.call (hasked) ?_; try simp (disch := omega) [go_sem, * ])
        | (with_reducible refine APure.call (harr) ?_; try simp (disch := omega) [go_sem, * ])
        | (refine ac_block ?_)
        | (refine ac_skip ?_; simp only [thenA])
        | (refine ac_exit ?_; simp only [thenA, blockA, if_true, if_false, Nat.reduceEqDiff])
        | (with_reducible show nextK _ _ _ _ _ _ _; simp (disch := omega) [go_sem, *, wrap64_id, upd_ne, mk3_true, flatten_replicate_one, stepK_if, ilt_true, ilt_false, ile_true, ile_false, Try.ntmps23 ])
        | (refine wantK_split (fun hc => ?_) (fun hc => ?_) <;> (try simp only [Bool.not_eq_true', Bool.not_eq_false', Bool.not_eq_eq_eq_not, Bool.not_true, Bool.not_false, decide_eq_true_eq, decide_eq_false_iff_not, Int.not_lt, Int.not_le] at hc) <;> (try (exfalso; omega)) <;> (try simp (disch := omega) [go_sem, *, wrap64_id, upd_ne, mk3_true, flatten_replicate_one, stepK_if, ilt_true, ilt_false, ile_true, ile_false, Try.ntmps23 ]))
        | (refine ac_cond_h fun Kt Kf ht hf => ?_; simp (disch := omega) [go_sem, * ]; try (refine ⟨fun hc => ?_, fun hc => ?_⟩ <;> try (exfalso; omega))))
      (refine ac_ret ?_; try dsimp only [thenA, blockA]; refine ⟨by simp, _, (by first | rfl | (simp (disch := omega) [go_sem, upd_ne] <;> rfl)), ?_⟩; refine ret_id ⟨fun k hk => (by first | rfl | (repeat rw [upd_ne _ _ _ _ (by omega)])), (by simp [go_sem, below, belowL]), (by simp [go_sem, hE, wayE, wayH, wayV, hneg] <;> omega), by simp, by simp⟩)
    · have hwE : Hide (wayE N s to t 0 = 0) := by simp [Hide, wayE, hneg]
      have hwP : Hide (wayP N s to t = (wayGo N.links (arrP N s t).way s ((at' (arrP N s t).out to).toNat + 1) to []).reverse) := rfl
      generalize hA : arrP N s t = A at *
      replace hA : Hide _ := hA
      repeat' (first
        | (refine ac_seq_h fun K hK => ?_)
        | (refine ac_region_h fun K hK => ?_; simp (disch := omega) [go_sem, *, Try.ntmps23 ])
        | (refine ac_draw_h mixed (by kernel_rfl) fun K hK => ?_; simp (disch := omega) [go_sem, *, wrap64_id, upd_ne, mk3_true, flatten_replicate_one, stepK_if, ilt_true, ilt_false, ile_true, ile_false, Try.ntmps23 ])
        | (apply Hide.out hK; clear hK K; try with_reducible dsimp only [thenA])
        | (apply Hide.out ht; clear ht hf Kt Kf)
        | (apply Hide.out hf; clear ht hf Kt Kf)
        | (clear hK K; apply Hide.out hK; clear hK K; try with_reducible dsimp only [thenA])
        | (clear hK K; clear hK K; apply Hide.out hK; clear hK K; try with_reducible dsimp only [thenA])
        | (with_reducible refine APure.call (hasked) ?_; try simp (disch := omega) [go_sem, * ])
        | (with_reducible refine APure.call (harr) ?_; try simp (disch := omega) [go_sem, * ])
        | (refine ac_block ?_)
        | (refine ac_skip ?_; simp only [thenA])
        | (refine ac_exit ?_; simp only [thenA, blockA, if_true, if_false, Nat.reduceEqDiff])
        | (with_reducible show nextK _ _ _ _ _ _ _; simp (disch := omega) [go_sem, *, wrap64_id, upd_ne, mk3_true, flatten_replicate_one, stepK_if, ilt_true, ilt_false, ile_true, ile_false, Try.ntmps23 ])
        | (refine wantK_split (fun hc => ?_) (fun hc => ?_) <;> (try simp only [Bool.not_eq_true', Bool.not_eq_false', Bool.not_eq_eq_eq_not, Bool.not_true, Bool.not_false, decide_eq_true_eq, decide_eq_false_iff_not, Int.not_lt, Int.not_le] at hc) <;> (try (exfalso; omega)) <;> (try simp (disch := omega) [go_sem, *, wrap64_id, upd_ne, mk3_true, flatten_replicate_one, stepK_if, ilt_true, ilt_false, ile_true, ile_false, Try.ntmps23 ]))
        | (refine ac_cond_h fun Kt Kf ht hf => ?_; simp (disch := omega) [go_sem, * ]; try (refine ⟨fun hc => ?_, fun hc => ?_⟩ <;> try (exfalso; omega))))
      obtain ⟨b, hbb⟩ : ∃ b, b = h.upd n (some (cellsNet N)) := ⟨_, rfl⟩
      have hbn : b n = some (cellsNet N) := by rw [hbb, upd_same]
      have hb0 : Hide (∀ k, n < k → b k = none) := fun k hk => by rw [hbb, upd_ne _ _ _ _ (by omega)]; exact hb.none (by omega)
      rw [← hbb]
      replace hbb : Hide _ := hbb
      refine ac_loop_wk (fun s' => ∃ (n' m f : Nat) (v : Int) (acc : List Hop), n < m ∧ m < n' ∧ 0 ≤ v ∧ v < N.st ∧ 0 ≤ at' A.out v ∧ at' A.out v < f ∧ acc.length + at' A.out v ≤ 1048576 ∧ Hide (wayGo N.links A.way s f v acc = wayGo N.links A.way s ((at' A.out to).toNat + 1) to []) ∧ s' = ⟨60, [(1, iv .i64 s), (4, .ptr n 0), (12, .fslc false false 2 (A.way.map encHop)), (13, accV 2 m acc.length), (14, iv .i64 v)], accH b m acc.length (hopCells acc), n'⟩)
        (fun s => match get s.s 14 with | .c (.int _ v) => (at' A.out v).toNat | _ => 0) ?_ ?_
      · exact loop_start (by simp [go_sem, accV]) (Sub.refl _) ⟨_, n + 1, _, to, [], by omega, by omega, by omega, by omega, by omega, by omega, by simp; omega, rfl, rfl⟩
      · rintro s' ⟨n', m, f, v, acc, hm1, hm2, hv0, hv1, hv2, hf, hlen, hgo, rfl⟩
        by_cases hvs : v = s
        · obtain ⟨f, rfl⟩ : ∃ g, f = g + 1 := ⟨f - 1, by omega⟩
          rw [hvs, wayGo, if_pos rfl] at hgo
          have hP : Hide (wayP N s to t = acc.reverse) := by rw [Hide, hwP.out, ← hgo.out]
          clear hgo hwP
          by_cases h0 : acc = []
          · subst h0
            simp only [List.length_nil, accV_zero, accH_zero]
            have hP2 : Hide (wayH N s to t 0 = []) := by rw [Hide, wayH, if_pos hwE.out, hP.out]; rfl
            clear hP
            repeat' (first
              | (refine ac_seq_h fun K hK => ?_)
              | (refine ac_region_h fun K hK => ?_; simp (disch := omega) [go_sem, * ])
              | (refine ac_draw_h mixed (by kernel_rfl) fun K hK => ?_; simp (disch := omega) [go_sem, *, wrap64_id, upd_ne, mk3_true, flatten_replicate_one, stepK_if, ilt_true, ilt_false, ile_true, ile_false, Try.ntmps23 ])
              | (apply Hide.out hK; clear hK K; try with_reducible dsimp only [thenA])
              | (apply Hide.out ht; clear ht hf Kt Kf)
              | (apply Hide.out hf; clear ht hf Kt Kf)
              | (clear hK K; apply Hide.out hK; clear hK K; try with_reducible dsimp only [thenA])
              | (clear hK K; clear hK K; apply Hide.out hK; clear hK K; try with_reducible dsimp only [thenA])
              | (with_reducible refine APure.call (reverse_nil) ?_; try simp (disch := omega) [go_sem, * ])
              | (refine ac_block ?_)
              | (refine ac_skip ?_; simp only [thenA, blockA])
              | (refine ac_exit ?_; simp only [thenA, blockA, if_true])
              | (with_reducible show nextK _ _ _ _ _ _ _; simp (disch := omega) [go_sem, *, wrap64_id, upd_ne, mk3_true, flatten_replicate_one, stepK_if, ilt_true, ilt_false, ile_true, ile_false, Try.ntmps23 ])
              | (refine wantK_split (fun hc => ?_) (fun hc => ?_) <;> (try simp only [Bool.not_eq_true', Bool.not_eq_false', Bool.not_eq_eq_eq_not, Bool.not_true, Bool.not_false, decide_eq_true_eq, decide_eq_false_iff_not, Int.not_lt, Int.not_le] at hc) <;> (try (exfalso; omega)) <;> (try simp (disch := omega) [go_sem, *, wrap64_id, upd_ne, mk3_true, flatten_replicate_one, stepK_if, ilt_true, ilt_false, ile_true, ile_false, Try.ntmps23 ]))
              | (refine ac_cond_h fun Kt Kf ht hf => ?_; simp (disch := omega) [go_sem, * ]; try (refine ⟨fun hc => ?_, fun hc => ?_⟩ <;> try (exfalso; omega))))
            refine ac_ret ?_
            refine ⟨by simp, _, rfl, ?_⟩
            refine ret_id ⟨fun k hk => by show b k = h k; rw [hbb.out, upd_ne _ _ _ _ (by omega)], by simp [go_sem, resVal, below, belowL], ?_, by simp, by simp⟩
            rw [hE, hP2.out, hwE.out]; rfl
          · have hpos : 0 < acc.length := List.length_pos_iff.2 h0
            rw [accV_pos hpos, accH_pos hpos]
            have hP2 : Hide (wayH N s to t 0 = acc.reverse) := by rw [Hide, wayH, if_pos hwE.out, hP.out]
            clear hP
            have hpos2 : 0 < acc.reverse.length := by simpa using hpos
            replace hpos2 : Hide _ := hpos2
            repeat' (first
              | (refine ac_seq_h fun K hK => ?_)
              | (refine ac_region_h fun K hK => ?_; simp (disch := omega) [go_sem, *])
              | (refine ac_draw_h mixed (by kernel_rfl) fun K hK => ?_; simp (disch := omega) [go_sem, *, wrap64_id, upd_ne, mk3_true, flatten_replicate_one, stepK_if, ilt_true, ilt_false, ile_true, ile_false, Try.ntmps23])
              | (apply Hide.out hK; clear hK K; try with_reducible dsimp only [thenA])
              | (apply Hide.out ht; clear ht hf Kt Kf)
              | (apply Hide.out hf; clear ht hf Kt Kf)
              | (clear hK K; apply Hide.out hK; clear hK K; try with_reducible dsimp only [thenA])
              | (clear hK K; clear hK K; apply Hide.out hK; clear hK K; try with_reducible dsimp only [thenA])
              | (refine ac_block ?_)
              | (refine ac_skip ?_; simp only [thenA, blockA])
              | (refine ac_exit ?_; simp only [thenA, blockA, if_true])
              | (with_reducible show nextK _ _ _ _ _ _ _; simp (disch := omega) [go_sem, *, wrap64_id, upd_ne, mk3_true, flatten_replicate_one, stepK_if, ilt_true, ilt_false, ile_true, ile_false, Try.ntmps23])
              | (refine wantK_split (fun hc => ?_) (fun hc => ?_) <;> (try simp only [Bool.not_eq_true', Bool.not_eq_false', Bool.not_eq_eq_eq_not, Bool.not_true, Bool.not_false, decide_eq_true_eq, decide_eq_false_iff_not, Int.not_lt, Int.not_le] at hc) <;> (try (exfalso; omega)) <;> (try simp (disch := omega) [go_sem, *, wrap64_id, upd_ne, mk3_true, flatten_replicate_one, stepK_if, ilt_true, ilt_false, ile_true, ile_false, Try.ntmps23]))
              | (refine ac_cond_h fun Kt Kf ht hf => ?_; simp (disch := omega) [go_sem, *]; try (refine ⟨fun hc => ?_, fun hc => ?_⟩ <;> try (exfalso; omega))))
            refine reverse_spec m acc (by omega) _ _ _ (upd_same _ _ _) (fun n2 hn2 => ?_)
            rw [upd_upd]
            repeat' (first
              | (refine ac_seq_h fun K hK => ?_)
              | (refine ac_region_h fun K hK => ?_; simp (disch := omega) [go_sem, *])
              | (refine ac_draw_h mixed (by kernel_rfl) fun K hK => ?_; simp (disch := omega) [go_sem, *, wrap64_id, upd_ne, mk3_true, flatten_replicate_one, stepK_if, ilt_true, ilt_false, ile_true, ile_false, Try.ntmps23])
              | (apply Hide.out hK; clear hK K; try with_reducible dsimp only [thenA])
              | (apply Hide.out ht; clear ht hf Kt Kf)
              | (apply Hide.out hf; clear ht hf Kt Kf)
              | (clear hK K; apply Hide.out hK; clear hK K; try with_reducible dsimp only [thenA])
              | (clear hK K; clear hK K; apply Hide.out hK; clear hK K; try with_reducible dsimp only [thenA])
              | (refine ac_block ?_)
              | (refine ac_skip ?_; simp only [thenA, blockA])
              | (refine ac_exit ?_; simp only [thenA, blockA, if_true, if_false, Nat.reduceEqDiff])
              | (with_reducible show nextK _ _ _ _ _ _ _; simp (disch := omega) [go_sem, *, wrap64_id, upd_ne, mk3_true, flatten_replicate_one, stepK_if, ilt_true, ilt_false, ile_true, ile_false, Try.ntmps23])
              | (refine wantK_split (fun hc => ?_) (fun hc => ?_) <;> (try simp only [Bool.not_eq_true', Bool.not_eq_false', Bool.not_eq_eq_eq_not, Bool.not_true, Bool.not_false, decide_eq_true_eq, decide_eq_false_iff_not, Int.not_lt, Int.not_le] at hc) <;> (try (exfalso; omega)) <;> (try simp (disch := omega) [go_sem, *, wrap64_id, upd_ne, mk3_true, flatten_replicate_one, stepK_if, ilt_true, ilt_false, ile_true, ile_false, Try.ntmps23]))
              | (refine ac_cond_h fun Kt Kf ht hf => ?_; simp (disch := omega) [go_sem, *, wrap64_id, upd_ne, mk3_true, flatten_replicate_one, stepK_if, ilt_true, ilt_false, ile_true, ile_false, Try.ntmps23]; try (refine ⟨fun hc => ?_, fun hc => ?_⟩ <;> try (exfalso; omega))))
            refine ac_ret ?_
            refine ⟨by simp, _, rfl, ?_⟩
            refine ret_freeze true (upd_same b m _) ?_
            have fzv : fzT m (hopCells acc.reverse) true (.tup [.slc m 0 acc.length 2, iv .i64 0]) = .tup [.fslc false false 2 (acc.reverse.map encHop), iv .i64 0] := by
              have hcl := hopCells_len acc.reverse
              have el := elems_hops acc.reverse
              simp only [List.length_reverse] at hcl el
              simp only [fzT, List.map_cons, List.map_nil, fz]
              rw [if_pos ⟨by trivial, by rw [hcl]; omega, by simp⟩, List.drop_zero, el]
            show RetOk _ _ (fzT m (hopCells acc.reverse) true (.tup [.slc m 0 acc.length 2, iv .i64 0])) _ _
            rw [fzv]
            refine ret_id ⟨fun k hk => ?_, ?_, ?_, by simp, by simp⟩
            · rw [upd_upd, upd_ne _ _ _ _ (by omega), hbb.out, upd_ne _ _ _ _ (by omega)]
            · simp [encHop, below, belowL, belowL_iff]
            · rw [hE, hP2.out, hwE.out]
              simp [wayV, h0]
        · obtain ⟨i, l, d, g1, g2, g3, g4, g5, g6, g7⟩ := W.out.hop v hv0 (by omega) hvs hv2
          obtain ⟨f, rfl⟩ : ∃ g, f = g + 1 := ⟨f - 1, by omega⟩
          have hlm := hok.out l (List.mem_of_getElem? g2)
          have hd := (right_spans hlm.ok).1
          have hgo2 := hgo.out
          rw [wayGo_step hvs g1 (by simpa using g2)] at hgo2
          replace hgo2 : Hide _ := hgo2
          have hf0 := hlm.fr0
          have hf1 := hlm.fr1
          have hvl : v.toNat < A.way.length := by omega
          have hil : i < N.links.length := (List.getElem?_eq_some_iff.1 g2).1
          have hi1 : N.links[i] = l := (List.getElem?_eq_some_iff.1 g2).2
          have hv1' : A.way[v.toNat] = ⟨i, d⟩ := (List.getElem?_eq_some_iff.1 g1).2
          clear hgo hwP
          replace hlm : Hide _ := hlm
          replace g7 : Hide _ := g7
          replace g3 : Hide _ := g3
          replace g4 : Hide _ := g4
          by_cases h0 : acc = []
          · subst h0
            simp only [List.length_nil, accV_zero, accH_zero]
            replace W : Hide _ := W
            repeat' (first
              | (refine ac_seq_h fun K hK => ?_)
              | (refine ac_region_h fun K hK => ?_; simp (disch := omega) [go_sem, *, encHop, ap_hop_nil])
              | (refine ac_draw_h mixed (by kernel_rfl) fun K hK => ?_; simp (disch := omega) [go_sem, *, upd_ne, ile_true, encHop, encLink])
              | (apply Hide.out hK; clear hK K; try with_reducible dsimp only [thenA])
              | (apply Hide.out ht; clear ht hf Kt Kf)
              | (apply Hide.out hf; clear ht hf Kt Kf)
              | (clear hK K; apply Hide.out hK; clear hK K; try with_reducible dsimp only [thenA])
              | (clear hK K; clear hK K; apply Hide.out hK; clear hK K; try with_reducible dsimp only [thenA])
              | (refine ac_block ?_)
              | (refine ac_skip ?_; simp only [thenA])
              | (refine ac_exit ?_; simp only [thenA, blockA, if_true, if_false, Nat.reduceEqDiff])
              | (with_reducible show nextK _ _ _ _ _ _ _; simp (disch := omega) [go_sem, *, wrap64_id, upd_ne, mk3_true, flatten_replicate_one, stepK_if, ilt_true, ilt_false, ile_true, ile_false, encHop, encLink, ap_hop_nil])
              | (refine wantK_split (fun hc => ?_) (fun hc => ?_) <;> (try simp only [Bool.not_eq_true', Bool.not_eq_false', Bool.not_eq_eq_eq_not, Bool.not_true, Bool.not_false, decide_eq_true_eq, decide_eq_false_iff_not, Int.not_lt, Int.not_le] at hc) <;> (try (exfalso; omega)) <;> (try simp (disch := omega) [go_sem, *, wrap64_id, upd_ne, mk3_true, flatten_replicate_one, stepK_if, ilt_true, ilt_false, ile_true, ile_false, encHop, encLink, ap_hop_nil]))
              | (refine ac_cond_h fun Kt Kf ht hf => ?_; simp (disch := omega) [go_sem, *]; try (refine ⟨fun hc => ?_, fun hc => ?_⟩ <;> try (exfalso; omega))))
            have g7 := g7.out
            have g3 := g3.out
            have g4 := g4.out
            refine round_end (by simp [go_sem, accV]) ?_ ⟨_, n' + 3 + 6, f, l.fr, [⟨i, d⟩], by omega, by omega, by omega, by omega, by omega, by omega, by simp; omega, hgo2, rfl⟩ (by simp [go_sem]; omega)
            exact Sub.refl _
          · have hpos : 0 < acc.length := List.length_pos_iff.2 h0
            rw [accV_pos hpos, accH_pos hpos]
            have hbm : b m = none := hb0.out m hm1
            have hcl := hopCells_len acc
            repeat' (first
              | (refine ac_seq_h fun K hK => ?_)
              | (refine ac_region_h fun K hK => ?_; simp (disch := omega) [go_sem, *, encHop, ap_hop'])
              | (refine ac_draw_h mixed (by kernel_rfl) fun K hK => ?_; simp (disch := omega) [go_sem, *, upd_ne, ile_true, encHop, encLink])
              | (apply Hide.out hK; clear hK K; try with_reducible dsimp only [thenA])
              | (apply Hide.out ht; clear ht hf Kt Kf)
              | (apply Hide.out hf; clear ht hf Kt Kf)
              | (clear hK K; apply Hide.out hK; clear hK K; try with_reducible dsimp only [thenA])
              | (clear hK K; clear hK K; apply Hide.out hK; clear hK K; try with_reducible dsimp only [thenA])
              | (refine ac_block ?_)
              | (refine ac_skip ?_; simp only [thenA])
              | (refine ac_exit ?_; simp only [thenA, blockA, if_true, if_false, Nat.reduceEqDiff])
              | (with_reducible show nextK _ _ _ _ _ _ _; simp (disch := omega) [go_sem, *, wrap64_id, upd_ne, mk3_true, flatten_replicate_one, stepK_if, ilt_true, ilt_false, ile_true, ile_false, encHop, encLink, ap_hop'])
              | (refine wantK_split (fun hc => ?_) (fun hc => ?_) <;> (try simp only [Bool.not_eq_true', Bool.not_eq_false', Bool.not_eq_eq_eq_not, Bool.not_true, Bool.not_false, decide_eq_true_eq, decide_eq_false_iff_not, Int.not_lt, Int.not_le] at hc) <;> (try (exfalso; omega)) <;> (try simp (disch := omega) [go_sem, *, wrap64_id, upd_ne, mk3_true, flatten_replicate_one, stepK_if, ilt_true, ilt_false, ile_true, ile_false, encHop, encLink, ap_hop']))
              | (refine ac_cond_h fun Kt Kf ht hf => ?_; simp (disch := omega) [go_sem, *]; try (refine ⟨fun hc => ?_, fun hc => ?_⟩ <;> try (exfalso; omega))))
            have g7 := g7.out
            have g3 := g3.out
            have g4 := g4.out
            refine round_end (by simp [go_sem, accV]) ?_ ⟨_, n' + 3 + 6, f, l.fr, acc ++ [⟨i, d⟩], by omega, by omega, by omega, by omega, by omega, by omega, by simp; omega, hgo2, rfl⟩ (by simp [go_sem]; omega)
            rw [accH_pos (by simp), hopCells_snoc]
            exact acc_sub hbm _ _ _
  · skip
    repeat' (first
      | (refine ac_seq_h fun K hK => ?_)
      | (refine ac_region_h fun K hK => ?_; simp (disch := omega) [go_sem, *, Try.ntmps23 ])
      | (refine ac_draw_h mixed (by kernel_rfl) fun K hK => ?_; simp (disch := omega) [go_sem, *, wrap64_id, upd_ne, mk3_true, flatten_replicate_one, stepK_if, ilt_true, ilt_false, ile_true, ile_false, Try.ntmps23 ])
      | (apply Hide.out hK; clear hK K; try with_reducible dsimp only [thenA])
      | (apply Hide.out ht; clear ht hf Kt Kf)
      | (apply Hide.out hf; clear ht hf Kt Kf)
      | (clear hK K; apply Hide.out hK; clear hK K; try with_reducible dsimp only [thenA])
      | (clear hK K; clear hK K; apply Hide.out hK; clear hK K; try with_reducible dsimp only [thenA])
      | (with_reducible refine APure.call (hasked) ?_; try simp (disch := omega) [go_sem, * ])
      | (refine ac_block ?_)
      | (refine ac_skip ?_; simp only [thenA, blockA])
      | (refine ac_exit ?_; simp only [thenA, blockA, if_true, if_false, Nat.reduceEqDiff])
      | (with_reducible show nextK _ _ _ _ _ _ _; simp (disch := omega) [go_sem, *, wrap64_id, upd_ne, mk3_true, flatten_replicate_one, stepK_if, ilt_true, ilt_false, ile_true, ile_false, Try.ntmps23 ])
      | (refine wantK_split (fun hc => ?_) (fun hc => ?_) <;> (try simp only [Bool.not_eq_true', Bool.not_eq_false', Bool.not_eq_eq_eq_not, Bool.not_true, Bool.not_false, decide_eq_true_eq, decide_eq_false_iff_not, Int.not_lt, Int.not_le] at hc) <;> (try (exfalso; omega)) <;> (try simp (disch := omega) [go_sem, *, wrap64_id, upd_ne, mk3_true, flatten_replicate_one, stepK_if, ilt_true, ilt_false, ile_true, ile_false, Try.ntmps23 ]))
      | (refine ac_cond_h fun Kt Kf ht hf => ?_; simp (disch := omega) [go_sem, * ]; try (refine ⟨fun hc => ?_, fun hc => ?_⟩ <;> try (exfalso; omega))))
    (refine ac_ret ?_; try dsimp only [thenA, blockA]; refine ⟨by simp, _, (by first | rfl | (simp (disch := omega) [go_sem, upd_ne] <;> rfl)), ?_⟩; refine ret_id ⟨fun k hk => (by first | rfl | (repeat rw [upd_ne _ _ _ _ (by omega)])), (by simp [go_sem, below, belowL]), (by simp [go_sem, hE, wayE, wayH, wayV] <;> omega), by simp, by simp⟩)
end Go.AM

namespace Go.AM
open Go.Proofs Nets
set_option maxRecDepth 10000
set_option maxHeartbeats 4000000
theorem fzTL_ok {w0 : World} {G : Gh} {h : AHeap} {w : World} (I : Inv w0 G h w) {m : Nat} {c : List AV} (hm : h m = some (.cells c)) {r : Nat × Nat × Nat} (hr : G.reg m = some r) (agg : Bool) : ∀ {l : List AV} {vs : List Value}, RvL G l vs → RvL (G.freeze w r) (l.map (fzT m c agg)) vs
  | [], _, hv => by simpa [RvL] using hv
  | x :: l, _, hv => by
    simp only [RvL] at hv
    obtain ⟨v, vr, rfl, h1, h2⟩ := hv
    simp only [List.map_cons, RvL]
    refine ⟨v, vr, rfl, ?_, fzTL_ok I hm hr agg h2⟩
    cases x with
    | tup l => simp only [fzT, Rv] at h1 ⊢; obtain ⟨vs, e, hv⟩ := h1; exact ⟨vs, e, fzL_ok I hm hr agg hv⟩
    | agg l => simp only [fzT, Rv] at h1 ⊢; obtain ⟨vs, e, hv⟩ := h1; exact ⟨vs, e, fzL_ok I hm hr agg hv⟩
    | _ => exact fz_ok I hm hr agg h1
/-- an owned row is frozen ahead of a call -/
theorem call_freeze {P : Program} {f : FuncId} {args : List AV} {h : AHeap} {n : Nat} {K : AV → AHeap → Nat → Prop} {m : Nat} {c : List AV} (agg : Bool) (hm : h m = some (.cells c)) (hc : ACalls P f (args.map (fzT m c agg)) (h.upd m none) n K) : ACalls P f args h n K :=
  ⟨hc.1, fun w0 G w vs I hf hr => by
    obtain ⟨r, hreg⟩ := (I.obj m _ hm).hasReg
    have hle := Gh.le_freeze I hm hreg
    exact (hc.2 w0 (G.freeze w r) w vs (I.freeze hm hreg) hf (fzTL_ok I hm hreg agg hr)).mono fun _ _ ⟨G', r', x, h', n', e1, ⟨e2, eo⟩, e3⟩ => ⟨G', r', x, h', n', e1, ⟨(show Ext n G (G.freeze w r) from ⟨fun _ _ => rfl, hle.imm, ⟨[], rfl⟩, rfl, fun _ e => e⟩).trans e2, eo⟩, e3⟩⟩
/-- arguments of which less is said -/
theorem call_weak {P : Program} {f : FuncId} {args args' : List AV} {h : AHeap} {n : Nat} {K : AV → AHeap → Nat → Prop} (hw : ∀ G vs, RvL G args vs → RvL G args' vs) (hc : ACalls P f args' h n K) : ACalls P f args h n K :=
  ⟨hc.1, fun w0 G w vs I hf hr => hc.2 w0 G w vs I hf (hw G vs hr)⟩
abbrev encShut (x : Link) : AV := .agg [iv .i64 x.fr, iv .i64 x.to, iv .i64 x.delay, .fslc true true 0 []]
theorem flat_cons (x : AV) (r : List AV) : flat (x :: r) = cellsOf x ++ flat r := by simp [flat]
theorem flat_links_len : ∀ l : List Link, (flat (l.map encLink)).length = l.length * 4
  | [] => rfl
  | x :: r => by rw [List.map_cons, flat_cons, List.length_append, flat_links_len r]; simp [cellsOf]; omega
theorem flat_shut : ∀ (l : List Link) (k : Nat) (x : Link), l[k]? = some x → (flat (l.map encLink)).take (k * 4 + 3) ++ .fslc true true 0 [] :: (flat (l.map encLink)).drop (k * 4 + 3 + 1) = flat ((l.map encLink).set k (encShut x))
  | [], _, _, h => by simp at h
  | a :: r, 0, x, h => by simp at h; subst h; simp [flat_cons, cellsOf]
  | a :: r, k + 1, x, h => by
    have := flat_shut r k x (by simpa using h)
    rw [List.map_cons, List.set_cons_succ, flat_cons, flat_cons, ← this]
    simp [cellsOf, show (k + 1) * 4 + 3 = k * 4 + 3 + 1 + 1 + 1 + 1 by omega]
theorem elems_flat : ∀ L : List AV, (∀ y ∈ L, ∃ a b c d, y = .agg [a, b, c, d]) → elems true 4 L.length (flat L) = L
  | [], _ => rfl
  | x :: r, h => by
    obtain ⟨a, b, c, d, rfl⟩ := h x (by simp)
    have := elems_flat r fun y hy => h y (by simp [hy])
    rw [flat_cons]
    simp only [elems, List.length_cons, chunk, List.map_cons, cellsOf] at this ⊢
    simp [mkElem, this]
theorem shut_rel {G : Gh} {ad : Addr} : ∀ (l : List Link) (k : Nat) (x : Link) (i : Nat), l[k]? = some x → RvE G ad 4 i ((l.map encLink).set k (encShut x)) → RvE G ad 4 i ((l.set k (shutL x)).map encLink)
  | [], _, _, _, h, _ => by simp at h
  | a :: r, 0, x, i, h, hr => by
    simp only [List.map_cons, List.set_cons_zero, RvE] at hr ⊢
    obtain ⟨⟨h1, v, h2, h3, h4⟩, h5⟩ := hr
    refine ⟨⟨by simp [cellsOf, shutL, AV.scalar], v, ?_, h3, h4⟩, h5⟩
    simp only [Rv, RvL, shutL] at h2 ⊢
    obtain ⟨vs, e, v1, r1, e1, g1, v2, r2, e2, g2, v3, r3, e3, g3, v4, r4, e4, ⟨aa, cap, k1, k2, k3, k4, k5⟩, k6⟩ := h2
    exact ⟨vs, e, v1, r1, e1, g1, v2, r2, e2, g2, v3, r3, e3, g3, v4, r4, e4, ⟨aa, cap, k1, k2, by simp, k4, by simp⟩, k6⟩
  | a :: r, k + 1, x, i, h, hr => by
    simp only [List.map_cons, List.set_cons_succ, RvE] at hr ⊢
    exact ⟨hr.1, shut_rel r k x _ (by simpa using h) hr.2⟩
def neV (l : List Int) : AV := if l.length = 0 then .fslc true true 0 [] else .fslc false false 1 (l.map (iv .i64))
theorem ap_links (nm : Nat) (l : List Link) (h : AHeap) (h0 : l ≠ []) (hl : l.length < 1000000) : aAppend Try.prog nm 22 (.fslc false true 4 []) (encLinks false l) h = some (.slc nm 0 l.length 4, h.upd nm (some (.cells (flat (l.map encLink))))) := by
  have e1 : eltOf Try.prog 22 = some 27 := by kernel_rfl
  have e2 : szOf Try.prog 27 = some 4 := by kernel_rfl
  have e3 : byOf Try.prog 27 = some 48 := by kernel_rfl
  have e4 : zerOf Try.prog 27 = some (.agg [iv .i64 0, iv .i64 0, iv .i64 0, .fslc true true 0 []]) := by kernel_rfl
  have hl2 : l.length ≤ 67108864 := by omega
  have hf : flat [] = [] := rfl
  simp [aAppend, e1, e2, e3, e4, srcCells, cellsOf, AV.scalar, h0, hl2, hf]
theorem clone_spec (l : List Link) (h0 : l ≠ []) (hl : l.length < 1000000) (h : AHeap) (n : Nat) (K : AV → AHeap → Nat → Prop)
    (hk : ∀ m n', n ≤ m → m < n' → K (.slc m 0 l.length 4) (h.upd m (some (.cells (flat (l.map encLink))))) n') : ACalls Try.prog 51 [encLinks false l] h n K := by
  refine ACalls.entry (by kernel_rfl) fun hb _ => calls_of Try.func51 rfl (by kernel_rfl) (by simp [Try.ntmps51]) ?_
  have hb : HB h n := hb
  replace hb : Hide _ := hb
  replace hk : Hide _ := hk
  have hap := fun nm => ap_links nm l h h0 hl
  repeat' (first
    | (refine ac_seq_h fun K hK => ?_)
    | (refine ac_region_h fun K hK => ?_; simp (disch := omega) [go_sem, *, Try.ntmps51])
    | (refine ac_draw_h mixed (by kernel_rfl) fun K hK => ?_; simp (disch := omega) [go_sem, *, wrap64_id, upd_ne, mk3_true, flatten_replicate_one, stepK_if, ilt_true, ilt_false, ile_true, ile_false, Try.ntmps51])
    | (apply Hide.out hK; clear hK K; try with_reducible dsimp only [thenA])
    | (apply Hide.out ht; clear ht hf Kt Kf)
    | (apply Hide.out hf; clear ht hf Kt Kf)
    | (clear hK K; apply Hide.out hK; clear hK K; try with_reducible dsimp only [thenA])
    | (clear hK K; clear hK K; apply Hide.out hK; clear hK K; try with_reducible dsimp only [thenA])
    | (refine ac_block ?_)
    | (refine ac_skip ?_; simp only [thenA])
    | (refine ac_exit ?_; simp only [thenA, blockA, if_true, if_false, Nat.reduceEqDiff])
    | (with_reducible show nextK _ _ _ _ _ _ _; simp (disch := omega) [go_sem, *, wrap64_id, upd_ne, mk3_true, flatten_replicate_one, stepK_if, ilt_true, ilt_false, ile_true, ile_false, Try.ntmps51])
    | (refine wantK_split (fun hc => ?_) (fun hc => ?_) <;> (try simp only [Bool.not_eq_true', Bool.not_eq_false', Bool.not_eq_eq_eq_not, Bool.not_true, Bool.not_false, decide_eq_true_eq, decide_eq_false_iff_not, Int.not_lt, Int.not_le] at hc) <;> (try (exfalso; omega)) <;> (try simp (disch := omega) [go_sem, *, wrap64_id, upd_ne, mk3_true, flatten_replicate_one, stepK_if, ilt_true, ilt_false, ile_true, ile_false, Try.ntmps51]))
    | (refine ac_cond_h fun Kt Kf ht hf => ?_; simp (disch := omega) [go_sem, *]; try (refine ⟨fun hc => ?_, fun hc => ?_⟩ <;> try (exfalso; omega))))
  refine ac_ret ?_
  refine ⟨by simp, _, rfl, ?_⟩
  refine ret_id (hk.out _ _ ?_ ?_)
  · omega
  · show n + 1 + 2 + 2 < n + 1 + 2 + 4
    omega
theorem needed_spec (N : Net) (s to t : Int) (hnl : N.nl = true → N.links = []) : APure Try.prog 29 [encNet N, iv .i64 s, iv .i64 to, iv .i64 t] (.tup [neV (needH N s to t (askedE N t [s, to])), iv .i64 (wayE N s to t (askedE N t [s, to]))]) := by
  intro h n
  refine ACalls.pure (ACalls.entry (by kernel_rfl) fun hb _ => calls_of Try.func29 rfl (by kernel_rfl) (by simp [Try.ntmps29]) ?_)
  have hasked : APure Try.prog 42 [encNet N, iv .i64 t, .fslc false false 1 [iv .i64 s, iv .i64 to]] (iv .i64 (askedE N t [s, to])) := asked_spec N t false [s, to] (by simp)
  by_cases hE : askedE N t [s, to] = 0
  · obtain ⟨hC, hs, ht1, ht2⟩ := asked_zero hE
    obtain ⟨hs1, hs2⟩ := hs s (by simp)
    obtain ⟨to1, to2⟩ := hs to (by simp)
    obtain ⟨s1, s2, hll, hok⟩ := checkE_ok hC
    have harr := arrivals_spec N s t hC hs1 hs2 ht1 ht2
    obtain ⟨W, _⟩ := arrP_spec hC hs1 hs2 ht1 ht2
    have hlo : (arrP N s t).out.length = N.st.toNat := W.ok.lo
    have hto : to.toNat < (arrP N s t).out.length := by omega
    have hg := at_get' (o := (arrP N s t).out) to
    have hg2 : (arrP N s t).out[to.toNat]? = some (at' (arrP N s t).out to) := at_get to1 (by omega)
    have hwv := W.ok.vals.at to1 (by omega)
    replace hnl : Hide _ := hnl
    replace W : Hide _ := W
    replace hok : Hide _ := hok
    clear hs
    by_cases hneg : at' (arrP N s t).out to < 0
    · skip
      repeat' (first
        | (refine ac_seq_h fun K hK => ?_)
        | (refine ac_region_h fun K hK => ?_; simp (disch := omega) [go_sem, *, Try.ntmps29 ])
        | (refine ac_draw_h mixed (by kernel_rfl) fun K hK => ?_; simp (disch := omega) [go_sem, *, wrap64_id, upd_ne, mk3_true, flatten_replicate_one, stepK_if, ilt_true, ilt_false, ile_true, ile_false, Try.ntmps29 ])
        | (apply Hide.out hK; clear hK K; try with_reducible dsimp only [thenA])
        | (apply Hide.out ht; clear ht hf Kt Kf)
        | (apply Hide.out hf; clear ht hf Kt Kf)
        | (clear hK K; apply Hide.out hK; clear hK K; try with_reducible dsimp only [thenA])
        | (clear hK K; clear hK K; apply Hide.out hK; clear hK K; try with_reducible dsimp only [thenA])
        | (with_reducible refine APure.call (hasked) ?_; try simp (disch := omega) [go_sem, * ])
        | (with_reducible refine APure.call (harr) ?_; try simp (disch := omega) [go_sem, * ])
        | (refine ac_block ?_)
        | (refine ac_skip ?_; simp only [thenA])
        | (refine ac_exit ?_; simp only [thenA, blockA, if_true, if_false, Nat.reduceEqDiff])
        | (with_reducible show nextK _ _ _ _ _ _ _; simp (disch := omega) [go_sem, *, wrap64_id, upd_ne, mk3_true, flatten_replicate_one, stepK_if, ilt_true, ilt_false, ile_true, ile_false, Try.ntmps29 ])
        | (refine wantK_split (fun hc => ?_) (fun hc => ?_) <;> (try simp only [Bool.not_eq_true', Bool.not_eq_false', Bool.not_eq_eq_eq_not, Bool.not_true, Bool.not_false, decide_eq_true_eq, decide_eq_false_iff_not, Int.not_lt, Int.not_le] at hc) <;> (try (exfalso; omega)) <;> (try simp (disch := omega) [go_sem, *, wrap64_id, upd_ne, mk3_true, flatten_replicate_one, stepK_if, ilt_true, ilt_false, ile_true, ile_false, Try.ntmps29 ]))
        | (refine ac_cond_h fun Kt Kf ht hf => ?_; simp (disch := omega) [go_sem, * ]; try (refine ⟨fun hc => ?_, fun hc => ?_⟩ <;> try (exfalso; omega))))
      (refine ac_ret ?_; try dsimp only [thenA, blockA]; refine ⟨by simp, _, (by first | rfl | (simp (disch := omega) [go_sem, upd_ne] <;> rfl)), ?_⟩; refine ret_id ⟨fun k hk => (by first | rfl | (repeat rw [upd_ne _ _ _ _ (by omega)])), (by simp [go_sem, below, belowL]), (by simp [go_sem, hE, wayE, needH, neV, hneg] <;> omega), by simp, by simp⟩)
    · have hwE : Hide (wayE N s to t 0 = 0) := by simp [Hide, wayE, hneg]
      have hnA : Hide (∀ k, needAt N s to t k = decide (at' (arrP (shutN N k) s t).out to ≠ at' (arrP N s t).out to)) := fun k => rfl
      generalize hA : arrP N s t = A at *
      replace hA : Hide _ := hA
      repeat' (first
        | (refine ac_seq_h fun K hK => ?_)
        | (refine ac_region_h fun K hK => ?_; simp (disch := omega) [go_sem, *, Try.ntmps29 ])
        | (refine ac_draw_h mixed (by kernel_rfl) fun K hK => ?_; simp (disch := omega) [go_sem, *, wrap64_id, upd_ne, mk3_true, flatten_replicate_one, stepK_if, ilt_true, ilt_false, ile_true, ile_false, Try.ntmps29 ])
        | (apply Hide.out hK; clear hK K; try with_reducible dsimp only [thenA])
        | (apply Hide.out ht; clear ht hf Kt Kf)
        | (apply Hide.out hf; clear ht hf Kt Kf)
        | (clear hK K; apply Hide.out hK; clear hK K; try with_reducible dsimp only [thenA])
        | (clear hK K; clear hK K; apply Hide.out hK; clear hK K; try with_reducible dsimp only [thenA])
        | (with_reducible refine APure.call (hasked) ?_; try simp (disch := omega) [go_sem, * ])
        | (with_reducible refine APure.call (harr) ?_; try simp (disch := omega) [go_sem, * ])
        | (refine ac_block ?_)
        | (refine ac_skip ?_; simp only [thenA])
        | (refine ac_exit ?_; simp only [thenA, blockA, if_true, if_false, Nat.reduceEqDiff])
        | (with_reducible show nextK _ _ _ _ _ _ _; simp (disch := omega) [go_sem, *, wrap64_id, upd_ne, mk3_true, flatten_replicate_one, stepK_if, ilt_true, ilt_false, ile_true, ile_false, Try.ntmps29 ])
        | (refine wantK_split (fun hc => ?_) (fun hc => ?_) <;> (try simp only [Bool.not_eq_true', Bool.not_eq_false', Bool.not_eq_eq_eq_not, Bool.not_true, Bool.not_false, decide_eq_true_eq, decide_eq_false_iff_not, Int.not_lt, Int.not_le] at hc) <;> (try (exfalso; omega)) <;> (try simp (disch := omega) [go_sem, *, wrap64_id, upd_ne, mk3_true, flatten_replicate_one, stepK_if, ilt_true, ilt_false, ile_true, ile_false, Try.ntmps29 ]))
        | (refine ac_cond_h fun Kt Kf ht hf => ?_; simp (disch := omega) [go_sem, * ]; try (refine ⟨fun hc => ?_, fun hc => ?_⟩ <;> try (exfalso; omega))))
      obtain ⟨b, hbb⟩ : ∃ b, b = h.upd n (some (cellsNet N)) := ⟨_, rfl⟩
      have hbn : b n = some (cellsNet N) := by rw [hbb, upd_same]
      have hb0 : Hide (∀ k, n < k → b k = none) := fun k hk => by rw [hbb, upd_ne _ _ _ _ (by omega)]; exact hb.none (by omega)
      rw [← hbb]
      replace hbb : Hide _ := hbb
      refine ac_loop_wk (fun s' => ∃ (n' m k : Nat), n < m ∧ m < n' ∧ k ≤ N.links.length ∧ s' = ⟨77, [(1, iv .i64 s), (2, iv .i64 to), (3, iv .i64 t), (4, .ptr n 0), (11, .fslc false false 1 (A.out.map (iv .i64))), (13, accV 1 m (needTo N s to t k).length), (41, iv .i64 N.links.length), (42, iv .i64 k)], accH b m (needTo N s to t k).length ((needTo N s to t k).map (iv .i64)), n'⟩)
        (fun s => N.links.length - (intAt s 42).toNat) ?_ ?_
      · exact loop_start (by simp [go_sem, accV, needTo]) (Sub.refl _) ⟨_, n + 1, 0, by omega, by omega, by omega, rfl⟩
      · rintro s' ⟨n', m, k, hm1, hm2, hk, rfl⟩
        obtain ⟨H, hH⟩ : ∃ H, H = accH b m (needTo N s to t k).length ((needTo N s to t k).map (iv .i64)) := ⟨_, rfl⟩
        obtain ⟨V, hV⟩ : ∃ V, V = accV 1 m (needTo N s to t k).length := ⟨_, rfl⟩
        have hHn : H n = some (cellsNet N) := by rw [hH, accH]; split; exact hbn; rw [upd_ne _ _ _ _ (by omega)]; exact hbn
        have hH0 : Hide (∀ k, n' ≤ k → H k = none) := fun k hk => by
          rw [hH, accH]; split
          · exact hb0.out _ (by omega)
          · rw [upd_ne _ _ _ _ (by omega)]; exact hb0.out _ (by omega)
        have hacc := needTo_len N s to t k
        have hnext := needTo_succ N s to t k
        rw [← hH, ← hV]
        by_cases hlt : k < N.links.length
        · obtain ⟨x, hx1, hx2, _⟩ := at_k hlt
          have hC' := shutN_ok hx2 hC
          have hlks := shutN_links hx2
          have harr2 := arrivals_spec (shutN N k) s t hC' hs1 hs2 ht1 ht2
          obtain ⟨W2, _⟩ := arrP_spec (N := shutN N k) hC' hs1 hs2 ht1 ht2
          have hlo2 : (arrP (shutN N k) s t).out.length = N.st.toNat := W2.ok.lo
          have hnk := hnA.out k
          have hg3 := at_get' (o := (arrP (shutN N k) s t).out) to
          generalize arrP (shutN N k) s t = B at *
          have hto2 : to.toNat < B.out.length := by omega
          have hg4 : B.out[to.toNat]? = some (at' B.out to) := at_get to1 (by omega)
          have hl0 : N.links ≠ [] := by intro e; rw [e] at hlt; simp at hlt
          have hnl0 : N.nl = false := by
            cases e : N.nl
            · rfl
            · exact absurd (hnl.out e) hl0
          have hencS : encNet (shutN N k) = .agg [iv .i64 N.st, .fslc false false 4 ((N.links.set k (shutL x)).map encLink)] := by rw [encNet, encLinks, hlks]; rfl
          rw [hencS] at harr2
          have hfl := flat_links_len N.links
          have hfs := flat_shut N.links k x hx2
          replace hV : Hide _ := hV
          replace hH : Hide _ := hH
          replace hnk : Hide _ := hnk
          replace hfs : Hide _ := hfs
          replace hx2 : Hide _ := hx2
          replace W2 : Hide _ := W2
          replace harr2 : Hide _ := harr2
          replace hnext : Hide _ := hnext
          clear hencS hlks hC'
          repeat' (first
            | (refine ac_seq_h fun K hK => ?_)
            | (refine ac_region_h fun K hK => ?_; simp (disch := omega) [go_sem, *, upd_ne, ilt_true])
            | (refine ac_draw_h mixed (by kernel_rfl) fun K hK => ?_; simp (disch := omega) [go_sem, *, wrap64_id, upd_ne, mk3_true, flatten_replicate_one, stepK_if, ilt_true, ilt_false, ile_true, ile_false, Try.ntmps29])
            | (apply Hide.out hK; clear hK K; try with_reducible dsimp only [thenA])
            | (apply Hide.out ht; clear ht hf Kt Kf)
            | (apply Hide.out hf; clear ht hf Kt Kf)
            | (clear hK K; apply Hide.out hK; clear hK K; try with_reducible dsimp only [thenA])
            | (clear hK K; clear hK K; apply Hide.out hK; clear hK K; try with_reducible dsimp only [thenA])
            | (refine ac_block ?_)
            | (refine ac_skip ?_; simp only [thenA])
            | (refine ac_exit ?_; simp only [thenA, blockA, if_true, if_false, Nat.reduceEqDiff])
            | (with_reducible show nextK _ _ _ _ _ _ _; simp (disch := omega) [go_sem, *, wrap64_id, upd_ne, mk3_true, flatten_replicate_one, stepK_if, ilt_true, ilt_false, ile_true, ile_false, Try.ntmps29])
            | (refine wantK_split (fun hc => ?_) (fun hc => ?_) <;> (try simp only [Bool.not_eq_true', Bool.not_eq_false', Bool.not_eq_eq_eq_not, Bool.not_true, Bool.not_false, decide_eq_true_eq, decide_eq_false_iff_not, Int.not_lt, Int.not_le] at hc) <;> (try (exfalso; omega)) <;> (try simp (disch := omega) [go_sem, *, wrap64_id, upd_ne, mk3_true, flatten_replicate_one, stepK_if, ilt_true, ilt_false, ile_true, ile_false, Try.ntmps29]))
            | (refine ac_cond_h fun Kt Kf ht hf => ?_; simp (disch := omega) [go_sem, *]; try (refine ⟨fun hc => ?_, fun hc => ?_⟩ <;> try (exfalso; omega))))
          refine clone_spec _ hl0 (by omega) _ _ _ (fun m2 n2 hm2 hn2 => ?_)
          repeat' (first
            | (refine ac_seq_h fun K hK => ?_)
            | (refine ac_region_h fun K hK => ?_; simp (disch := omega) [go_sem, *, upd_ne, stepK_if, ilt_true, ile_true])
            | (refine ac_draw_h mixed (by kernel_rfl) fun K hK => ?_; simp (disch := omega) [go_sem, *, wrap64_id, upd_ne, mk3_true, flatten_replicate_one, stepK_if, ilt_true, ilt_false, ile_true, ile_false, Try.ntmps29])
            | (apply Hide.out hK; clear hK K; try with_reducible dsimp only [thenA])
            | (apply Hide.out ht; clear ht hf Kt Kf)
            | (apply Hide.out hf; clear ht hf Kt Kf)
            | (clear hK K; apply Hide.out hK; clear hK K; try with_reducible dsimp only [thenA])
            | (clear hK K; clear hK K; apply Hide.out hK; clear hK K; try with_reducible dsimp only [thenA])
            | (refine ac_block ?_)
            | (refine ac_skip ?_; simp only [thenA, blockA])
            | (refine ac_exit ?_; simp only [thenA, blockA, if_true, if_false, Nat.reduceEqDiff])
            | (with_reducible show nextK _ _ _ _ _ _ _; simp (disch := omega) [go_sem, *, upd_ne])
            | (refine wantK_split (fun hc => ?_) (fun hc => ?_) <;> (try simp only [Bool.not_eq_true', Bool.not_eq_false', Bool.not_eq_eq_eq_not, Bool.not_true, Bool.not_false, decide_eq_true_eq, decide_eq_false_iff_not, Int.not_lt, Int.not_le] at hc) <;> (try (exfalso; omega)) <;> (try simp (disch := omega) [go_sem, *, wrap64_id, upd_ne, mk3_true, flatten_replicate_one, stepK_if, ilt_true, ilt_false, ile_true, ile_false, Try.ntmps29]))
            | (refine ac_cond_h fun Kt Kf ht hf => ?_; simp (disch := omega) [go_sem, *, wrap64_id, upd_ne, mk3_true, flatten_replicate_one, stepK_if, ilt_true, ilt_false, ile_true, ile_false, Try.ntmps29]; try (refine ⟨fun hc => ?_, fun hc => ?_⟩ <;> try (exfalso; omega))))
          rw [hfs.out]
          refine call_freeze true (upd_same _ _ _) ?_
          have hargs : List.map (fzT m2 (flat ((N.links.map encLink).set k (encShut x))) true) [.agg [iv .i64 N.st, .slc m2 0 N.links.length 4], iv .i64 s, iv .i64 t] = [.agg [iv .i64 N.st, .fslc false false 4 ((N.links.map encLink).set k (encShut x))], iv .i64 s, iv .i64 t] := by
            have e1 := elems_flat ((N.links.map encLink).set k (encShut x)) fun y hy => by
              rcases List.mem_or_eq_of_mem_set hy with h' | rfl
              · obtain ⟨z, _, rfl⟩ := List.mem_map.1 h'; exact ⟨_, _, _, _, rfl⟩
              · exact ⟨_, _, _, _, rfl⟩
            have e2 := flat_shut N.links k x hx2.out
            have e3 : (flat ((N.links.map encLink).set k (encShut x))).length = N.links.length * 4 := by
              rw [← e2]; simp only [List.length_append, List.length_cons, List.length_take, List.length_drop, hfl]; omega
            rw [List.length_set, List.length_map] at e1
            simp only [List.map_cons, List.map_nil, fzT, fz]
            rw [if_pos ⟨by trivial, by rw [e3]; omega, by simp⟩, List.drop_zero, e1]
          rw [hargs, upd_upd]
          refine call_weak (args' := [.agg [iv .i64 N.st, .fslc false false 4 ((N.links.set k (shutL x)).map encLink)], iv .i64 s, iv .i64 t]) (fun G vs hv => ?_) ?_
          · simp only [RvL, Rv] at hv ⊢
            obtain ⟨v, vr, e, ⟨us, e2, u1, r1, f1, g1, u2, r2, f2, ⟨aa, cap, k1, k2, k3, k4, k5⟩, f3⟩, hv2⟩ := hv
            refine ⟨v, vr, e, ⟨us, e2, u1, r1, f1, g1, u2, r2, f2, ⟨aa, cap, ?_, ?_, by simp, by simp, fun _ => ?_⟩, f3⟩, hv2⟩
            · rw [k1]; simp
            · simpa using k2
            · obtain ⟨ad, p, q⟩ := k5 trivial
              exact ⟨ad, p, shut_rel _ _ _ _ hx2.out q⟩
          refine APure.call harr2.out ?_
          repeat' (first
            | (refine ac_seq_h fun K hK => ?_)
            | (refine ac_region_h fun K hK => ?_; simp (disch := omega) [go_sem, *, wrap64_id])
            | (refine ac_draw_h mixed (by kernel_rfl) fun K hK => ?_; simp (disch := omega) [go_sem, *])
            | (apply Hide.out hK; clear hK K; try with_reducible dsimp only [thenA])
            | (apply Hide.out ht; clear ht hf Kt Kf)
            | (apply Hide.out hf; clear ht hf Kt Kf)
            | (clear hK K; apply Hide.out hK; clear hK K; try with_reducible dsimp only [thenA])
            | (clear hK K; clear hK K; apply Hide.out hK; clear hK K; try with_reducible dsimp only [thenA])
            | (refine ac_block ?_)
            | (refine ac_skip ?_; simp only [thenA, blockA])
            | (refine ac_exit ?_; simp only [thenA, blockA, if_true, if_false, Nat.reduceEqDiff])
            | (with_reducible show nextK _ _ _ _ _ _ _; simp (disch := omega) [go_sem, *])
            | (refine wantK_split (fun hc => ?_) (fun hc => ?_) <;> (try simp only [Bool.not_eq_true', Bool.not_eq_false', Bool.not_eq_eq_eq_not, Bool.not_true, Bool.not_false, decide_eq_true_eq, decide_eq_false_iff_not, Int.not_lt, Int.not_le] at hc) <;> (try (exfalso; omega)) <;> (try simp (disch := omega) [go_sem, *, wrap64_id, upd_ne, mk3_true, flatten_replicate_one, stepK_if, ilt_true, ilt_false, ile_true, ile_false, Try.ntmps29]))
            | (refine ac_cond_h fun Kt Kf ht hf => ?_; simp (disch := omega) [go_sem, *]; try (refine ⟨fun hc => ?_, fun hc => ?_⟩ <;> try (exfalso; omega))))
          · have hne : needAt N s to t k = true := by rw [hnk.out]; simpa using hc
            have hnx := hnext.out
            rw [if_pos hne] at hnx
            have hac := hacc
            replace hnx : Hide _ := hnx
            clear hnext
            by_cases hz : (needTo N s to t k).length = 0
            · have hz2 : needTo N s to t k = [] := List.length_eq_zero_iff.1 hz
              rw [show V = .fslc true true 0 [] by rw [hV.out, accV, if_pos hz], ap_int_nil]
              have hHb : H = b := by rw [hH.out, accH, if_pos hz]
              replace hHb : Hide _ := hHb
              replace hz : Hide _ := hz
              replace hz2 : Hide _ := hz2
              simp only [stepK]
              repeat' (first
                | (refine ac_seq_h fun K hK => ?_)
                | (refine ac_region_h fun K hK => ?_; simp (disch := omega) [go_sem, *, wrap64_id])
                | (refine ac_draw_h mixed (by kernel_rfl) fun K hK => ?_; simp (disch := omega) [go_sem, *, wrap64_id, upd_ne, mk3_true, flatten_replicate_one, stepK_if, ilt_true, ilt_false, ile_true, ile_false, Try.ntmps29])
                | (apply Hide.out hK; clear hK K; try with_reducible dsimp only [thenA])
                | (apply Hide.out ht; clear ht hf Kt Kf)
                | (apply Hide.out hf; clear ht hf Kt Kf)
                | (clear hK K; apply Hide.out hK; clear hK K; try with_reducible dsimp only [thenA])
                | (clear hK K; clear hK K; apply Hide.out hK; clear hK K; try with_reducible dsimp only [thenA])
                | (refine ac_block ?_)
                | (refine ac_skip ?_; simp only [thenA, blockA])
                | (refine ac_exit ?_; simp only [thenA, blockA, if_true, if_false, Nat.reduceEqDiff])
                | (with_reducible show nextK _ _ _ _ _ _ _; simp (disch := omega) [go_sem, *])
                | (refine wantK_split (fun hc => ?_) (fun hc => ?_) <;> (try simp only [Bool.not_eq_true', Bool.not_eq_false', Bool.not_eq_eq_eq_not, Bool.not_true, Bool.not_false, decide_eq_true_eq, decide_eq_false_iff_not, Int.not_lt, Int.not_le] at hc) <;> (try (exfalso; omega)) <;> (try simp (disch := omega) [go_sem, *, wrap64_id, upd_ne, mk3_true, flatten_replicate_one, stepK_if, ilt_true, ilt_false, ile_true, ile_false, Try.ntmps29]))
                | (refine ac_cond_h fun Kt Kf ht hf => ?_; simp (disch := omega) [go_sem, *, wrap64_id, upd_ne, mk3_true, flatten_replicate_one, stepK_if, ilt_true, ilt_false, ile_true, ile_false, Try.ntmps29]; try (refine ⟨fun hc => ?_, fun hc => ?_⟩ <;> try (exfalso; omega))))
              have hnx := hnx.out
              rw [hz2.out] at hnx
              refine round_end (by simp [go_sem, hnx, accV]) ?_ ⟨_, n2 + 6 + 9 + 9 + 3, k + 1, by omega, by omega, by omega, rfl⟩ (by simp [intAt, go_sem]; omega)
              rw [hnx, accH_pos (by simp), hHb.out]
              refine Sub.both ?_ _ _
              repeat (first | exact Sub.refl _ | refine Sub.upd ?_ (hb0.out _ (by omega)) _)
            · rw [show V = .slc m 0 (needTo N s to t k).length 1 by rw [hV.out, accV, if_neg hz]]
              have hHb : H = b.upd m (some (.cells ((needTo N s to t k).map (iv .i64)))) := by rw [hH.out, accH, if_neg hz]
              rw [ap_int _ m (needTo N s to t k).length ((needTo N s to t k).map (iv .i64)) _ _ (by simp (disch := omega) only [upd_ne]; rw [hHb, upd_same]) (by simp) (by omega)]
              replace hHb : Hide _ := hHb
              replace hz : Hide _ := hz
              simp only [stepK]
              repeat' (first
                | (refine ac_seq_h fun K hK => ?_)
                | (refine ac_region_h fun K hK => ?_; simp (disch := omega) [go_sem, *, wrap64_id])
                | (refine ac_draw_h mixed (by kernel_rfl) fun K hK => ?_; simp (disch := omega) [go_sem, *, wrap64_id, upd_ne, mk3_true, flatten_replicate_one, stepK_if, ilt_true, ilt_false, ile_true, ile_false, Try.ntmps29])
                | (apply Hide.out hK; clear hK K; try with_reducible dsimp only [thenA])
                | (apply Hide.out ht; clear ht hf Kt Kf)
                | (apply Hide.out hf; clear ht hf Kt Kf)
                | (clear hK K; apply Hide.out hK; clear hK K; try with_reducible dsimp only [thenA])
                | (clear hK K; clear hK K; apply Hide.out hK; clear hK K; try with_reducible dsimp only [thenA])
                | (refine ac_block ?_)
                | (refine ac_skip ?_; simp only [thenA, blockA])
                | (refine ac_exit ?_; simp only [thenA, blockA, if_true, if_false, Nat.reduceEqDiff])
                | (with_reducible show nextK _ _ _ _ _ _ _; simp (disch := omega) [go_sem, *])
                | (refine wantK_split (fun hc => ?_) (fun hc => ?_) <;> (try simp only [Bool.not_eq_true', Bool.not_eq_false', Bool.not_eq_eq_eq_not, Bool.not_true, Bool.not_false, decide_eq_true_eq, decide_eq_false_iff_not, Int.not_lt, Int.not_le] at hc) <;> (try (exfalso; omega)) <;> (try simp (disch := omega) [go_sem, *, wrap64_id, upd_ne, mk3_true, flatten_replicate_one, stepK_if, ilt_true, ilt_false, ile_true, ile_false, Try.ntmps29]))
                | (refine ac_cond_h fun Kt Kf ht hf => ?_; simp (disch := omega) [go_sem, *, wrap64_id, upd_ne, mk3_true, flatten_replicate_one, stepK_if, ilt_true, ilt_false, ile_true, ile_false, Try.ntmps29]; try (refine ⟨fun hc => ?_, fun hc => ?_⟩ <;> try (exfalso; omega))))
              have hnx := hnx.out
              refine round_end (by simp [go_sem, hnx, accV]) ?_ ⟨_, n2 + 6 + 9 + 9 + 3, k + 1, by omega, by omega, by omega, rfl⟩ (by simp [intAt, go_sem]; omega)
              rw [hnx, accH_pos (by simp), hHb.out, List.map_append]
              refine Sub.both ?_ _ _
              repeat (first | exact Sub.refl _ | refine Sub.upd ?_ (hb0.out _ (by omega)) _)
          · have hne : needAt N s to t k = false := by rw [hnk.out]; simpa using hc
            have hnx := hnext.out
            rw [if_neg (by rw [hne]; simp)] at hnx
            refine round_end (by simp [go_sem, hnx, hV.out]) ?_ ⟨_, m, k + 1, by omega, by omega, by omega, rfl⟩ (by simp [intAt, go_sem]; omega)
            rw [hnx, ← hH.out]
            repeat (first | exact Sub.refl _ | refine Sub.upd ?_ (hH0.out _ (by omega)) _)
        · have hkl : k = N.links.length := by omega
          have hfin : Hide (needH N s to t 0 = needTo N s to t k) := by rw [Hide, needH, if_pos hwE.out, hkl]
          have hkl2 : (k : Int) = N.links.length := by omega
          replace hnext : Hide _ := hnext
          by_cases hz : (needTo N s to t k).length = 0
          · have hz2 : needTo N s to t k = [] := List.length_eq_zero_iff.1 hz
            have hV2 : V = .fslc true true 0 [] := by rw [hV, accV, if_pos hz]
            have hHb : H = b := by rw [hH, accH, if_pos hz]
            rw [hV2]
            replace hHb : Hide _ := hHb
            replace hz2 : Hide _ := hz2
            clear hV2 hV hH hz hkl hkl2
            repeat' (first
              | (refine ac_seq_h fun K hK => ?_)
              | (refine ac_region_h fun K hK => ?_; simp (disch := omega) [go_sem, *, ilt_false])
              | (refine ac_draw_h mixed (by kernel_rfl) fun K hK => ?_; simp (disch := omega) [go_sem, *, wrap64_id, upd_ne, mk3_true, flatten_replicate_one, stepK_if, ilt_true, ilt_false, ile_true, ile_false, Try.ntmps29])
              | (apply Hide.out hK; clear hK K; try with_reducible dsimp only [thenA])
              | (apply Hide.out ht; clear ht hf Kt Kf)
              | (apply Hide.out hf; clear ht hf Kt Kf)
              | (clear hK K; apply Hide.out hK; clear hK K; try with_reducible dsimp only [thenA])
              | (clear hK K; clear hK K; apply Hide.out hK; clear hK K; try with_reducible dsimp only [thenA])
              | (refine ac_block ?_)
              | (refine ac_skip ?_; simp only [thenA, blockA])
              | (refine ac_exit ?_; simp only [thenA, blockA, if_true])
              | (with_reducible show nextK _ _ _ _ _ _ _; simp (disch := omega) [go_sem, *, wrap64_id, upd_ne, mk3_true, flatten_replicate_one, stepK_if, ilt_true, ilt_false, ile_true, ile_false, Try.ntmps29])
              | (refine wantK_split (fun hc => ?_) (fun hc => ?_) <;> (try simp only [Bool.not_eq_true', Bool.not_eq_false', Bool.not_eq_eq_eq_not, Bool.not_true, Bool.not_false, decide_eq_true_eq, decide_eq_false_iff_not, Int.not_lt, Int.not_le] at hc) <;> (try (exfalso; omega)) <;> (try simp (disch := omega) [go_sem, *, wrap64_id, upd_ne, mk3_true, flatten_replicate_one, stepK_if, ilt_true, ilt_false, ile_true, ile_false, Try.ntmps29]))
              | (refine ac_cond_h fun Kt Kf ht hf => ?_; simp (disch := omega) [go_sem, *]; try (refine ⟨fun hc => ?_, fun hc => ?_⟩ <;> try (exfalso; omega))))
            refine ac_ret ?_
            refine ⟨by simp, _, rfl, ?_⟩
            refine ret_id ⟨fun k hk => by show H k = h k; rw [hHb.out, hbb.out, upd_ne _ _ _ _ (by omega)], by simp [go_sem, resVal, below, belowL], ?_, by simp, by simp⟩
            rw [hE, hfin.out, hz2.out, hwE.out]; rfl
          · have hV2 : V = .slc m 0 (needTo N s to t k).length 1 := by rw [hV, accV, if_neg hz]
            have hHb : H = b.upd m (some (.cells ((needTo N s to t k).map (iv .i64)))) := by rw [hH, accH, if_neg hz]
            rw [hV2]
            replace hHb : Hide _ := hHb
            replace hz : Hide _ := hz
            clear hV2 hV hH hkl hkl2
            repeat' (first
              | (refine ac_seq_h fun K hK => ?_)
              | (refine ac_region_h fun K hK => ?_; simp (disch := omega) [go_sem, *, ilt_false])
              | (refine ac_draw_h mixed (by kernel_rfl) fun K hK => ?_; simp (disch := omega) [go_sem, *, wrap64_id, upd_ne, mk3_true, flatten_replicate_one, stepK_if, ilt_true, ilt_false, ile_true, ile_false, Try.ntmps29])
              | (apply Hide.out hK; clear hK K; try with_reducible dsimp only [thenA])
              | (apply Hide.out ht; clear ht hf Kt Kf)
              | (apply Hide.out hf; clear ht hf Kt Kf)
              | (clear hK K; apply Hide.out hK; clear hK K; try with_reducible dsimp only [thenA])
              | (clear hK K; clear hK K; apply Hide.out hK; clear hK K; try with_reducible dsimp only [thenA])
              | (refine ac_block ?_)
              | (refine ac_skip ?_; simp only [thenA, blockA])
              | (refine ac_exit ?_; simp only [thenA, blockA, if_true])
              | (with_reducible show nextK _ _ _ _ _ _ _; simp (disch := omega) [go_sem, *, wrap64_id, upd_ne, mk3_true, flatten_replicate_one, stepK_if, ilt_true, ilt_false, ile_true, ile_false, Try.ntmps29])
              | (refine wantK_split (fun hc => ?_) (fun hc => ?_) <;> (try simp only [Bool.not_eq_true', Bool.not_eq_false', Bool.not_eq_eq_eq_not, Bool.not_true, Bool.not_false, decide_eq_true_eq, decide_eq_false_iff_not, Int.not_lt, Int.not_le] at hc) <;> (try (exfalso; omega)) <;> (try simp (disch := omega) [go_sem, *, wrap64_id, upd_ne, mk3_true, flatten_replicate_one, stepK_if, ilt_true, ilt_false, ile_true, ile_false, Try.ntmps29]))
              | (refine ac_cond_h fun Kt Kf ht hf => ?_; simp (disch := omega) [go_sem, *]; try (refine ⟨fun hc => ?_, fun hc => ?_⟩ <;> try (exfalso; omega))))
            refine ac_ret ?_
            refine ⟨by simp, _, rfl, ?_⟩
            refine ret_freeze false (m := m) (c := (needTo N s to t k).map (iv .i64)) (by show H m = _; rw [hHb.out, upd_same]) ?_
            have fzv : fzT m ((needTo N s to t k).map (iv .i64)) false (.tup [.slc m 0 (needTo N s to t k).length 1, iv .i64 0]) = .tup [.fslc false false 1 ((needTo N s to t k).map (iv .i64)), iv .i64 0] := by
              simp only [fzT, List.map_cons, List.map_nil, fz]
              rw [if_pos ⟨by trivial, by simp, by simp⟩, List.drop_zero, elems_ints]
            show RetOk _ _ (fzT m ((needTo N s to t k).map (iv .i64)) false (.tup [.slc m 0 (needTo N s to t k).length 1, iv .i64 0])) _ _
            rw [fzv]
            refine ret_id ⟨fun k hk => ?_, ?_, ?_, by simp, by simp⟩
            · show (H.upd m none) k = h k
              rw [hHb.out, upd_upd, upd_ne _ _ _ _ (by omega), hbb.out, upd_ne _ _ _ _ (by omega)]
            · simp [below, belowL, belowL_iff]
            · rw [hE, hfin.out, hwE.out, neV, if_neg hz.out]
  · skip
    repeat' (first
      | (refine ac_seq_h fun K hK => ?_)
      | (refine ac_region_h fun K hK => ?_; simp (disch := omega) [go_sem, *, Try.ntmps29 ])
      | (refine ac_draw_h mixed (by kernel_rfl) fun K hK => ?_; simp (disch := omega) [go_sem, *, wrap64_id, upd_ne, mk3_true, flatten_replicate_one, stepK_if, ilt_true, ilt_false, ile_true, ile_false, Try.ntmps29 ])
      | (apply Hide.out hK; clear hK K; try with_reducible dsimp only [thenA])
      | (apply Hide.out ht; clear ht hf Kt Kf)
      | (apply Hide.out hf; clear ht hf Kt Kf)
      | (clear hK K; apply Hide.out hK; clear hK K; try with_reducible dsimp only [thenA])
      | (clear hK K; clear hK K; apply Hide.out hK; clear hK K; try with_reducible dsimp only [thenA])
      | (with_reducible refine APure.call (hasked) ?_; try simp (disch := omega) [go_sem, * ])
      | (refine ac_block ?_)
      | (refine ac_skip ?_; simp only [thenA, blockA])
      | (refine ac_exit ?_; simp only [thenA, blockA, if_true, if_false, Nat.reduceEqDiff])
      | (with_reducible show nextK _ _ _ _ _ _ _; simp (disch := omega) [go_sem, *, wrap64_id, upd_ne, mk3_true, flatten_replicate_one, stepK_if, ilt_true, ilt_false, ile_true, ile_false, Try.ntmps29 ])
      | (refine wantK_split (fun hc => ?_) (fun hc => ?_) <;> (try simp only [Bool.not_eq_true', Bool.not_eq_false', Bool.not_eq_eq_eq_not, Bool.not_true, Bool.not_false, decide_eq_true_eq, decide_eq_false_iff_not, Int.not_lt, Int.not_le] at hc) <;> (try (exfalso; omega)) <;> (try simp (disch := omega) [go_sem, *, wrap64_id, upd_ne, mk3_true, flatten_replicate_one, stepK_if, ilt_true, ilt_false, ile_true, ile_false, Try.ntmps29 ]))
      | (refine ac_cond_h fun Kt Kf ht hf => ?_; simp (disch := omega) [go_sem, * ]; try (refine ⟨fun hc => ?_, fun hc => ?_⟩ <;> try (exfalso; omega))))
    (refine ac_ret ?_; try dsimp only [thenA, blockA]; refine ⟨by simp, _, (by first | rfl | (simp (disch := omega) [go_sem, upd_ne] <;> rfl)), ?_⟩; refine ret_id ⟨fun k hk => (by first | rfl | (repeat rw [upd_ne _ _ _ _ (by omega)])), (by simp [go_sem, below, belowL]), (by simp [go_sem, hE, wayE, needH, neV] <;> omega), by simp, by simp⟩)
end Go.AM

namespace Go.AM
open Go.Proofs Nets
set_option maxRecDepth 10000
set_option maxHeartbeats 4000000
def exL0 : Link := ⟨0, 1, 5, false, [⟨0, 20⟩, ⟨100, 200⟩]⟩
def exL1 : Link := ⟨1, 2, 10, false, [⟨12, 40⟩]⟩
def exL2 : Link := ⟨0, 2, 50, false, [⟨0, 60⟩]⟩
def exNet : Net := ⟨3, false, [exL0, exL1, exL2]⟩
theorem example_spec : APure Try.prog 34 [] (encNet exNet) := by
  intro h n
  refine ACalls.pure (ACalls.entry (by kernel_rfl) fun hb _ => calls_of Try.func34 rfl (by kernel_rfl) (by simp [Try.ntmps34]) ?_)
  repeat' (first
    | (refine ac_seq_h fun K hK => ?_)
    | (refine ac_region_h fun K hK => ?_; simp (disch := omega) [go_sem, *, Try.ntmps34])
    | (refine ac_draw_h mixed (by kernel_rfl) fun K hK => ?_; simp (disch := omega) [go_sem, *, wrap64_id, upd_ne, mk3_true, flatten_replicate_one, stepK_if, ilt_true, ilt_false, ile_true, ile_false, Try.ntmps34])
    | (apply Hide.out hK; clear hK K; try with_reducible dsimp only [thenA])
    | (apply Hide.out ht; clear ht hf Kt Kf)
    | (apply Hide.out hf; clear ht hf Kt Kf)
    | (clear hK K; apply Hide.out hK; clear hK K; try with_reducible dsimp only [thenA])
    | (clear hK K; clear hK K; apply Hide.out hK; clear hK K; try with_reducible dsimp only [thenA])
    | (refine ac_block ?_)
    | (refine ac_skip ?_; simp only [thenA, blockA])
    | (refine ac_exit ?_; simp only [thenA, blockA, if_true, if_false, Nat.reduceEqDiff])
    | (with_reducible show nextK _ _ _ _ _ _ _; simp (disch := omega) [go_sem, *, wrap64_id, upd_ne, mk3_true, flatten_replicate_one, stepK_if, ilt_true, ilt_false, ile_true, ile_false, Try.ntmps34])
    | (refine wantK_split (fun hc => ?_) (fun hc => ?_) <;> (try simp only [Bool.not_eq_true', Bool.not_eq_false', Bool.not_eq_eq_eq_not, Bool.not_true, Bool.not_false, decide_eq_true_eq, decide_eq_false_iff_not, Int.not_lt, Int.not_le] at hc) <;> (try (exfalso; omega)) <;> (try simp (disch := omega) [go_sem, *, wrap64_id, upd_ne, mk3_true, flatten_replicate_one, stepK_if, ilt_true, ilt_false, ile_true, ile_false, Try.ntmps34]))
    | (refine ac_cond_h fun Kt Kf ht hf => ?_; simp (disch := omega) [go_sem, *, wrap64_id, upd_ne, mk3_true, flatten_replicate_one, stepK_if, ilt_true, ilt_false, ile_true, ile_false, Try.ntmps34]; try (refine ⟨fun hc => ?_, fun hc => ?_⟩ <;> try (exfalso; omega))))
  (refine ac_ret ?_; try dsimp only [thenA, blockA]; refine ⟨by simp, _, (by first | rfl | (simp (disch := omega) [go_sem] <;> rfl)), ?_⟩; refine ret_id ⟨fun k hk => (by first | rfl | (repeat rw [upd_ne _ _ _ _ (by omega)])), (by simp [go_sem, below, belowL]), (by simp [go_sem, exNet, exL0, exL1, exL2] <;> omega), by simp, by simp⟩)
theorem ex_leave : leave exL0 16 = (100, true) := by decide
theorem ex_last : last exL0 30 = (15, true) := by decide
theorem ex_check : checkE exNet = 0 := by decide
theorem ex_asked1 : askedE exNet 16 [0] = 0 := by decide
theorem ex_asked2 : askedE exNet 60 [2] = 0 := by decide
theorem ex_asked3 : askedE exNet 3 [0, 2] = 0 := by decide
theorem ex_asked4 : askedE exNet 3 [0] = 0 := by decide
theorem ex_early : (arrP exNet 0 16).out = [16, 105, -1] := by rw [arr_eq ex_check (by decide) (by decide) (by decide) (by decide)]; decide
theorem ex_late : (lateP exNet 2 60).out = [15, 30, 60] := by rw [late_eq ex_check (by decide) (by decide) (by decide) (by decide)]; decide
theorem ex_run (F : Nat) : runP 0 exNet.links (F + 3) (startP 3 0 3) = ⟨[3, 8, 22], [⟨0, 0⟩, ⟨0, 3⟩, ⟨1, 12⟩], false⟩ := by rfl
theorem ex_arr : arrP exNet 0 3 = ⟨[3, 8, 22], [⟨0, 0⟩, ⟨0, 3⟩, ⟨1, 12⟩], false⟩ := by
  rw [arrP, show meas (startR exNet.st.toNat 0 3) + 1 = 4194305 + 3 by decide]; exact ex_run _
theorem ex_wayE : wayE exNet 0 2 3 0 = 0 := by rw [wayE, ex_arr]; decide
theorem ex_way : wayH exNet 0 2 3 0 = [⟨0, 3⟩, ⟨1, 12⟩] := by
  rw [wayH, if_pos ex_wayE, wayP, ex_arr]; rfl
theorem ex_checkWay : checkWay exNet 0 2 3 0 [⟨0, 3⟩, ⟨1, 12⟩] = (22, 0) := by decide
theorem ex_need : needH exNet 0 2 3 0 = [0, 1] := by
  have h : ∀ k, k < 3 → checkE (shutN exNet k) = 0 := by decide
  rw [needH, if_pos ex_wayE, needTo, show exNet.links.length = 3 from rfl, List.filter_congr (q := fun k => decide (at' (earlR (shutN exNet k) 0 3) 2 ≠ 22)) fun k hk => ?_]
  · decide
  · rw [needAt, arr_eq (h k (by simpa using hk)) (by decide) (show (0 : Int) < 3 by decide) (by decide) (by decide), ex_arr]; rfl
theorem ex_b1 : checkBounds exNet 0 3 0 [3, 8, 22] = 0 := by decide
theorem ex_b2 : checkBounds exNet 0 3 0 [3, 8, 23] = 8 := by decide
theorem nets_spec : APure Try.prog 11 [] (bv true) := by
  intro h n
  refine ACalls.pure (ACalls.entry (by kernel_rfl) fun hb _ => calls_of Try.func11 rfl (by kernel_rfl) (by simp [Try.ntmps11]) ?_)
  have c12 : APure Try.prog 12 [encLink exL0, iv .i64 16] (.tup [iv .i64 100, bv true]) := by have := leave_spec exL0 16; rw [ex_leave] at this; exact this
  have c14 : APure Try.prog 14 [encLink exL0, iv .i64 30] (.tup [iv .i64 15, bv true]) := by have := last_spec exL0 30; rw [ex_last] at this; exact this
  have c18 : APure Try.prog 18 [encNet exNet, iv .i64 0, iv .i64 16] (.tup [.fslc false false 1 [iv .i64 16, iv .i64 105, iv .i64 (-1)], iv .i64 0]) := by have := earliest_spec exNet 0 16; rw [ex_asked1, ex_early] at this; exact this
  have c20 : APure Try.prog 20 [encNet exNet, iv .i64 2, iv .i64 60] (.tup [.fslc false false 1 [iv .i64 15, iv .i64 30, iv .i64 60], iv .i64 0]) := by have := latest_spec exNet 2 60; rw [ex_asked2, ex_late] at this; exact this
  have c23 : APure Try.prog 23 [encNet exNet, iv .i64 0, iv .i64 2, iv .i64 3] (.tup [.fslc false false 2 [encHop ⟨0, 3⟩, encHop ⟨1, 12⟩], iv .i64 0]) := by have := way_spec exNet 0 2 3; rw [ex_asked3, ex_way, ex_wayE] at this; exact this
  have c26 : APure Try.prog 26 [encNet exNet, iv .i64 0, iv .i64 2, iv .i64 3, .fslc false false 2 [encHop ⟨0, 3⟩, encHop ⟨1, 12⟩]] (.tup [iv .i64 22, iv .i64 0]) := by have := checkWay_spec exNet 0 2 3 false false [⟨0, 3⟩, ⟨1, 12⟩] (by decide); rw [ex_asked3, ex_checkWay] at this; exact this
  have c29 : APure Try.prog 29 [encNet exNet, iv .i64 0, iv .i64 2, iv .i64 3] (.tup [.fslc false false 1 [iv .i64 0, iv .i64 1], iv .i64 0]) := by have := needed_spec exNet 0 2 3 (by decide); rw [ex_asked3, ex_need, ex_wayE] at this; exact this
  have c22a : APure Try.prog 22 [.fslc false false 1 [iv .i64 16, iv .i64 105, iv .i64 (-1)], .fslc false false 1 [iv .i64 16, iv .i64 105, iv .i64 (-1)]] (bv true) := sameInts_spec false false false false 1 1 [16, 105, -1] [16, 105, -1] (by decide) (by simp) (by simp)
  have c22b : APure Try.prog 22 [.fslc false false 1 [iv .i64 15, iv .i64 30, iv .i64 60], .fslc false false 1 [iv .i64 15, iv .i64 30, iv .i64 60]] (bv true) := sameInts_spec false false false false 1 1 [15, 30, 60] [15, 30, 60] (by decide) (by simp) (by simp)
  have c22c : APure Try.prog 22 [.fslc false false 1 [iv .i64 0, iv .i64 1], .fslc false false 1 [iv .i64 0, iv .i64 1]] (bv true) := sameInts_spec false false false false 1 1 [0, 1] [0, 1] (by decide) (by simp) (by simp)
  have c27a : APure Try.prog 27 [encNet exNet, iv .i64 0, iv .i64 3, .fslc false false 1 [iv .i64 3, iv .i64 8, iv .i64 22]] (iv .i64 0) := by have := checkBounds_spec exNet 0 3 false [3, 8, 22] (by decide); rw [ex_asked4, ex_b1] at this; exact this
  have c27b : APure Try.prog 27 [encNet exNet, iv .i64 0, iv .i64 3, .fslc false false 1 [iv .i64 3, iv .i64 8, iv .i64 23]] (iv .i64 8) := by have := checkBounds_spec exNet 0 3 false [3, 8, 23] (by decide); rw [ex_asked4, ex_b2] at this; exact this
  have l1 : exNet.links.length = 3 := rfl
  have l2 : exNet.links[0] = exL0 := rfl
  have l3 : exNet.links[0]? = some exL0 := rfl
  repeat' (first
    | (refine ac_seq_h fun K hK => ?_)
    | (refine ac_region_h fun K hK => ?_; simp (disch := omega) [go_sem, *, Try.ntmps11 ])
    | (refine ac_draw_h mixed (by kernel_rfl) fun K hK => ?_; simp (disch := omega) [go_sem, *, wrap64_id, upd_ne, mk3_true, flatten_replicate_one, stepK_if, ilt_true, ilt_false, ile_true, ile_false, Try.ntmps11 ])
    | (apply Hide.out hK; clear hK K; try with_reducible dsimp only [thenA])
    | (apply Hide.out ht; clear ht hf Kt Kf)
    | (apply Hide.out hf; clear ht hf Kt Kf)
    | (clear hK K; apply Hide.out hK; clear hK K; try with_reducible dsimp only [thenA])
    | (clear hK K; clear hK K; apply Hide.out hK; clear hK K; try with_reducible dsimp only [thenA])
    | (with_reducible refine APure.call (example_spec) ?_; try simp (disch := omega) [go_sem, * ])
    | (with_reducible refine APure.call (c12) ?_; try simp (disch := omega) [go_sem, * ])
    | (with_reducible refine APure.call (c14) ?_; try simp (disch := omega) [go_sem, * ])
    | (with_reducible refine APure.call (c18) ?_; try simp (disch := omega) [go_sem, * ])
    | (with_reducible refine APure.call (c20) ?_; try simp (disch := omega) [go_sem, * ])
    | (with_reducible refine APure.call (c23) ?_; try simp (disch := omega) [go_sem, * ])
    | (with_reducible refine APure.call (c26) ?_; try simp (disch := omega) [go_sem, * ])
    | (with_reducible refine APure.call (c29) ?_; try simp (disch := omega) [go_sem, * ])
    | (with_reducible refine APure.call (c22a) ?_; try simp (disch := omega) [go_sem, * ])
    | (with_reducible refine APure.call (c22b) ?_; try simp (disch := omega) [go_sem, * ])
    | (with_reducible refine APure.call (c22c) ?_; try simp (disch := omega) [go_sem, * ])
    | (with_reducible refine APure.call (c27a) ?_; try simp (disch := omega) [go_sem, * ])
    | (with_reducible refine APure.call (c27b) ?_; try simp (disch := omega) [go_sem, * ])
    | (refine ac_block ?_)
    | (refine ac_skip ?_; simp only [thenA, blockA])
    | (refine ac_exit ?_; simp only [thenA, blockA, if_true, if_false, Nat.reduceEqDiff])
    | (with_reducible show nextK _ _ _ _ _ _ _; simp (disch := omega) [go_sem, *, wrap64_id, upd_ne, mk3_true, flatten_replicate_one, stepK_if, ilt_true, ilt_false, ile_true, ile_false, Try.ntmps11 ])
    | (refine wantK_split (fun hc => ?_) (fun hc => ?_) <;> (try simp only [Bool.not_eq_true', Bool.not_eq_false', Bool.not_eq_eq_eq_not, Bool.not_true, Bool.not_false, decide_eq_true_eq, decide_eq_false_iff_not, Int.not_lt, Int.not_le] at hc) <;> (try (exfalso; omega)) <;> (try simp (disch := omega) [go_sem, *, wrap64_id, upd_ne, mk3_true, flatten_replicate_one, stepK_if, ilt_true, ilt_false, ile_true, ile_false, Try.ntmps11 ]))
    | (refine ac_cond_h fun Kt Kf ht hf => ?_; simp (disch := omega) [go_sem, *, wrap64_id, upd_ne, mk3_true, flatten_replicate_one, stepK_if, ilt_true, ilt_false, ile_true, ile_false, Try.ntmps11 ]; try (refine ⟨fun hc => ?_, fun hc => ?_⟩ <;> try (exfalso; omega))))
  (refine ac_ret ?_; try dsimp only [thenA, blockA]; refine ⟨by simp, _, (by first | rfl | (simp (disch := omega) [go_sem, upd_ne] <;> rfl)), ?_⟩; refine ret_id ⟨fun k hk => (by first | rfl | (repeat rw [upd_ne _ _ _ _ (by omega)])), (by simp [go_sem, below]), (by simp [go_sem] <;> omega), by simp, by simp⟩)
end Go.AM
