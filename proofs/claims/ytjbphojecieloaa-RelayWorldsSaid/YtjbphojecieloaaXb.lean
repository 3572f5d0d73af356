/- Walks: the specification's say and tick. Conditions: as each theorem says. -/
import Derived.Test.YtjbphojecieloaaXa
namespace Go.AM
open Go.Proofs Wl
set_option maxRecDepth 10000
set_option maxHeartbeats 4000000
theorem ty40 : eltOf Try.prog 40 = some 9 ∧ szOf Try.prog 9 = some 1 ∧ byOf Try.prog 9 = some 16 ∧ zerOf Try.prog 9 = some (sv ByteArray.empty) := ⟨by kernel_rfl, by kernel_rfl, by kernel_rfl, by kernel_rfl⟩
theorem fzDL_id (m : Nat) (c : List AV) (agg : Bool) : ∀ (l : List AV), (∀ x ∈ l, fzD m c agg x = x) → fzDL m c agg l = l
  | [], _ => rfl
  | x :: r, h => by simp only [fzDL]; rw [h x (by simp), fzDL_id m c agg r fun y hy => h y (by simp [hy])]
theorem fzDL_app (m : Nat) (c : List AV) (agg : Bool) : ∀ (l r : List AV), fzDL m c agg (l ++ r) = fzDL m c agg l ++ fzDL m c agg r
  | [], _ => rfl
  | x :: l, r => by simp only [List.cons_append, fzDL, fzDL_app m c agg l r]
section
variable {w : Wd} {p t : Nat} {V : AV} {T : Nat → Nat → AV} {h : AHeap}
theorem rows_id (R : RRep w p t V T h) (m : Nat) (c : List AV) (agg : Bool) : ∀ x ∈ flatT w T, fzD m c agg x = x := by
  intro x hx
  simp only [flatT, List.mem_flatMap, rowC] at hx
  obtain ⟨q, hq, hx⟩ := hx
  have hq2 := mem_grid.1 (show (q.1, q.2) ∈ grid w.st from hq)
  obtain ⟨a1, a2, a3, a4, _⟩ := R.tv q.1 q.2 hq2.1 hq2.2
  simp only [List.mem_cons, List.not_mem_nil, or_false] at hx
  rcases hx with rfl | rfl | rfl | rfl
  · rw [a4]; simp only [fzD]
  · simp only [fzD]
  · simp only [fzD]
  · simp only [fzD]
theorem RTurn.up {w' : Wd} {h' : AHeap} {n n' n2 : Nat} (X : RTurn w' p t h n h' n') (hn : n' ≤ n2) : RTurn w' p t h n h' n2 := by
  obtain ⟨V, T, R, a, b⟩ := X
  exact ⟨V, T, R, by omega, b⟩
theorem fz_row {m k : Nat} {L : List ByteArray} {pre post : List AV} {a b c : Int} (hk : L.length = k) (hpre : ∀ x ∈ pre, fzD m (flat (L.map sv)) false x = x) (hpost : ∀ x ∈ post, fzD m (flat (L.map sv)) false x = x) :
    fzDL m (flat (L.map sv)) false (pre ++ .slc m 0 k 1 :: iv .i64 a :: iv .i64 b :: iv .i64 c :: post) = pre ++ .fslc false false 1 (L.map sv) :: iv .i64 a :: iv .i64 b :: iv .i64 c :: post := by
  subst hk
  rw [fzDL_app, fzDL_id _ _ _ pre hpre]
  simp only [fzDL]
  rw [fzDL_id _ _ _ post hpost]
  have hel := elems_svs L
  have hfl := flat_svs L
  simp only [fzD]
  rw [if_pos ⟨trivial, by rw [hfl, List.length_map]; omega, fun _ => trivial⟩, List.drop_zero, hfl, hel]
theorem say_ref (R : RRep w p t V T h) (hw : Wok w) (h1 : w.last ≤ 1000000000000) (s : Step) (n : Nat) (hpn : p < n) (htn : t < n) (K0 : AV → AHeap → Nat → Prop)
    (hK0 : ∀ h' n', RTurn (sayW w s).1 p t h n h' n' → K0 (iv .i64 (sayW w s).2) h' n') : ACalls Try.prog 33 [.ptr p 0, encStep s] h n K0 := by
  refine ACalls.entry (by kernel_rfl) fun hb _ => calls_of Try.func33 rfl (by kernel_rfl) (by simp [Try.ntmps33]) ?_
  have hd := R.hd
  have hne := R.ne
  have hne' : t ≠ p := fun e => R.ne e.symm
  have s1 := hw.s1
  have w0 := hw.w0; have w1 := hw.w1; have t0 := hw.t0; have t1 := hw.t1; have l0 := hw.l0; have ml := hw.ml
  have c1 := fun h' (R' : RRep w p t V T h') k => pair_ref R' s1 s.a s.b k
  replace hK0 : Hide _ := hK0
  have hidr := rows_id R
  obtain ⟨sk, sa, sb, sn, sx⟩ := s
  have c3 := fun h' (R' : RRep w p t V T h') k => room_ref R' (by omega) k
  replace c1 : Hide _ := c1; replace c3 : Hide _ := c3
  cases hP : isPair w sa sb
  · have hs : Hide (sayW w ⟨sk, sa, sb, sn, sx⟩ = (w, 1)) := by
      show sayW w _ = _
      rw [sayW, if_pos (.inl hP)]
    rw [hs.out] at hK0
    replace hK0 : Hide _ := hK0; replace R : Hide _ := R; replace hidr : Hide _ := hidr
    repeat' (first | (refine ac_seq_h fun K hK => ?_) | (refine ac_region_h fun K hK => ?_; simp (disch := omega) [go_sem, *, Try.ntmps33]) | (refine ac_draw_h mixed (by kernel_rfl) fun K hK => ?_; simp (disch := omega) [go_sem, *, wrap64_id, upd_ne, mk3_true, flatten_replicate_one, stepK_if, ilt_true, ilt_false, ile_true, ile_false, Try.ntmps33]) | (apply Hide.out hK; clear hK K; try with_reducible dsimp only [thenA]) | (apply Hide.out ht; clear ht hf Kt Kf) | (apply Hide.out hf; clear ht hf Kt Kf) | (clear hK K; apply Hide.out hK; clear hK K; try with_reducible dsimp only [thenA]) | (clear hK K; clear hK K; apply Hide.out hK; clear hK K; try with_reducible dsimp only [thenA]) | (refine ac_block ?_) | (refine ac_skip ?_; simp only [thenA, blockA]) | (refine ac_exit ?_; simp only [thenA, blockA, if_true, if_false, Nat.reduceEqDiff]) | (with_reducible show nextK _ _ _ _ _ _ _; simp (disch := omega) [go_sem, *, wrap64_id, upd_ne, mk3_true, flatten_replicate_one, stepK_if, ilt_true, ilt_false, ile_true, ile_false, Try.ntmps33]) | (refine wantK_split (fun hc => ?_) (fun hc => ?_) <;> (try simp only [Bool.not_eq_true', Bool.not_eq_false', Bool.not_eq_eq_eq_not, Bool.not_true, Bool.not_false, decide_eq_true_eq, decide_eq_false_iff_not, Int.not_lt, Int.not_le] at hc) <;> (try (exfalso; omega)) <;> (try simp (disch := omega) [go_sem, *, wrap64_id, upd_ne, mk3_true, flatten_replicate_one, stepK_if, ilt_true, ilt_false, ile_true, ile_false, Try.ntmps33])) | (refine ac_cond_h fun Kt Kf ht hf => ?_; simp (disch := omega) [go_sem, *, wrap64_id, upd_ne, mk3_true, flatten_replicate_one, stepK_if, ilt_true, ilt_false, ile_true, ile_false, Try.ntmps33]; try (refine ⟨fun hc => ?_, fun hc => ?_⟩ <;> try (exfalso; omega))))
    refine APureAt.call (c1.out _ (R.out.congr (by simp (disch := omega) only [upd_ne]) (by simp (disch := omega) only [upd_ne])) _) ?_
    simp only [hP]
    replace hP : Hide _ := hP
    repeat' (first | (refine ac_seq_h fun K hK => ?_) | (refine ac_region_h fun K hK => ?_; simp (disch := omega) [go_sem, *]) | (refine ac_draw_h mixed (by kernel_rfl) fun K hK => ?_; simp (disch := omega) [go_sem, *, wrap64_id, upd_ne, mk3_true, flatten_replicate_one, stepK_if, ilt_true, ilt_false, ile_true, ile_false, Try.ntmps33]) | (apply Hide.out hK; clear hK K; try with_reducible dsimp only [thenA]) | (apply Hide.out ht; clear ht hf Kt Kf) | (apply Hide.out hf; clear ht hf Kt Kf) | (clear hK K; apply Hide.out hK; clear hK K; try with_reducible dsimp only [thenA]) | (clear hK K; clear hK K; apply Hide.out hK; clear hK K; try with_reducible dsimp only [thenA]) | (refine ac_block ?_) | (refine ac_skip ?_; simp only [thenA, blockA]) | (refine ac_exit ?_; simp only [thenA, blockA, if_true, if_false, Nat.reduceEqDiff]) | (with_reducible show nextK _ _ _ _ _ _ _; simp (disch := omega) [go_sem, *]) | (refine wantK_split (fun hc => ?_) (fun hc => ?_) <;> (try simp only [Bool.not_eq_true', Bool.not_eq_false', Bool.not_eq_eq_eq_not, Bool.not_true, Bool.not_false, decide_eq_true_eq, decide_eq_false_iff_not, Int.not_lt, Int.not_le] at hc) <;> (try (exfalso; omega)) <;> (try simp (disch := omega) [go_sem, *, wrap64_id, upd_ne, mk3_true, flatten_replicate_one, stepK_if, ilt_true, ilt_false, ile_true, ile_false, Try.ntmps33])) | (refine ac_cond_h fun Kt Kf ht hf => ?_; simp (disch := omega) [go_sem, *]; try (refine ⟨fun hc => ?_, fun hc => ?_⟩ <;> try (exfalso; omega))))
    refine ac_ret ?_
    refine ⟨by simp, _, (by simp (disch := omega) [go_sem] <;> rfl), ?_⟩
    refine ret_id (hK0.out _ _ (RTurn.of (R.out.congr (by simp (disch := omega) only [upd_ne]) (by simp (disch := omega) only [upd_ne])) (by dsimp only; omega) fun k k1 k2 k3 => by simp (disch := omega) only [upd_ne]))
  · obtain ⟨x, y, hx, hy, hxy, hfx, hty⟩ := pair_iff.1 hP
    subst hfx hty
    have hT := hw.tk x y
    have k0 := hT.k0; have k1 := hT.kh; have k2 := hT.hs; have k3 := hT.sl
    have c2 := fun h' (R' : RRep w p t V T h') k => talk_ref R' s1 hx hy k
    have hr1 := hidr
    obtain ⟨pre, post, r1, r2, r3⟩ := R.row hx hy
    have hflat : flatT w T = pre ++ (T x y :: iv .i64 (w.tk x y).heard :: iv .i64 (w.tk x y).known :: iv .i64 (w.tk x y).due :: post) := by
      have := R.ts; rw [r1] at this; simpa using this.symm
    rw [hflat] at hidr
    obtain ⟨nl, full, sz, hTe, hs1⟩ := R.tv x y hx hy
    rw [hTe] at r1
    obtain ⟨o, ho⟩ : ∃ o, Hide (o = (x * w.st + y) * 4) := ⟨_, rfl⟩
    rw [← ho.out] at r2
    replace c2 : Hide _ := c2; replace r3 : Hide _ := r3; replace R : Hide _ := R; replace hidr : Hide _ := hidr; replace hr1 : Hide _ := hr1; replace hflat : Hide _ := hflat; replace hTe : Hide _ := hTe; replace hs1 : Hide _ := hs1
    have e0 := fun (L : List AV) => dropP0 (L := L) r2
    have e1 := fun (L : List AV) (j : Nat) => dropPj (L := L) (j := j) r2
    have e2 := fun (L : List AV) (j : Nat) => takePj (L := L) (j := j) r2
    have e3 := fun (L : List AV) => takeP0 (L := L) r2
    have e4 := fun (L : List AV) (j k : Nat) => dropPk (L := L) (j := j) (k := k) r2
    by_cases h40 : 40 < sx.size
    · have hs : Hide (sayW w ⟨sk, x, y, sn, sx⟩ = (w, 1)) := by
        show sayW w _ = _
        rw [sayW, if_pos (.inr h40)]
      rw [hs.out] at hK0
      replace hK0 : Hide _ := hK0
      repeat' (first | (refine ac_seq_h fun K hK => ?_) | (refine ac_region_h fun K hK => ?_; simp (disch := omega) [go_sem, *, Try.ntmps33]) | (refine ac_draw_h mixed (by kernel_rfl) fun K hK => ?_; simp (disch := omega) [go_sem, *, wrap64_id, upd_ne, mk3_true, flatten_replicate_one, stepK_if, ilt_true, ilt_false, ile_true, ile_false, Try.ntmps33]) | (apply Hide.out hK; clear hK K; try with_reducible dsimp only [thenA]) | (apply Hide.out ht; clear ht hf Kt Kf) | (apply Hide.out hf; clear ht hf Kt Kf) | (clear hK K; apply Hide.out hK; clear hK K; try with_reducible dsimp only [thenA]) | (clear hK K; clear hK K; apply Hide.out hK; clear hK K; try with_reducible dsimp only [thenA]) | (refine ac_block ?_) | (refine ac_skip ?_; simp only [thenA, blockA]) | (refine ac_exit ?_; simp only [thenA, blockA, if_true, if_false, Nat.reduceEqDiff]) | (with_reducible show nextK _ _ _ _ _ _ _; simp (disch := omega) [go_sem, *, wrap64_id, upd_ne, mk3_true, flatten_replicate_one, stepK_if, ilt_true, ilt_false, ile_true, ile_false, Try.ntmps33]) | (refine wantK_split (fun hc => ?_) (fun hc => ?_) <;> (try simp only [Bool.not_eq_true', Bool.not_eq_false', Bool.not_eq_eq_eq_not, Bool.not_true, Bool.not_false, decide_eq_true_eq, decide_eq_false_iff_not, Int.not_lt, Int.not_le] at hc) <;> (try (exfalso; omega)) <;> (try simp (disch := omega) [go_sem, *, wrap64_id, upd_ne, mk3_true, flatten_replicate_one, stepK_if, ilt_true, ilt_false, ile_true, ile_false, Try.ntmps33])) | (refine ac_cond_h fun Kt Kf ht hf => ?_; simp (disch := omega) [go_sem, *, wrap64_id, upd_ne, mk3_true, flatten_replicate_one, stepK_if, ilt_true, ilt_false, ile_true, ile_false, Try.ntmps33]; try (refine ⟨fun hc => ?_, fun hc => ?_⟩ <;> try (exfalso; omega))))
      refine APureAt.call (c1.out _ (R.out.congr (by simp (disch := omega) only [upd_ne]) (by simp (disch := omega) only [upd_ne])) _) ?_
      simp only [hP]
      replace hP : Hide _ := hP
      repeat' (first | (refine ac_seq_h fun K hK => ?_) | (refine ac_region_h fun K hK => ?_; simp (disch := omega) [go_sem, *, ilt_true]) | (refine ac_draw_h mixed (by kernel_rfl) fun K hK => ?_; simp (disch := omega) [go_sem, *, wrap64_id, upd_ne, mk3_true, flatten_replicate_one, stepK_if, ilt_true, ilt_false, ile_true, ile_false, Try.ntmps33]) | (apply Hide.out hK; clear hK K; try with_reducible dsimp only [thenA]) | (apply Hide.out ht; clear ht hf Kt Kf) | (apply Hide.out hf; clear ht hf Kt Kf) | (clear hK K; apply Hide.out hK; clear hK K; try with_reducible dsimp only [thenA]) | (clear hK K; clear hK K; apply Hide.out hK; clear hK K; try with_reducible dsimp only [thenA]) | (refine ac_block ?_) | (refine ac_skip ?_; simp only [thenA, blockA]) | (refine ac_exit ?_; simp only [thenA, blockA, if_true, if_false, Nat.reduceEqDiff]) | (with_reducible show nextK _ _ _ _ _ _ _; simp (disch := omega) [go_sem, *]) | (refine wantK_split (fun hc => ?_) (fun hc => ?_) <;> (try simp only [Bool.not_eq_true', Bool.not_eq_false', Bool.not_eq_eq_eq_not, Bool.not_true, Bool.not_false, decide_eq_true_eq, decide_eq_false_iff_not, Int.not_lt, Int.not_le] at hc) <;> (try (exfalso; omega)) <;> (try simp (disch := omega) [go_sem, *, wrap64_id, upd_ne, mk3_true, flatten_replicate_one, stepK_if, ilt_true, ilt_false, ile_true, ile_false, Try.ntmps33])) | (refine ac_cond_h fun Kt Kf ht hf => ?_; simp (disch := omega) [go_sem, *]; try (refine ⟨fun hc => ?_, fun hc => ?_⟩ <;> try (exfalso; omega))))
      refine ac_ret ?_
      refine ⟨by simp, _, (by simp (disch := omega) [go_sem] <;> rfl), ?_⟩
      refine ret_id (hK0.out _ _ (RTurn.of (R.out.congr (by simp (disch := omega) only [upd_ne]) (by simp (disch := omega) only [upd_ne])) (by dsimp only; omega) fun k k1 k2 k3 => by simp (disch := omega) only [upd_ne]))
    by_cases hfull : 60 ≤ (w.tk x y).said.length ∨ 200 ≤ w.mails.length
    · have hs : Hide (sayW w ⟨sk, x, y, sn, sx⟩ = (w, 2)) := by
        show sayW w _ = _
        rw [sayW, if_neg (by rw [hP]; simp; omega), if_pos (by simp only [Int.toNat_natCast, room]; omega)]
      rw [hs.out] at hK0
      replace hK0 : Hide _ := hK0
      repeat' (first | (refine ac_seq_h fun K hK => ?_) | (refine ac_region_h fun K hK => ?_; simp (disch := omega) [go_sem, *, Try.ntmps33]) | (refine ac_draw_h mixed (by kernel_rfl) fun K hK => ?_; simp (disch := omega) [go_sem, *, wrap64_id, upd_ne, mk3_true, flatten_replicate_one, stepK_if, ilt_true, ilt_false, ile_true, ile_false, Try.ntmps33]) | (apply Hide.out hK; clear hK K; try with_reducible dsimp only [thenA]) | (apply Hide.out ht; clear ht hf Kt Kf) | (apply Hide.out hf; clear ht hf Kt Kf) | (clear hK K; apply Hide.out hK; clear hK K; try with_reducible dsimp only [thenA]) | (clear hK K; clear hK K; apply Hide.out hK; clear hK K; try with_reducible dsimp only [thenA]) | (refine ac_block ?_) | (refine ac_skip ?_; simp only [thenA, blockA]) | (refine ac_exit ?_; simp only [thenA, blockA, if_true, if_false, Nat.reduceEqDiff]) | (with_reducible show nextK _ _ _ _ _ _ _; simp (disch := omega) [go_sem, *, wrap64_id, upd_ne, mk3_true, flatten_replicate_one, stepK_if, ilt_true, ilt_false, ile_true, ile_false, Try.ntmps33]) | (refine wantK_split (fun hc => ?_) (fun hc => ?_) <;> (try simp only [Bool.not_eq_true', Bool.not_eq_false', Bool.not_eq_eq_eq_not, Bool.not_true, Bool.not_false, decide_eq_true_eq, decide_eq_false_iff_not, Int.not_lt, Int.not_le] at hc) <;> (try (exfalso; omega)) <;> (try simp (disch := omega) [go_sem, *, wrap64_id, upd_ne, mk3_true, flatten_replicate_one, stepK_if, ilt_true, ilt_false, ile_true, ile_false, Try.ntmps33])) | (refine ac_cond_h fun Kt Kf ht hf => ?_; simp (disch := omega) [go_sem, *, wrap64_id, upd_ne, mk3_true, flatten_replicate_one, stepK_if, ilt_true, ilt_false, ile_true, ile_false, Try.ntmps33]; try (refine ⟨fun hc => ?_, fun hc => ?_⟩ <;> try (exfalso; omega))))
      refine APureAt.call (c1.out _ (R.out.congr (by simp (disch := omega) only [upd_ne]) (by simp (disch := omega) only [upd_ne])) _) ?_
      simp only [hP]
      replace hP : Hide _ := hP
      repeat' (first | (refine ac_seq_h fun K hK => ?_) | (refine ac_region_h fun K hK => ?_; simp (disch := omega) [go_sem, *, ilt_false]) | (refine ac_draw_h mixed (by kernel_rfl) fun K hK => ?_; simp (disch := omega) [go_sem, *, wrap64_id, upd_ne, mk3_true, flatten_replicate_one, stepK_if, ilt_true, ilt_false, ile_true, ile_false, Try.ntmps33]) | (apply Hide.out hK; clear hK K; try with_reducible dsimp only [thenA]) | (apply Hide.out ht; clear ht hf Kt Kf) | (apply Hide.out hf; clear ht hf Kt Kf) | (clear hK K; apply Hide.out hK; clear hK K; try with_reducible dsimp only [thenA]) | (clear hK K; clear hK K; apply Hide.out hK; clear hK K; try with_reducible dsimp only [thenA]) | (refine ac_block ?_) | (refine ac_skip ?_; simp only [thenA]) | (refine ac_exit ?_; simp only [thenA, blockA, if_true, if_false, Nat.reduceEqDiff]) | (with_reducible show nextK _ _ _ _ _ _ _; simp (disch := omega) [go_sem, *]) | (refine wantK_split (fun hc => ?_) (fun hc => ?_) <;> (try simp only [Bool.not_eq_true', Bool.not_eq_false', Bool.not_eq_eq_eq_not, Bool.not_true, Bool.not_false, decide_eq_true_eq, decide_eq_false_iff_not, Int.not_lt, Int.not_le] at hc) <;> (try (exfalso; omega)) <;> (try simp (disch := omega) [go_sem, *, wrap64_id, upd_ne, mk3_true, flatten_replicate_one, stepK_if, ilt_true, ilt_false, ile_true, ile_false, Try.ntmps33])) | (refine ac_cond_h fun Kt Kf ht hf => ?_; simp (disch := omega) [go_sem, *]; try (refine ⟨fun hc => ?_, fun hc => ?_⟩ <;> try (exfalso; omega))))
      refine APureAt.call (c2.out _ (R.out.congr (by simp (disch := omega) only [upd_ne]) (by simp (disch := omega) only [upd_ne])) _) ?_
      rw [← ho.out]
      repeat' (first | (refine ac_seq_h fun K hK => ?_) | (refine ac_region_h fun K hK => ?_; simp (disch := omega) [go_sem, *]) | (refine ac_draw_h mixed (by kernel_rfl) fun K hK => ?_; simp (disch := omega) [go_sem, *, wrap64_id, upd_ne, mk3_true, flatten_replicate_one, stepK_if, ilt_true, ilt_false, ile_true, ile_false, Try.ntmps33]) | (apply Hide.out hK; clear hK K; try with_reducible dsimp only [thenA]) | (apply Hide.out ht; clear ht hf Kt Kf) | (apply Hide.out hf; clear ht hf Kt Kf) | (clear hK K; apply Hide.out hK; clear hK K; try with_reducible dsimp only [thenA]) | (clear hK K; clear hK K; apply Hide.out hK; clear hK K; try with_reducible dsimp only [thenA]) | (refine ac_block ?_) | (refine ac_skip ?_; simp only [thenA, blockA]) | (refine ac_exit ?_; simp only [thenA, blockA, if_true, if_false, Nat.reduceEqDiff]) | (with_reducible show nextK _ _ _ _ _ _ _; simp (disch := omega) [go_sem, *]) | (refine wantK_split (fun hc => ?_) (fun hc => ?_) <;> (try simp only [Bool.not_eq_true', Bool.not_eq_false', Bool.not_eq_eq_eq_not, Bool.not_true, Bool.not_false, decide_eq_true_eq, decide_eq_false_iff_not, Int.not_lt, Int.not_le] at hc) <;> (try (exfalso; omega)) <;> (try simp (disch := omega) [go_sem, *, wrap64_id, upd_ne, mk3_true, flatten_replicate_one, stepK_if, ilt_true, ilt_false, ile_true, ile_false, Try.ntmps33])) | (refine ac_cond_h fun Kt Kf ht hf => ?_; simp (disch := omega) [go_sem, *, wrap64_id, upd_ne, mk3_true, flatten_replicate_one, stepK_if, ilt_true, ilt_false, ile_true, ile_false, Try.ntmps33]; try (refine ⟨fun hc => ?_, fun hc => ?_⟩ <;> try (exfalso; omega))))
      refine APureAt.call (c3.out _ (R.out.congr (by simp (disch := omega) only [upd_ne]) (by simp (disch := omega) only [upd_ne])) _) ?_
      by_cases h60 : 60 ≤ (w.tk x y).said.length
      · have h60b : (60 : Int) ≤ (w.tk x y).said.length := by omega
        generalize decide (w.mails.length < 200) = b200
        cases b200
        all_goals
          skip
          repeat' (first | (refine ac_seq_h fun K hK => ?_) | (refine ac_region_h fun K hK => ?_; simp (disch := omega) [go_sem, *, upd_ne]) | (refine ac_draw_h mixed (by kernel_rfl) fun K hK => ?_; simp (disch := omega) [go_sem, *, wrap64_id, upd_ne, mk3_true, flatten_replicate_one, stepK_if, ilt_true, ilt_false, ile_true, ile_false, Try.ntmps33]) | (apply Hide.out hK; clear hK K; try with_reducible dsimp only [thenA]) | (apply Hide.out ht; clear ht hf Kt Kf) | (apply Hide.out hf; clear ht hf Kt Kf) | (clear hK K; apply Hide.out hK; clear hK K; try with_reducible dsimp only [thenA]) | (clear hK K; clear hK K; apply Hide.out hK; clear hK K; try with_reducible dsimp only [thenA]) | (refine ac_block ?_) | (refine ac_skip ?_; simp only [thenA, blockA]) | (refine ac_exit ?_; simp only [thenA, blockA, if_true, if_false, Nat.reduceEqDiff]) | (with_reducible show nextK _ _ _ _ _ _ _; simp (disch := omega) [go_sem, *]) | (refine wantK_split (fun hc => ?_) (fun hc => ?_) <;> (try simp only [Bool.not_eq_true', Bool.not_eq_false', Bool.not_eq_eq_eq_not, Bool.not_true, Bool.not_false, decide_eq_true_eq, decide_eq_false_iff_not, Int.not_lt, Int.not_le] at hc) <;> (try (exfalso; omega)) <;> (try simp (disch := omega) [go_sem, *, wrap64_id, upd_ne, mk3_true, flatten_replicate_one, stepK_if, ilt_true, ilt_false, ile_true, ile_false, Try.ntmps33])) | (refine ac_cond_h fun Kt Kf ht hf => ?_; simp (disch := omega) [go_sem, *]; try (refine ⟨fun hc => ?_, fun hc => ?_⟩ <;> try (exfalso; omega))))
          refine ac_ret ?_
          refine ⟨by simp, _, (by simp (disch := omega) [go_sem] <;> rfl), ?_⟩
          refine ret_id (hK0.out _ _ (RTurn.of (R.out.congr (by simp (disch := omega) only [upd_ne]) (by simp (disch := omega) only [upd_ne])) (by dsimp only; omega) fun k k1 k2 k3 => by simp (disch := omega) only [upd_ne]))
      · have h200 : decide (w.mails.length < 200) = false := by simp; omega
        have h60b : ¬ (60 : Int) ≤ (w.tk x y).said.length := by omega
        simp only [h200]
        repeat' (first | (refine ac_seq_h fun K hK => ?_) | (refine ac_region_h fun K hK => ?_; simp (disch := omega) [go_sem, *, upd_ne]) | (refine ac_draw_h mixed (by kernel_rfl) fun K hK => ?_; simp (disch := omega) [go_sem, *, wrap64_id, upd_ne, mk3_true, flatten_replicate_one, stepK_if, ilt_true, ilt_false, ile_true, ile_false, Try.ntmps33]) | (apply Hide.out hK; clear hK K; try with_reducible dsimp only [thenA]) | (apply Hide.out ht; clear ht hf Kt Kf) | (apply Hide.out hf; clear ht hf Kt Kf) | (clear hK K; apply Hide.out hK; clear hK K; try with_reducible dsimp only [thenA]) | (clear hK K; clear hK K; apply Hide.out hK; clear hK K; try with_reducible dsimp only [thenA]) | (refine ac_block ?_) | (refine ac_skip ?_; simp only [thenA, blockA]) | (refine ac_exit ?_; simp only [thenA, blockA, if_true, if_false, Nat.reduceEqDiff]) | (with_reducible show nextK _ _ _ _ _ _ _; simp (disch := omega) [go_sem, *]) | (refine wantK_split (fun hc => ?_) (fun hc => ?_) <;> (try simp only [Bool.not_eq_true', Bool.not_eq_false', Bool.not_eq_eq_eq_not, Bool.not_true, Bool.not_false, decide_eq_true_eq, decide_eq_false_iff_not, Int.not_lt, Int.not_le] at hc) <;> (try (exfalso; omega)) <;> (try simp (disch := omega) [go_sem, *, wrap64_id, upd_ne, mk3_true, flatten_replicate_one, stepK_if, ilt_true, ilt_false, ile_true, ile_false, Try.ntmps33])) | (refine ac_cond_h fun Kt Kf ht hf => ?_; simp (disch := omega) [go_sem, *]; try (refine ⟨fun hc => ?_, fun hc => ?_⟩ <;> try (exfalso; omega))))
        refine ac_ret ?_
        refine ⟨by simp, _, (by simp (disch := omega) [go_sem] <;> rfl), ?_⟩
        refine ret_id (hK0.out _ _ (RTurn.of (R.out.congr (by simp (disch := omega) only [upd_ne]) (by simp (disch := omega) only [upd_ne])) (by dsimp only; omega) fun k k1 k2 k3 => by simp (disch := omega) only [upd_ne]))
    · have h200 : decide (w.mails.length < 200) = true := by simp; omega
      have h60b : ¬ (60 : Int) ≤ (w.tk x y).said.length := by omega
      repeat' (first | (refine ac_seq_h fun K hK => ?_) | (refine ac_region_h fun K hK => ?_; simp (disch := omega) [go_sem, *, Try.ntmps33]) | (refine ac_draw_h mixed (by kernel_rfl) fun K hK => ?_; simp (disch := omega) [go_sem, *, wrap64_id, upd_ne, mk3_true, flatten_replicate_one, stepK_if, ilt_true, ilt_false, ile_true, ile_false, Try.ntmps33]) | (apply Hide.out hK; clear hK K; try with_reducible dsimp only [thenA]) | (apply Hide.out ht; clear ht hf Kt Kf) | (apply Hide.out hf; clear ht hf Kt Kf) | (clear hK K; apply Hide.out hK; clear hK K; try with_reducible dsimp only [thenA]) | (clear hK K; clear hK K; apply Hide.out hK; clear hK K; try with_reducible dsimp only [thenA]) | (refine ac_block ?_) | (refine ac_skip ?_; simp only [thenA, blockA]) | (refine ac_exit ?_; simp only [thenA, blockA, if_true, if_false, Nat.reduceEqDiff]) | (with_reducible show nextK _ _ _ _ _ _ _; simp (disch := omega) [go_sem, *, wrap64_id, upd_ne, mk3_true, flatten_replicate_one, stepK_if, ilt_true, ilt_false, ile_true, ile_false, Try.ntmps33]) | (refine wantK_split (fun hc => ?_) (fun hc => ?_) <;> (try simp only [Bool.not_eq_true', Bool.not_eq_false', Bool.not_eq_eq_eq_not, Bool.not_true, Bool.not_false, decide_eq_true_eq, decide_eq_false_iff_not, Int.not_lt, Int.not_le] at hc) <;> (try (exfalso; omega)) <;> (try simp (disch := omega) [go_sem, *, wrap64_id, upd_ne, mk3_true, flatten_replicate_one, stepK_if, ilt_true, ilt_false, ile_true, ile_false, Try.ntmps33])) | (refine ac_cond_h fun Kt Kf ht hf => ?_; simp (disch := omega) [go_sem, *, wrap64_id, upd_ne, mk3_true, flatten_replicate_one, stepK_if, ilt_true, ilt_false, ile_true, ile_false, Try.ntmps33]; try (refine ⟨fun hc => ?_, fun hc => ?_⟩ <;> try (exfalso; omega))))
      refine APureAt.call (c1.out _ (R.out.congr (by simp (disch := omega) only [upd_ne]) (by simp (disch := omega) only [upd_ne])) _) ?_
      simp only [hP]
      repeat' (first | (refine ac_seq_h fun K hK => ?_) | (refine ac_region_h fun K hK => ?_; simp (disch := omega) [go_sem, *, ilt_false]) | (refine ac_draw_h mixed (by kernel_rfl) fun K hK => ?_; simp (disch := omega) [go_sem, *, wrap64_id, upd_ne, mk3_true, flatten_replicate_one, stepK_if, ilt_true, ilt_false, ile_true, ile_false, Try.ntmps33]) | (apply Hide.out hK; clear hK K; try with_reducible dsimp only [thenA]) | (apply Hide.out ht; clear ht hf Kt Kf) | (apply Hide.out hf; clear ht hf Kt Kf) | (clear hK K; apply Hide.out hK; clear hK K; try with_reducible dsimp only [thenA]) | (clear hK K; clear hK K; apply Hide.out hK; clear hK K; try with_reducible dsimp only [thenA]) | (refine ac_block ?_) | (refine ac_skip ?_; simp only [thenA]) | (refine ac_exit ?_; simp only [thenA, blockA, if_true, if_false, Nat.reduceEqDiff]) | (with_reducible show nextK _ _ _ _ _ _ _; simp (disch := omega) [go_sem, *]) | (refine wantK_split (fun hc => ?_) (fun hc => ?_) <;> (try simp only [Bool.not_eq_true', Bool.not_eq_false', Bool.not_eq_eq_eq_not, Bool.not_true, Bool.not_false, decide_eq_true_eq, decide_eq_false_iff_not, Int.not_lt, Int.not_le] at hc) <;> (try (exfalso; omega)) <;> (try simp (disch := omega) [go_sem, *, wrap64_id, upd_ne, mk3_true, flatten_replicate_one, stepK_if, ilt_true, ilt_false, ile_true, ile_false, Try.ntmps33])) | (refine ac_cond_h fun Kt Kf ht hf => ?_; simp (disch := omega) [go_sem, *]; try (refine ⟨fun hc => ?_, fun hc => ?_⟩ <;> try (exfalso; omega))))
      refine APureAt.call (c2.out _ (R.out.congr (by simp (disch := omega) only [upd_ne]) (by simp (disch := omega) only [upd_ne])) _) ?_
      rw [← ho.out]
      repeat' (first | (refine ac_seq_h fun K hK => ?_) | (refine ac_region_h fun K hK => ?_; simp (disch := omega) [go_sem, *]) | (refine ac_draw_h mixed (by kernel_rfl) fun K hK => ?_; simp (disch := omega) [go_sem, *, wrap64_id, upd_ne, mk3_true, flatten_replicate_one, stepK_if, ilt_true, ilt_false, ile_true, ile_false, Try.ntmps33]) | (apply Hide.out hK; clear hK K; try with_reducible dsimp only [thenA]) | (apply Hide.out ht; clear ht hf Kt Kf) | (apply Hide.out hf; clear ht hf Kt Kf) | (clear hK K; apply Hide.out hK; clear hK K; try with_reducible dsimp only [thenA]) | (clear hK K; clear hK K; apply Hide.out hK; clear hK K; try with_reducible dsimp only [thenA]) | (refine ac_block ?_) | (refine ac_skip ?_; simp only [thenA, blockA]) | (refine ac_exit ?_; simp only [thenA, blockA, if_true, if_false, Nat.reduceEqDiff]) | (with_reducible show nextK _ _ _ _ _ _ _; simp (disch := omega) [go_sem, *]) | (refine wantK_split (fun hc => ?_) (fun hc => ?_) <;> (try simp only [Bool.not_eq_true', Bool.not_eq_false', Bool.not_eq_eq_eq_not, Bool.not_true, Bool.not_false, decide_eq_true_eq, decide_eq_false_iff_not, Int.not_lt, Int.not_le] at hc) <;> (try (exfalso; omega)) <;> (try simp (disch := omega) [go_sem, *, wrap64_id, upd_ne, mk3_true, flatten_replicate_one, stepK_if, ilt_true, ilt_false, ile_true, ile_false, Try.ntmps33])) | (refine ac_cond_h fun Kt Kf ht hf => ?_; simp (disch := omega) [go_sem, *, wrap64_id, upd_ne, mk3_true, flatten_replicate_one, stepK_if, ilt_true, ilt_false, ile_true, ile_false, Try.ntmps33]; try (refine ⟨fun hc => ?_, fun hc => ?_⟩ <;> try (exfalso; omega))))
      refine APureAt.call (c3.out _ (R.out.congr (by simp (disch := omega) only [upd_ne]) (by simp (disch := omega) only [upd_ne])) _) ?_
      simp only [h200]
      repeat' (first | (refine ac_seq_h fun K hK => ?_) | (refine ac_region_h fun K hK => ?_; simp (disch := omega) [go_sem, *, upd_ne]) | (apply Hide.out hK; clear hK K; try with_reducible dsimp only [thenA]) | (apply Hide.out ht; clear ht hf Kt Kf) | (apply Hide.out hf; clear ht hf Kt Kf) | (clear hK K; apply Hide.out hK; clear hK K; try with_reducible dsimp only [thenA]) | (clear hK K; clear hK K; apply Hide.out hK; clear hK K; try with_reducible dsimp only [thenA]) | (refine ac_block ?_) | (refine ac_skip ?_; simp only [thenA]) | (refine ac_exit ?_; simp only [thenA, blockA, if_true, if_false, Nat.reduceEqDiff]) | (with_reducible show nextK _ _ _ _ _ _ _; simp (disch := omega) [go_sem, *]) | (refine wantK_split (fun hc => ?_) (fun hc => ?_) <;> (try simp only [Bool.not_eq_true', Bool.not_eq_false', Bool.not_eq_eq_eq_not, Bool.not_true, Bool.not_false, decide_eq_true_eq, decide_eq_false_iff_not, Int.not_lt, Int.not_le] at hc) <;> (try (exfalso; omega)) <;> (try simp (disch := omega) [go_sem, *, wrap64_id, upd_ne, mk3_true, flatten_replicate_one, stepK_if, ilt_true, ilt_false, ile_true, ile_false, Try.ntmps33])) | (refine ac_cond_h fun Kt Kf ht hf => ?_; simp (disch := omega) [go_sem, *]; try (refine ⟨fun hc => ?_, fun hc => ?_⟩ <;> try (exfalso; omega))))
      have b3 : ∀ k : Nat, o + 3 + 1 ≤ o + (k + 1 + 1 + 1 + 1) := fun k => by omega
      have hlen : ((w.tk x y).said.map sv).length = (w.tk x y).said.length := List.length_map _
      by_cases hop : (w.tk x y).known = (w.tk x y).said.length
      · have hop2 : ((w.tk x y).known == ((w.tk x y).said.length : Int)) = true := by simpa using hop
        replace hop : Hide _ := hop
        refine ac_fzbox (m := n) (t := 3) (c := [iv .i64 sk, iv .i64 x, iv .i64 y, iv .i64 sn, sv sx]) (by simp (disch := omega) only [upd_same]) (by simp [go_sem]) ?_
        refine ac_draw_h mixed (by kernel_rfl) fun K hK => ?_
        simp (disch := omega) [go_sem, *, upd_ne]
        repeat' (first | (refine ac_seq_h fun K hK => ?_) | (refine ac_region_h fun K hK => ?_; simp (disch := omega) [go_sem, *, wrap64_id, upd_ne, mk3_true, flatten_replicate_one, stepK_if, ilt_true, ilt_false, ile_true, ile_false, Try.ntmps33]) | (apply Hide.out hK; clear hK K; try with_reducible dsimp only [thenA]) | (apply Hide.out ht; clear ht hf Kt Kf) | (apply Hide.out hf; clear ht hf Kt Kf) | (clear hK K; apply Hide.out hK; clear hK K; try with_reducible dsimp only [thenA]) | (clear hK K; clear hK K; apply Hide.out hK; clear hK K; try with_reducible dsimp only [thenA]) | (refine ac_block ?_) | (refine ac_skip ?_; simp only [thenA, blockA]) | (refine ac_exit ?_; simp only [thenA, blockA, if_true, if_false, Nat.reduceEqDiff]) | (with_reducible show nextK _ _ _ _ _ _ _; simp (disch := omega) [go_sem, *, wrap64_id, upd_ne, mk3_true, flatten_replicate_one, stepK_if, ilt_true, ilt_false, ile_true, ile_false, Try.ntmps33]) | (refine wantK_split (fun hc => ?_) (fun hc => ?_) <;> (try simp only [Bool.not_eq_true', Bool.not_eq_false', Bool.not_eq_eq_eq_not, Bool.not_true, Bool.not_false, decide_eq_true_eq, decide_eq_false_iff_not, Int.not_lt, Int.not_le] at hc) <;> (try (exfalso; omega)) <;> (try simp (disch := omega) [go_sem, *, wrap64_id, upd_ne, mk3_true, flatten_replicate_one, stepK_if, ilt_true, ilt_false, ile_true, ile_false, Try.ntmps33])) | (refine ac_cond_h fun Kt Kf ht hf => ?_; simp (disch := omega) [go_sem, *]; try (refine ⟨fun hc => ?_, fun hc => ?_⟩ <;> try (exfalso; omega))))
        refine ac_draw_h mixed (by kernel_rfl) fun K hK => ?_
        simp (disch := omega) [go_sem, *, wrap64_id, upd_ne]
        repeat' (first | (refine ac_seq_h fun K hK => ?_) | (refine ac_region_h fun K hK => ?_; simp (disch := omega) [go_sem, *, wrap64_id, upd_ne, mk3_true, flatten_replicate_one, stepK_if, ilt_true, ilt_false, ile_true, ile_false, Try.ntmps33]) | (apply Hide.out hK; clear hK K; try with_reducible dsimp only [thenA]) | (apply Hide.out ht; clear ht hf Kt Kf) | (apply Hide.out hf; clear ht hf Kt Kf) | (clear hK K; apply Hide.out hK; clear hK K; try with_reducible dsimp only [thenA]) | (clear hK K; clear hK K; apply Hide.out hK; clear hK K; try with_reducible dsimp only [thenA]) | (refine ac_block ?_) | (refine ac_skip ?_; simp only [thenA, blockA]) | (refine ac_exit ?_; simp only [thenA, blockA, if_true, if_false, Nat.reduceEqDiff]) | (with_reducible show nextK _ _ _ _ _ _ _; simp (disch := omega) [go_sem, *, wrap64_id, upd_ne, mk3_true, flatten_replicate_one, stepK_if, ilt_true, ilt_false, ile_true, ile_false, Try.ntmps33]) | (refine wantK_split (fun hc => ?_) (fun hc => ?_) <;> (try simp only [Bool.not_eq_true', Bool.not_eq_false', Bool.not_eq_eq_eq_not, Bool.not_true, Bool.not_false, decide_eq_true_eq, decide_eq_false_iff_not, Int.not_lt, Int.not_le] at hc) <;> (try (exfalso; omega)) <;> (try simp (disch := omega) [go_sem, *, wrap64_id, upd_ne, mk3_true, flatten_replicate_one, stepK_if, ilt_true, ilt_false, ile_true, ile_false, Try.ntmps33])) | (refine ac_cond_h fun Kt Kf ht hf => ?_; simp (disch := omega) [go_sem, *, wrap64_id, upd_ne, mk3_true, flatten_replicate_one, stepK_if, ilt_true, ilt_false, ile_true, ile_false, Try.ntmps33]; try (refine ⟨fun hc => ?_, fun hc => ?_⟩ <;> try (exfalso; omega))))
        refine ac_draw3_h [3] mixed (by kernel_rfl) (fun x hx => by simp at hx; subst hx; exact ⟨_, by simp [go_sem]; rfl⟩) fun K2 hK2 => ?_
        simp (disch := omega) [go_sem, *]
        refine ap_done (ap_clo ty40.1 ty40.2.1 ty40.2.2.1 ty40.2.2.2 (by simp [cellsOf, AV.scalar]) (fun hx => hs1.out (by intro e; rw [e] at hx; exact hx rfl)) ?_ (by rw [List.length_map]; omega)) ?_
        · simp (disch := omega) only [upd_ne]; exact hb.none (by omega)
        simp (disch := omega) [go_sem, *]
        refine ap_done (ap_clo2 ty40.1 ty40.2.1 ty40.2.2.1 ty40.2.2.2 (by simp [cellsOf, AV.scalar]) (by simp only [upd_same]) (fun x hx => by obtain ⟨m, _, rfl⟩ := List.mem_map.1 hx; rfl) (by simp) (by simp; omega)) ?_
        rw [acV_ne (by simp)]
        simp (disch := omega) [go_sem, *, upd_ne]
        refine hK2.out _ ?_
        clear hK2 K2
        try dsimp only [thenA]
        repeat' (first | (refine ac_seq_h fun K hK => ?_) | (refine ac_region_h fun K hK => ?_; simp (disch := omega) [go_sem, *, wrap64_id, upd_ne, mk3_true, flatten_replicate_one, stepK_if, ilt_true, ilt_false, ile_true, ile_false, Try.ntmps33]) | (apply Hide.out hK; clear hK K; try with_reducible dsimp only [thenA]) | (apply Hide.out ht; clear ht hf Kt Kf) | (apply Hide.out hf; clear ht hf Kt Kf) | (clear hK K; apply Hide.out hK; clear hK K; try with_reducible dsimp only [thenA]) | (clear hK K; clear hK K; apply Hide.out hK; clear hK K; try with_reducible dsimp only [thenA]) | (refine ac_block ?_) | (refine ac_skip ?_; simp only [thenA, blockA]) | (refine ac_exit ?_; simp only [thenA, blockA, if_true, if_false, Nat.reduceEqDiff]) | (with_reducible show nextK _ _ _ _ _ _ _; simp (disch := omega) [go_sem, *, wrap64_id, upd_ne, mk3_true, flatten_replicate_one, stepK_if, ilt_true, ilt_false, ile_true, ile_false, Try.ntmps33]) | (refine wantK_split (fun hc => ?_) (fun hc => ?_) <;> (try simp only [Bool.not_eq_true', Bool.not_eq_false', Bool.not_eq_eq_eq_not, Bool.not_true, Bool.not_false, decide_eq_true_eq, decide_eq_false_iff_not, Int.not_lt, Int.not_le] at hc) <;> (try (exfalso; omega)) <;> (try simp (disch := omega) [go_sem, *, wrap64_id, upd_ne, mk3_true, flatten_replicate_one, stepK_if, ilt_true, ilt_false, ile_true, ile_false, Try.ntmps33])) | (refine ac_cond_h fun Kt Kf ht hf => ?_; simp (disch := omega) [go_sem, *, wrap64_id, upd_ne, mk3_true, flatten_replicate_one, stepK_if, ilt_true, ilt_false, ile_true, ile_false, Try.ntmps33]; try (refine ⟨fun hc => ?_, fun hc => ?_⟩ <;> try (exfalso; omega))))
        refine ac_fzcell (n + 2 + 7 + 8 + 7 + 4 + 9 + 10 + 13 + 10) t false (by omega) (c := flat (((w.tk x y).said ++ [sx]).map sv)) (by simp (disch := omega) only [upd_ne, upd_same]; rw [List.map_append]; exact acO_ne (by simp)) (upd_same _ _ _) ?_
        rw [fz_row (L := (w.tk x y).said ++ [sx]) (by simp) (fun z hz => hidr.out _ _ _ z (List.mem_append.2 (.inl hz))) (fun z hz => hidr.out _ _ _ z (by simp [hz]))]
        repeat' (first | (refine ac_seq_h fun K hK => ?_) | (refine ac_region_h fun K hK => ?_; simp (disch := omega) [go_sem, *, wrap64_id, upd_ne, mk3_true, flatten_replicate_one, stepK_if, ilt_true, ilt_false, ile_true, ile_false, Try.ntmps33]) | (refine ac_draw_h mixed (by kernel_rfl) fun K hK => ?_; simp (disch := omega) [go_sem, *]) | (apply Hide.out hK; clear hK K; try with_reducible dsimp only [thenA]) | (apply Hide.out ht; clear ht hf Kt Kf) | (apply Hide.out hf; clear ht hf Kt Kf) | (clear hK K; apply Hide.out hK; clear hK K; try with_reducible dsimp only [thenA]) | (clear hK K; clear hK K; apply Hide.out hK; clear hK K; try with_reducible dsimp only [thenA]) | (refine ac_block ?_) | (refine ac_skip ?_; simp only [thenA, blockA]) | (refine ac_exit ?_; simp only [thenA, blockA, if_true, if_false, Nat.reduceEqDiff]) | (with_reducible show nextK _ _ _ _ _ _ _; simp (disch := omega) [go_sem, *, wrap64_id, upd_ne, mk3_true, flatten_replicate_one, stepK_if, ilt_true, ilt_false, ile_true, ile_false, Try.ntmps33]) | (refine wantK_split (fun hc => ?_) (fun hc => ?_) <;> (try simp only [Bool.not_eq_true', Bool.not_eq_false', Bool.not_eq_eq_eq_not, Bool.not_true, Bool.not_false, decide_eq_true_eq, decide_eq_false_iff_not, Int.not_lt, Int.not_le] at hc) <;> (try (exfalso; omega)) <;> (try simp (disch := omega) [go_sem, *, wrap64_id, upd_ne, mk3_true, flatten_replicate_one, stepK_if, ilt_true, ilt_false, ile_true, ile_false, Try.ntmps33])) | (refine ac_cond_h fun Kt Kf ht hf => ?_; simp (disch := omega) [go_sem, *, wrap64_id, upd_ne, mk3_true, flatten_replicate_one, stepK_if, ilt_true, ilt_false, ile_true, ile_false, Try.ntmps33]; try (refine ⟨fun hc => ?_, fun hc => ?_⟩ <;> try (exfalso; omega))))
        refine send_ref (r3.out ⟨(w.tk x y).said ++ [sx], (w.tk x y).heard, (w.tk x y).known, w.tick + w.wait⟩ (.fslc false false 1 (((w.tk x y).said ++ [sx]).map sv)) _ ⟨_, _, _, rfl, fun _ => rfl⟩ (by simp (disch := omega) only [upd_ne]) (by first | exact upd_same _ _ _ | (simp only [List.map_append, List.map_cons, List.map_nil]; exact upd_same _ _ _))) (by show w.mails.length ≤ 199; omega) (by show 0 ≤ w.last; omega) h1 ⟨0, 1, x, y, (w.tk x y).said.length + 1, sx⟩ _ (by omega) (by omega) _ (fun h' n' X => ?_)
        repeat' (first | (refine ac_seq_h fun K hK => ?_) | (refine ac_region_h fun K hK => ?_; simp (disch := omega) [go_sem, *]) | (refine ac_draw_h mixed (by kernel_rfl) fun K hK => ?_; simp (disch := omega) [go_sem, *, wrap64_id, upd_ne, mk3_true, flatten_replicate_one, stepK_if, ilt_true, ilt_false, ile_true, ile_false, Try.ntmps33]) | (apply Hide.out hK; clear hK K; try with_reducible dsimp only [thenA]) | (apply Hide.out ht; clear ht hf Kt Kf) | (apply Hide.out hf; clear ht hf Kt Kf) | (clear hK K; apply Hide.out hK; clear hK K; try with_reducible dsimp only [thenA]) | (clear hK K; clear hK K; apply Hide.out hK; clear hK K; try with_reducible dsimp only [thenA]) | (refine ac_block ?_) | (refine ac_skip ?_; simp only [thenA, blockA]) | (refine ac_exit ?_; simp only [thenA, blockA, if_true, if_false, Nat.reduceEqDiff]) | (with_reducible show nextK _ _ _ _ _ _ _; simp (disch := omega) [go_sem, *, wrap64_id, upd_ne, mk3_true, flatten_replicate_one, stepK_if, ilt_true, ilt_false, ile_true, ile_false, Try.ntmps33]) | (refine wantK_split (fun hc => ?_) (fun hc => ?_) <;> (try simp only [Bool.not_eq_true', Bool.not_eq_false', Bool.not_eq_eq_eq_not, Bool.not_true, Bool.not_false, decide_eq_true_eq, decide_eq_false_iff_not, Int.not_lt, Int.not_le] at hc) <;> (try (exfalso; omega)) <;> (try simp (disch := omega) [go_sem, *, wrap64_id, upd_ne, mk3_true, flatten_replicate_one, stepK_if, ilt_true, ilt_false, ile_true, ile_false, Try.ntmps33])) | (refine ac_cond_h fun Kt Kf ht hf => ?_; simp (disch := omega) [go_sem, *, wrap64_id, upd_ne, mk3_true, flatten_replicate_one, stepK_if, ilt_true, ilt_false, ile_true, ile_false, Try.ntmps33]; try (refine ⟨fun hc => ?_, fun hc => ?_⟩ <;> try (exfalso; omega))))
        have hgo := sayW_go (w := w) (x := x) (y := y) (sk := sk) (sn := sn) (tx := sx) (by rw [hP]; simp; omega) (by omega) (by simp only [room]; omega)
        rw [if_pos (show opn (w.tk x y) = 0 by have := hop.out; unfold opn; omega)] at hgo
        rw [hgo] at hK0
        refine ac_ret ?_
        refine ⟨by simp, _, (by simp (disch := omega) [go_sem] <;> rfl), ?_⟩
        have X2 := RTurn.from X (h := h) (n := n) (by omega) (fun k k1 k2 k3 => by simp (disch := omega) only [upd_ne])
        exact ret_id (hK0.out _ _ (RTurn.up X2 (by dsimp only; omega)))
      · have hop2 : ((w.tk x y).known == ((w.tk x y).said.length : Int)) = false := by simpa using hop
        replace hop : Hide _ := hop
        refine ac_fzbox (m := n) (t := 3) (c := [iv .i64 sk, iv .i64 x, iv .i64 y, iv .i64 sn, sv sx]) (by simp (disch := omega) only [upd_same]) (by simp [go_sem]) ?_
        refine ac_draw_h mixed (by kernel_rfl) fun K hK => ?_
        simp (disch := omega) [go_sem, *, upd_ne]
        repeat' (first | (refine ac_seq_h fun K hK => ?_) | (refine ac_region_h fun K hK => ?_; simp (disch := omega) [go_sem, *, wrap64_id, upd_ne, mk3_true, flatten_replicate_one, stepK_if, ilt_true, ilt_false, ile_true, ile_false, Try.ntmps33]) | (apply Hide.out hK; clear hK K; try with_reducible dsimp only [thenA]) | (apply Hide.out ht; clear ht hf Kt Kf) | (apply Hide.out hf; clear ht hf Kt Kf) | (clear hK K; apply Hide.out hK; clear hK K; try with_reducible dsimp only [thenA]) | (clear hK K; clear hK K; apply Hide.out hK; clear hK K; try with_reducible dsimp only [thenA]) | (refine ac_block ?_) | (refine ac_skip ?_; simp only [thenA]) | (refine ac_exit ?_; simp only [thenA, blockA, if_true, if_false, Nat.reduceEqDiff]) | (with_reducible show nextK _ _ _ _ _ _ _; simp (disch := omega) [go_sem, *, wrap64_id, upd_ne, mk3_true, flatten_replicate_one, stepK_if, ilt_true, ilt_false, ile_true, ile_false, Try.ntmps33]) | (refine wantK_split (fun hc => ?_) (fun hc => ?_) <;> (try simp only [Bool.not_eq_true', Bool.not_eq_false', Bool.not_eq_eq_eq_not, Bool.not_true, Bool.not_false, decide_eq_true_eq, decide_eq_false_iff_not, Int.not_lt, Int.not_le] at hc) <;> (try (exfalso; omega)) <;> (try simp (disch := omega) [go_sem, *, wrap64_id, upd_ne, mk3_true, flatten_replicate_one, stepK_if, ilt_true, ilt_false, ile_true, ile_false, Try.ntmps33])) | (refine ac_cond_h fun Kt Kf ht hf => ?_; simp (disch := omega) [go_sem, *]; try (refine ⟨fun hc => ?_, fun hc => ?_⟩ <;> try (exfalso; omega))))
        refine ac_draw3_h [3] mixed (by kernel_rfl) (fun x hx => by simp at hx; subst hx; exact ⟨_, by simp [go_sem]; rfl⟩) fun K2 hK2 => ?_
        simp (disch := omega) [go_sem, *, upd_ne]
        refine ap_done (ap_clo ty40.1 ty40.2.1 ty40.2.2.1 ty40.2.2.2 (by simp [cellsOf, AV.scalar]) (fun hx => hs1.out (by intro e; rw [e] at hx; exact hx rfl)) ?_ (by rw [List.length_map]; omega)) ?_
        · simp (disch := omega) only [upd_ne]; exact hb.none (by omega)
        simp (disch := omega) [go_sem, *]
        refine ap_done (ap_clo2 ty40.1 ty40.2.1 ty40.2.2.1 ty40.2.2.2 (by simp [cellsOf, AV.scalar]) (by simp only [upd_same]) (fun x hx => by obtain ⟨m, _, rfl⟩ := List.mem_map.1 hx; rfl) (by simp) (by simp; omega)) ?_
        rw [acV_ne (by simp)]
        simp (disch := omega) [go_sem, *, upd_ne]
        refine hK2.out _ ?_
        clear hK2 K2
        try dsimp only [thenA]
        repeat' (first | (refine ac_seq_h fun K hK => ?_) | (refine ac_region_h fun K hK => ?_; simp (disch := omega) [go_sem, *, wrap64_id, upd_ne, mk3_true, flatten_replicate_one, stepK_if, ilt_true, ilt_false, ile_true, ile_false, Try.ntmps33]) | (apply Hide.out hK; clear hK K; try with_reducible dsimp only [thenA]) | (apply Hide.out ht; clear ht hf Kt Kf) | (apply Hide.out hf; clear ht hf Kt Kf) | (clear hK K; apply Hide.out hK; clear hK K; try with_reducible dsimp only [thenA]) | (clear hK K; clear hK K; apply Hide.out hK; clear hK K; try with_reducible dsimp only [thenA]) | (refine ac_block ?_) | (refine ac_skip ?_; simp only [thenA, blockA]) | (refine ac_exit ?_; simp only [thenA, blockA, if_true, if_false, Nat.reduceEqDiff]) | (with_reducible show nextK _ _ _ _ _ _ _; simp (disch := omega) [go_sem, *, wrap64_id, upd_ne, mk3_true, flatten_replicate_one, stepK_if, ilt_true, ilt_false, ile_true, ile_false, Try.ntmps33]) | (refine wantK_split (fun hc => ?_) (fun hc => ?_) <;> (try simp only [Bool.not_eq_true', Bool.not_eq_false', Bool.not_eq_eq_eq_not, Bool.not_true, Bool.not_false, decide_eq_true_eq, decide_eq_false_iff_not, Int.not_lt, Int.not_le] at hc) <;> (try (exfalso; omega)) <;> (try simp (disch := omega) [go_sem, *, wrap64_id, upd_ne, mk3_true, flatten_replicate_one, stepK_if, ilt_true, ilt_false, ile_true, ile_false, Try.ntmps33])) | (refine ac_cond_h fun Kt Kf ht hf => ?_; simp (disch := omega) [go_sem, *, wrap64_id, upd_ne, mk3_true, flatten_replicate_one, stepK_if, ilt_true, ilt_false, ile_true, ile_false, Try.ntmps33]; try (refine ⟨fun hc => ?_, fun hc => ?_⟩ <;> try (exfalso; omega))))
        refine ac_fzcell (n + 2 + 7 + 8 + 7 + 4 + 9 + 10 + 10) t false (by omega) (c := flat (((w.tk x y).said ++ [sx]).map sv)) (by simp (disch := omega) only [upd_ne, upd_same]; rw [List.map_append]; exact acO_ne (by simp)) (upd_same _ _ _) ?_
        rw [fz_row (L := (w.tk x y).said ++ [sx]) (by simp) (fun z hz => hidr.out _ _ _ z (List.mem_append.2 (.inl hz))) (fun z hz => hidr.out _ _ _ z (by simp [hz]))]
        repeat' (first | (refine ac_seq_h fun K hK => ?_) | (refine ac_region_h fun K hK => ?_; simp (disch := omega) [go_sem, *, wrap64_id, upd_ne, mk3_true, flatten_replicate_one, stepK_if, ilt_true, ilt_false, ile_true, ile_false, Try.ntmps33]) | (refine ac_draw_h mixed (by kernel_rfl) fun K hK => ?_; simp (disch := omega) [go_sem, *]) | (apply Hide.out hK; clear hK K; try with_reducible dsimp only [thenA]) | (apply Hide.out ht; clear ht hf Kt Kf) | (apply Hide.out hf; clear ht hf Kt Kf) | (clear hK K; apply Hide.out hK; clear hK K; try with_reducible dsimp only [thenA]) | (clear hK K; clear hK K; apply Hide.out hK; clear hK K; try with_reducible dsimp only [thenA]) | (refine ac_block ?_) | (refine ac_skip ?_; simp only [thenA, blockA]) | (refine ac_exit ?_; simp only [thenA, blockA, if_true, if_false, Nat.reduceEqDiff]) | (with_reducible show nextK _ _ _ _ _ _ _; simp (disch := omega) [go_sem, *, wrap64_id, upd_ne, mk3_true, flatten_replicate_one, stepK_if, ilt_true, ilt_false, ile_true, ile_false, Try.ntmps33]) | (refine wantK_split (fun hc => ?_) (fun hc => ?_) <;> (try simp only [Bool.not_eq_true', Bool.not_eq_false', Bool.not_eq_eq_eq_not, Bool.not_true, Bool.not_false, decide_eq_true_eq, decide_eq_false_iff_not, Int.not_lt, Int.not_le] at hc) <;> (try (exfalso; omega)) <;> (try simp (disch := omega) [go_sem, *, wrap64_id, upd_ne, mk3_true, flatten_replicate_one, stepK_if, ilt_true, ilt_false, ile_true, ile_false, Try.ntmps33])) | (refine ac_cond_h fun Kt Kf ht hf => ?_; simp (disch := omega) [go_sem, *, wrap64_id, upd_ne, mk3_true, flatten_replicate_one, stepK_if, ilt_true, ilt_false, ile_true, ile_false, Try.ntmps33]; try (refine ⟨fun hc => ?_, fun hc => ?_⟩ <;> try (exfalso; omega))))
        refine send_ref (r3.out ⟨(w.tk x y).said ++ [sx], (w.tk x y).heard, (w.tk x y).known, (w.tk x y).due⟩ (.fslc false false 1 (((w.tk x y).said ++ [sx]).map sv)) _ ⟨_, _, _, rfl, fun _ => rfl⟩ (by simp (disch := omega) only [upd_ne]) (by first | exact upd_same _ _ _ | (simp only [List.map_append, List.map_cons, List.map_nil]; exact upd_same _ _ _))) (by show w.mails.length ≤ 199; omega) (by show 0 ≤ w.last; omega) h1 ⟨0, 1, x, y, (w.tk x y).said.length + 1, sx⟩ _ (by omega) (by omega) _ (fun h' n' X => ?_)
        repeat' (first | (refine ac_seq_h fun K hK => ?_) | (refine ac_region_h fun K hK => ?_; simp (disch := omega) [go_sem, *]) | (refine ac_draw_h mixed (by kernel_rfl) fun K hK => ?_; simp (disch := omega) [go_sem, *, wrap64_id, upd_ne, mk3_true, flatten_replicate_one, stepK_if, ilt_true, ilt_false, ile_true, ile_false, Try.ntmps33]) | (apply Hide.out hK; clear hK K; try with_reducible dsimp only [thenA]) | (apply Hide.out ht; clear ht hf Kt Kf) | (apply Hide.out hf; clear ht hf Kt Kf) | (clear hK K; apply Hide.out hK; clear hK K; try with_reducible dsimp only [thenA]) | (clear hK K; clear hK K; apply Hide.out hK; clear hK K; try with_reducible dsimp only [thenA]) | (refine ac_block ?_) | (refine ac_skip ?_; simp only [thenA, blockA]) | (refine ac_exit ?_; simp only [thenA, blockA, if_true, if_false, Nat.reduceEqDiff]) | (with_reducible show nextK _ _ _ _ _ _ _; simp (disch := omega) [go_sem, *, wrap64_id, upd_ne, mk3_true, flatten_replicate_one, stepK_if, ilt_true, ilt_false, ile_true, ile_false, Try.ntmps33]) | (refine wantK_split (fun hc => ?_) (fun hc => ?_) <;> (try simp only [Bool.not_eq_true', Bool.not_eq_false', Bool.not_eq_eq_eq_not, Bool.not_true, Bool.not_false, decide_eq_true_eq, decide_eq_false_iff_not, Int.not_lt, Int.not_le] at hc) <;> (try (exfalso; omega)) <;> (try simp (disch := omega) [go_sem, *, wrap64_id, upd_ne, mk3_true, flatten_replicate_one, stepK_if, ilt_true, ilt_false, ile_true, ile_false, Try.ntmps33])) | (refine ac_cond_h fun Kt Kf ht hf => ?_; simp (disch := omega) [go_sem, *, wrap64_id, upd_ne, mk3_true, flatten_replicate_one, stepK_if, ilt_true, ilt_false, ile_true, ile_false, Try.ntmps33]; try (refine ⟨fun hc => ?_, fun hc => ?_⟩ <;> try (exfalso; omega))))
        have hgo := sayW_go (w := w) (x := x) (y := y) (sk := sk) (sn := sn) (tx := sx) (by rw [hP]; simp; omega) (by omega) (by simp only [room]; omega)
        rw [if_neg (show ¬ opn (w.tk x y) = 0 from fun h9 => hop.out (by unfold opn at h9; omega))] at hgo
        rw [hgo] at hK0
        refine ac_ret ?_
        refine ⟨by simp, _, (by simp (disch := omega) [go_sem] <;> rfl), ?_⟩
        have X2 := RTurn.from X (h := h) (n := n) (by omega) (fun k k1 k2 k3 => by simp (disch := omega) only [upd_ne])
        exact ret_id (hK0.out _ _ (RTurn.up X2 (by dsimp only; omega)))
end
end Go.AM

namespace Wl
theorem stamp_app : ∀ (k : Int) (a b : List Mail), stamp k (a ++ b) = stamp k a ++ stamp (k + a.length) b
  | k, [], b => by simp [stamp]
  | k, x :: r, b => by
    simp only [List.cons_append, stamp, stamp_app (k + 1) r b, List.length_cons]
    congr 3
    omega
theorem putW_snoc {u : Wd} {l : List Mail} {x : Mail} (h : 1 ≤ room (putW u l)) : putW (putW u l) [x] = putW u (l ++ [x]) := by
  have hr : l.length < room u := by
    simp only [putW, room, List.length_append, stampLen, List.length_take] at h ⊢
    omega
  have e1 : l.take (room u) = l := List.take_of_length_le (by omega)
  have e2 : (l ++ [x]).take (room u) = l ++ [x] := List.take_of_length_le (by simp; omega)
  have e3 : ([x] : List Mail).take (room (putW u l)) = [x] := List.take_of_length_le (by simpa using h)
  rw [putW, e3]
  simp only [putW, e1, e2, stamp_app, List.append_assoc, List.length_append, List.length_cons, List.length_nil]
  congr 1
  push_cast; omega
theorem putW_full {u : Wd} {l r : List Mail} (h : room (putW u l) = 0) : putW u (l ++ r) = putW u l := by
  have hr : room u ≤ l.length := by
    simp only [putW, room, List.length_append, stampLen, List.length_take] at h ⊢
    omega
  have e1 : (l ++ r).take (room u) = l.take (room u) := by rw [List.take_append_of_le_length hr]
  simp only [putW, e1]
theorem putW_nil (u : Wd) : putW u [] = u := by simp [putW, stamp]
/-- nobody says words to itself -/
def Sil (w : Wd) : Prop := ∀ a, (w.tk a a).said = []
theorem Sil.setT {w : Wd} (h : Sil w) {a b : Nat} {t : Talk} (hab : a ≠ b) : Sil (setT w a b t) := fun x => by
  have : ¬ (x = a ∧ x = b) := fun e => hab (e.1.symm.trans e.2)
  simp only [Wl.setT, if_neg this]; exact h x
theorem Sil.put {w : Wd} (h : Sil w) (l : List Mail) : Sil (putW w l) := h
theorem Sil.timeP {w : Wd} (h : Sil w) (a b : Nat) : Sil (timeP w a b) := by
  unfold Wl.timeP; split
  · exact h
  · rename_i c
    exact Sil.setT (h.put _) (fun e => c (.inl e))
theorem Sil.timeGo : ∀ (l : List (Nat × Nat)) {w : Wd}, Sil w → Sil (timeGo w l)
  | [], _, h => h | (a, b) :: r, _, h => Sil.timeGo r (h.timeP a b)
theorem Sil.arrive {w : Wd} (h : Sil w) {m : Mail} (hm : isPair w m.fr m.to = true) : Sil (arrive w m) := by
  obtain ⟨x, y, _, _, hxy, h1, h2⟩ := pair_iff.1 hm
  have e1 : m.fr.toNat ≠ m.to.toNat := by omega
  unfold Wl.arrive; split
  · refine Sil.put ?_ _
    split
    · exact h.setT e1
    · exact h
  · split
    · exact h.setT (Ne.symm e1)
    · exact h
theorem Sil.new (st : Nat) (wait : Int) : Sil (newW st wait) := fun _ => rfl
theorem Sil.step {w : Wd} (h : Sil w) (hw : Wok w) (s : Step) : Sil (doW w s).1 := by
  unfold doW
  split
  · exact h
  split
  · unfold sayW; split
    · exact h
    rename_i c1
    split
    · exact h
    have hP : isPair w s.a s.b = true := by
      cases hx : isPair w s.a s.b
      · exact absurd (.inl hx) c1
      · rfl
    obtain ⟨x, y, _, _, hxy, h1, h2⟩ := pair_iff.1 hP
    exact Sil.setT h (show s.a.toNat ≠ s.b.toNat by omega)
  split
  · unfold timeW; split
    · exact h
    · exact Sil.timeGo _ (w := { w with tick := _ }) h
  split
  · unfold deliverW; split
    · exact h
    split
    · exact h
    rename_i m hm
    have := (hw.ms m (List.mem_of_getElem? hm)).1
    exact Sil.arrive (w := { w with mails := w.mails.eraseIdx _ }) h this
  split
  · unfold loseW; split <;> exact h
  split
  · unfold doubleW; split
    · exact h
    split
    · exact h
    split <;> exact h
  · unfold crashW; split
    · exact h
    · intro x
      simp only; split <;> exact h x
end Wl

namespace Go.AM
open Go.Proofs Wl
set_option maxRecDepth 10000
set_option maxHeartbeats 4000000
theorem resend_ix {a b j : Nat} {t : Talk} (h0 : 0 ≤ t.known) (hl : t.known.toNat + j < t.said.length) : (resend a b t)[j]? = some ⟨0, 1, a, b, t.known + j + 1, t.said[t.known.toNat + j]⟩ := by
  have := resend_at (a := a) (b := b) (t := t) (kn := t.known.toNat) (k := j) (by omega) hl
  rw [this]
  congr 2
  omega
theorem take_snoc {α : Type} {l : List α} {j : Nat} {x : α} (h : l[j]? = some x) : l.take (j + 1) = l.take j ++ [x] := by
  rw [List.take_add_one, h]; rfl
section
variable {w : Wd} {p t : Nat} {V : AV} {T : Nat → Nat → AV} {h : AHeap}
theorem tick_ref (R : RRep w p t V T h) (hw : Wok w) (hsil : Sil w) (h1 : w.last ≤ 100000000000) (m : Int) (n : Nat) (hpn : p < n) (htn : t < n) (K0 : AV → AHeap → Nat → Prop)
    (hK0 : ∀ h' n', RTurn (timeW w m).1 p t h n h' n' → K0 (iv .i64 (timeW w m).2) h' n') : ACalls Try.prog 34 [.ptr p 0, iv .i64 m] h n K0 := by
  refine ACalls.entry (by kernel_rfl) fun hb _ => calls_of Try.func34 rfl (by kernel_rfl) (by simp [Try.ntmps34]) ?_
  have hd := R.hd
  have hne := R.ne
  have hne' : t ≠ p := fun e => R.ne e.symm
  have s1 := hw.s1
  have y0 := hw.w0; have y1 := hw.w1; have y2 := hw.t0; have y3 := hw.t1; have l0 := hw.l0; have ml := hw.ml
  replace hK0 : Hide _ := hK0
  by_cases hc1 : m < w.tick
  · have hs : Hide (timeW w m = (w, 1)) := by
      show timeW w m = _
      rw [timeW, if_pos]
      cases hx : within m w.tick 1048576
      · rfl
      · have := (Wl.within_iff.1 hx).1; omega
    rw [hs.out] at hK0
    replace hK0 : Hide _ := hK0
    repeat' (first | (refine ac_seq_h fun K hK => ?_) | (refine ac_region_h fun K hK => ?_; simp (disch := omega) [go_sem, *, Try.ntmps34]) | (refine ac_draw_h mixed (by kernel_rfl) fun K hK => ?_; simp (disch := omega) [go_sem, *, wrap64_id, upd_ne, mk3_true, flatten_replicate_one, stepK_if, ilt_true, ilt_false, ile_true, ile_false, Try.ntmps34]) | (apply Hide.out hK; clear hK K; try with_reducible dsimp only [thenA]) | (apply Hide.out ht; clear ht hf Kt Kf) | (apply Hide.out hf; clear ht hf Kt Kf) | (clear hK K; apply Hide.out hK; clear hK K; try with_reducible dsimp only [thenA]) | (clear hK K; clear hK K; apply Hide.out hK; clear hK K; try with_reducible dsimp only [thenA]) | (refine ac_block ?_) | (refine ac_skip ?_; simp only [thenA, blockA]) | (refine ac_exit ?_; simp only [thenA, blockA, if_true, if_false, Nat.reduceEqDiff]) | (with_reducible show nextK _ _ _ _ _ _ _; simp (disch := omega) [go_sem, *, wrap64_id, upd_ne, mk3_true, flatten_replicate_one, stepK_if, ilt_true, ilt_false, ile_true, ile_false, Try.ntmps34]) | (refine wantK_split (fun hc => ?_) (fun hc => ?_) <;> (try simp only [Bool.not_eq_true', Bool.not_eq_false', Bool.not_eq_eq_eq_not, Bool.not_true, Bool.not_false, decide_eq_true_eq, decide_eq_false_iff_not, Int.not_lt, Int.not_le] at hc) <;> (try (exfalso; omega)) <;> (try simp (disch := omega) [go_sem, *, wrap64_id, upd_ne, mk3_true, flatten_replicate_one, stepK_if, ilt_true, ilt_false, ile_true, ile_false, Try.ntmps34])) | (refine ac_cond_h fun Kt Kf ht hf => ?_; simp (disch := omega) [go_sem, *]; try (refine ⟨fun hc => ?_, fun hc => ?_⟩ <;> try (exfalso; omega))))
    refine ac_ret ?_
    refine ⟨by simp, _, (by simp (disch := omega) [go_sem] <;> rfl), ?_⟩
    exact ret_id (hK0.out _ _ (RTurn.of R (by dsimp only; omega) fun k k1 k2 k3 => rfl))
  by_cases hc2 : 1048576 < m
  · have hs : Hide (timeW w m = (w, 1)) := by
      show timeW w m = _
      rw [timeW, if_pos]
      cases hx : within m w.tick 1048576
      · rfl
      · have := (Wl.within_iff.1 hx).2; omega
    rw [hs.out] at hK0
    replace hK0 : Hide _ := hK0
    repeat' (first | (refine ac_seq_h fun K hK => ?_) | (refine ac_region_h fun K hK => ?_; simp (disch := omega) [go_sem, *, Try.ntmps34]) | (refine ac_draw_h mixed (by kernel_rfl) fun K hK => ?_; simp (disch := omega) [go_sem, *, wrap64_id, upd_ne, mk3_true, flatten_replicate_one, stepK_if, ilt_true, ilt_false, ile_true, ile_false, Try.ntmps34]) | (apply Hide.out hK; clear hK K; try with_reducible dsimp only [thenA]) | (apply Hide.out ht; clear ht hf Kt Kf) | (apply Hide.out hf; clear ht hf Kt Kf) | (clear hK K; apply Hide.out hK; clear hK K; try with_reducible dsimp only [thenA]) | (clear hK K; clear hK K; apply Hide.out hK; clear hK K; try with_reducible dsimp only [thenA]) | (refine ac_block ?_) | (refine ac_skip ?_; simp only [thenA, blockA]) | (refine ac_exit ?_; simp only [thenA, blockA, if_true, if_false, Nat.reduceEqDiff]) | (with_reducible show nextK _ _ _ _ _ _ _; simp (disch := omega) [go_sem, *, wrap64_id, upd_ne, mk3_true, flatten_replicate_one, stepK_if, ilt_true, ilt_false, ile_true, ile_false, Try.ntmps34]) | (refine wantK_split (fun hc => ?_) (fun hc => ?_) <;> (try simp only [Bool.not_eq_true', Bool.not_eq_false', Bool.not_eq_eq_eq_not, Bool.not_true, Bool.not_false, decide_eq_true_eq, decide_eq_false_iff_not, Int.not_lt, Int.not_le] at hc) <;> (try (exfalso; omega)) <;> (try simp (disch := omega) [go_sem, *, wrap64_id, upd_ne, mk3_true, flatten_replicate_one, stepK_if, ilt_true, ilt_false, ile_true, ile_false, Try.ntmps34])) | (refine ac_cond_h fun Kt Kf ht hf => ?_; simp (disch := omega) [go_sem, *]; try (refine ⟨fun hc => ?_, fun hc => ?_⟩ <;> try (exfalso; omega))))
    refine ac_ret ?_
    refine ⟨by simp, _, (by simp (disch := omega) [go_sem] <;> rfl), ?_⟩
    exact ret_id (hK0.out _ _ (RTurn.of R (by dsimp only; omega) fun k k1 k2 k3 => rfl))
  have hL : Hide (timeW w m = (timeGo { w with tick := m } (grid w.st), 0)) := by
    show timeW w m = _
    rw [timeW, if_neg (by rw [Wl.within_iff.2 ⟨by omega, by omega⟩]; simp)]
  rw [hL.out] at hK0
  replace hK0 : Hide _ := hK0
  obtain ⟨w0, hw0e⟩ : ∃ w0 : Wd, Hide (w0 = { w with tick := m }) := ⟨_, rfl⟩
  have hw0 : Hide (Wok w0) := by rw [hw0e.out]; exact hw.clock (by omega) (by omega)
  have e_st : w0.st = w.st := by rw [hw0e.out]
  have e_tk : w0.tick = m := by rw [hw0e.out]
  have e_wt : w0.wait = w.wait := by rw [hw0e.out]
  have hsum : w0.last - w0.mails.length = w.last - w.mails.length := by rw [hw0e.out]
  have hsil0 : Hide (Sil w0) := by rw [hw0e.out]; exact hsil
  have hR0 : Hide (∀ h', h' p = some (.cells [iv .i64 w.st, iv .i64 w.wait, iv .i64 m, iv .i64 (w.last + 1), .slc t 0 (w.st * w.st) 4, V]) → h' t = h t → RRep w0 p t V T h') := by
    intro h' a1 a2
    rw [hw0e.out]
    exact ⟨a1, R.mv, R.tv, by rw [a2]; exact R.ts, R.ne⟩
  rw [← hw0e.out] at hK0
  replace hK0 : Hide _ := hK0
  have hu : Hide (∀ (a b : Nat), ∀ u, u = timeGo w0 (rowP w.st a b) → (a < w.st ∧ b ≤ w.st ∨ a ≤ w.st ∧ b = 0) → Wok u ∧ u.st = w.st ∧ u.tick = m ∧ u.wait = w.wait ∧ u.last ≤ 100000001000 ∧ Sil u) := by
    rintro a b u rfl hab
    have h1' : Wok (timeGo w0 (rowP w.st a b)) := Wok.timeGo hw0.out fun p hp => by
      rw [e_st]
      rcases hab with ⟨h1, h2⟩ | ⟨h1, rfl⟩
      · exact rowP_mem h1 h2 p hp
      · exact rowP_mem0 h1 p hp
    have h2 := timeGo_sum (rowP w.st a b) w0
    have h3 := timeGo_ck (rowP w.st a b) w0
    have h4 := h1'.ml
    exact ⟨h1', by rw [timeGo_st, e_st], by rw [h3.1, e_tk], by rw [h3.2, e_wt], by omega, Sil.timeGo _ hsil0.out⟩
  obtain ⟨S, hS⟩ : ∃ S, Hide (S = w.st) := ⟨_, rfl⟩
  rw [← hS.out] at hu hd s1 hR0
  replace hu : Hide _ := hu; replace hR0 : Hide _ := hR0
  have hfin : Hide (timeGo w0 (rowP S S 0) = timeGo w0 (grid w.st)) := by
    show timeGo w0 (rowP S S 0) = _
    rw [rowP_all, hS.out]
  rw [← hfin.out] at hK0
  replace hK0 : Hide _ := hK0
  clear hL hfin hw0e hw hsil R e_st e_tk e_wt hsum hw0 hsil0
  repeat' (first | (refine ac_seq_h fun K hK => ?_) | (refine ac_region_h fun K hK => ?_; simp (disch := omega) [go_sem, *, Try.ntmps34]) | (refine ac_draw_h mixed (by kernel_rfl) fun K hK => ?_; simp (disch := omega) [go_sem, *, wrap64_id, upd_ne, mk3_true, flatten_replicate_one, stepK_if, ilt_true, ilt_false, ile_true, ile_false, Try.ntmps34]) | (apply Hide.out hK; clear hK K; try with_reducible dsimp only [thenA]) | (apply Hide.out ht; clear ht hf Kt Kf) | (apply Hide.out hf; clear ht hf Kt Kf) | (clear hK K; apply Hide.out hK; clear hK K; try with_reducible dsimp only [thenA]) | (clear hK K; clear hK K; apply Hide.out hK; clear hK K; try with_reducible dsimp only [thenA]) | (refine ac_block ?_) | (refine ac_skip ?_; simp only [thenA]) | (refine ac_exit ?_; simp only [thenA, blockA, if_true, if_false, Nat.reduceEqDiff]) | (with_reducible show nextK _ _ _ _ _ _ _; simp (disch := omega) [go_sem, *, wrap64_id, upd_ne, mk3_true, flatten_replicate_one, stepK_if, ilt_true, ilt_false, ile_true, ile_false, Try.ntmps34]) | (refine wantK_split (fun hc => ?_) (fun hc => ?_) <;> (try simp only [Bool.not_eq_true', Bool.not_eq_false', Bool.not_eq_eq_eq_not, Bool.not_true, Bool.not_false, decide_eq_true_eq, decide_eq_false_iff_not, Int.not_lt, Int.not_le] at hc) <;> (try (exfalso; omega)) <;> (try simp (disch := omega) [go_sem, *, wrap64_id, upd_ne, mk3_true, flatten_replicate_one, stepK_if, ilt_true, ilt_false, ile_true, ile_false, Try.ntmps34])) | (refine ac_cond_h fun Kt Kf ht hf => ?_; simp (disch := omega) [go_sem, *]; try (refine ⟨fun hc => ?_, fun hc => ?_⟩ <;> try (exfalso; omega))))
  refine ac_loop_wk (fun s' => ∃ (a n1 : Nat) (H : AHeap), a ≤ S ∧ RTurn (timeGo w0 (rowP S a 0)) p t h n H n1 ∧ s' = ⟨105, [(0, .ptr p 0), (1, iv .i64 m), (5, iv .i64 a), (4, iv .i64 0)], H, n1⟩) (fun z => S - (intAt z 5).toNat) ?_ ?_
  · refine loop_start (by simp [go_sem]) (Sub.refl _) ⟨0, _, _, Nat.zero_le _, RTurn.of (hR0.out _ (upd_same _ _ _) (by simp (disch := omega) only [upd_ne])) ?_ (fun k k1 k2 k3 => by simp (disch := omega) only [upd_ne]), rfl⟩
    omega
  rintro s' ⟨a, n1, H, ha, X, rfl⟩
  by_cases hlta : a < S
  · obtain ⟨u, hue⟩ : ∃ u, Hide (u = timeGo w0 (rowP S a 0)) := ⟨_, rfl⟩
    obtain ⟨uok, ust, utk, uwt, ulast, usil⟩ := hu.out a 0 u hue.out (.inr ⟨ha, rfl⟩)
    rw [← hue.out] at X
    obtain ⟨V1, T1, R1, nn1, fr1⟩ := X
    have hd1 := R1.hd
    rw [ust] at hd1
    replace R1 : Hide _ := R1; replace fr1 : Hide _ := fr1; replace uok : Hide _ := uok; replace usil : Hide _ := usil; replace hd : Hide _ := hd
    repeat' (first | (refine ac_seq_h fun K hK => ?_) | (refine ac_region_h fun K hK => ?_; simp (disch := omega) [go_sem, *, ilt_true]) | (refine ac_draw_h mixed (by kernel_rfl) fun K hK => ?_; simp (disch := omega) [go_sem, *, wrap64_id, upd_ne, mk3_true, flatten_replicate_one, stepK_if, ilt_true, ilt_false, ile_true, ile_false, Try.ntmps34]) | (apply Hide.out hK; clear hK K; try with_reducible dsimp only [thenA]) | (apply Hide.out ht; clear ht hf Kt Kf) | (apply Hide.out hf; clear ht hf Kt Kf) | (clear hK K; apply Hide.out hK; clear hK K; try with_reducible dsimp only [thenA]) | (clear hK K; clear hK K; apply Hide.out hK; clear hK K; try with_reducible dsimp only [thenA]) | (refine ac_block ?_) | (refine ac_skip ?_; simp only [thenA]) | (refine ac_exit ?_; simp only [thenA, blockA, if_true, if_false, Nat.reduceEqDiff]) | (with_reducible show nextK _ _ _ _ _ _ _; simp (disch := omega) [go_sem, *, wrap64_id, upd_ne, mk3_true, flatten_replicate_one, stepK_if, ilt_true, ilt_false, ile_true, ile_false, Try.ntmps34]) | (refine wantK_split (fun hc => ?_) (fun hc => ?_) <;> (try simp only [Bool.not_eq_true', Bool.not_eq_false', Bool.not_eq_eq_eq_not, Bool.not_true, Bool.not_false, decide_eq_true_eq, decide_eq_false_iff_not, Int.not_lt, Int.not_le] at hc) <;> (try (exfalso; omega)) <;> (try simp (disch := omega) [go_sem, *, wrap64_id, upd_ne, mk3_true, flatten_replicate_one, stepK_if, ilt_true, ilt_false, ile_true, ile_false, Try.ntmps34])) | (refine ac_cond_h fun Kt Kf ht hf => ?_; simp (disch := omega) [go_sem, *]; try (refine ⟨fun hc => ?_, fun hc => ?_⟩ <;> try (exfalso; omega))))
    refine ac_loop_wk (fun s' => ∃ (b n2 : Nat) (H2 : AHeap), b ≤ S ∧ RTurn (timeGo w0 (rowP S a b)) p t h n H2 n2 ∧ s' = ⟨105, [(0, .ptr p 0), (1, iv .i64 m), (5, iv .i64 a), (6, iv .i64 b), (4, iv .i64 0)], H2, n2⟩) (fun z => S - (intAt z 6).toNat) ?_ ?_
    · refine loop_start (by simp [go_sem]) (Sub.refl _) ⟨0, _, _, Nat.zero_le _, RTurn.of (by rw [← hue.out]; exact R1.out) ?_ fr1.out, rfl⟩
      omega
    clear hd1 R1 fr1 uok usil ust utk uwt ulast hue nn1
    rintro s' ⟨b, n2, H2, hb2, X, rfl⟩
    obtain ⟨u2, hue⟩ : ∃ u, Hide (u = timeGo w0 (rowP S a b)) := ⟨_, rfl⟩
    obtain ⟨uok, ust, utk, uwt, ulast, usil⟩ := hu.out a b u2 hue.out (.inl ⟨hlta, hb2⟩)
    rw [← hue.out] at X
    obtain ⟨V1, T1, R1, nn1, fr1⟩ := X
    have hd1 := R1.hd
    rw [ust] at hd1
    have uml := uok.ml
    replace fr1 : Hide _ := fr1
    by_cases hltb : b < S
    · have hnext : Hide (timeGo w0 (rowP S a (b + 1)) = timeP u2 a b) := by
        show timeGo w0 (rowP S a (b + 1)) = _
        rw [rowP_next, timeGo_append, ← hue.out]; rfl
      have hT := uok.tk a b
      have k0 := hT.k0; have k1 := hT.kh; have k2 := hT.hs; have k3 := hT.sl
      have d0 := hT.d0; have d1 := hT.d1
      have hself : Hide (a = b → (u2.tk a b).said = []) := fun e => by subst e; exact usil a
      have c2 := fun h' (R' : RRep u2 p t V1 T1 h') k => talk_ref R' (by omega) (show a < u2.st by omega) (show b < u2.st by omega) k
      obtain ⟨pre, post, r1, r2, r3⟩ := R1.row (show a < u2.st by omega) (show b < u2.st by omega)
      obtain ⟨nl, full, sz, hTe, hs1⟩ := R1.tv a b (show a < u2.st by omega) (show b < u2.st by omega)
      rw [hTe] at r1
      obtain ⟨o, ho⟩ : ∃ o, Hide (o = (a * u2.st + b) * 4) := ⟨_, rfl⟩
      rw [← ho.out] at r2
      replace c2 : Hide _ := c2; replace r3 : Hide _ := r3; replace R1 : Hide _ := R1; replace hTe : Hide _ := hTe; replace hs1 : Hide _ := hs1; replace uok : Hide _ := uok; replace usil : Hide _ := usil; replace hd : Hide _ := hd
      have e0 := fun (L : List AV) => dropP0 (L := L) r2
      have e1 := fun (L : List AV) (j : Nat) => dropPj (L := L) (j := j) r2
      have e2 := fun (L : List AV) (j : Nat) => takePj (L := L) (j := j) r2
      have e3 := fun (L : List AV) => takeP0 (L := L) r2
      have e4 := fun (L : List AV) (j k : Nat) => dropPk (L := L) (j := j) (k := k) r2
      by_cases hop : (u2.tk a b).known = (u2.tk a b).said.length
      · have hop2 : ((u2.tk a b).known == ((u2.tk a b).said.length : Int)) = true := by simpa using hop
        have hn2 : Hide (timeP u2 a b = u2) := by
          show timeP u2 a b = u2
          rw [timeP, if_pos (.inr (.inl (by unfold opn; omega)))]
        replace hop : Hide _ := hop
        repeat' (first | (refine ac_seq_h fun K hK => ?_) | (refine ac_region_h fun K hK => ?_; simp (disch := omega) [go_sem, *, ilt_true]) | (refine ac_draw_h mixed (by kernel_rfl) fun K hK => ?_; simp (disch := omega) [go_sem, *, wrap64_id, upd_ne, mk3_true, flatten_replicate_one, stepK_if, ilt_true, ilt_false, ile_true, ile_false, Try.ntmps34]) | (apply Hide.out hK; clear hK K; try with_reducible dsimp only [thenA]) | (apply Hide.out ht; clear ht hf Kt Kf) | (apply Hide.out hf; clear ht hf Kt Kf) | (clear hK K; apply Hide.out hK; clear hK K; try with_reducible dsimp only [thenA]) | (clear hK K; clear hK K; apply Hide.out hK; clear hK K; try with_reducible dsimp only [thenA]) | (refine ac_block ?_) | (refine ac_skip ?_; simp only [thenA]) | (refine ac_exit ?_; simp only [thenA, blockA, if_true, if_false, Nat.reduceEqDiff]) | (with_reducible show nextK _ _ _ _ _ _ _; simp (disch := omega) [go_sem, *, wrap64_id, upd_ne, mk3_true, flatten_replicate_one, stepK_if, ilt_true, ilt_false, ile_true, ile_false, Try.ntmps34]) | (refine wantK_split (fun hc => ?_) (fun hc => ?_) <;> (try simp only [Bool.not_eq_true', Bool.not_eq_false', Bool.not_eq_eq_eq_not, Bool.not_true, Bool.not_false, decide_eq_true_eq, decide_eq_false_iff_not, Int.not_lt, Int.not_le] at hc) <;> (try (exfalso; omega)) <;> (try simp (disch := omega) [go_sem, *, wrap64_id, upd_ne, mk3_true, flatten_replicate_one, stepK_if, ilt_true, ilt_false, ile_true, ile_false, Try.ntmps34])) | (refine ac_cond_h fun Kt Kf ht hf => ?_; simp (disch := omega) [go_sem, *]; try (refine ⟨fun hc => ?_, fun hc => ?_⟩ <;> try (exfalso; omega))))
        refine APureAt.call (c2.out _ R1.out _) ?_
        rw [← ho.out]
        repeat' (first | (refine ac_seq_h fun K hK => ?_) | (refine ac_region_h fun K hK => ?_; simp (disch := omega) [go_sem, *, wrap64_id]) | (refine ac_draw_h mixed (by kernel_rfl) fun K hK => ?_; simp (disch := omega) [go_sem, *]) | (apply Hide.out hK; clear hK K; try with_reducible dsimp only [thenA]) | (apply Hide.out ht; clear ht hf Kt Kf) | (apply Hide.out hf; clear ht hf Kt Kf) | (clear hK K; apply Hide.out hK; clear hK K; try with_reducible dsimp only [thenA]) | (clear hK K; clear hK K; apply Hide.out hK; clear hK K; try with_reducible dsimp only [thenA]) | (refine ac_block ?_) | (refine ac_skip ?_; simp only [thenA, blockA]) | (refine ac_exit ?_; simp only [thenA, blockA, if_true, if_false, Nat.reduceEqDiff]) | (with_reducible show nextK _ _ _ _ _ _ _; simp (disch := omega) [go_sem, *]) | (refine wantK_split (fun hc => ?_) (fun hc => ?_) <;> (try simp only [Bool.not_eq_true', Bool.not_eq_false', Bool.not_eq_eq_eq_not, Bool.not_true, Bool.not_false, decide_eq_true_eq, decide_eq_false_iff_not, Int.not_lt, Int.not_le] at hc) <;> (try (exfalso; omega)) <;> (try simp (disch := omega) [go_sem, *, wrap64_id, upd_ne, mk3_true, flatten_replicate_one, stepK_if, ilt_true, ilt_false, ile_true, ile_false, Try.ntmps34])) | (refine ac_cond_h fun Kt Kf ht hf => ?_; simp (disch := omega) [go_sem, *]; try (refine ⟨fun hc => ?_, fun hc => ?_⟩ <;> try (exfalso; omega))))
        refine round_end (by simp [go_sem]) (Sub.refl _) ⟨b + 1, _, _, by omega, RTurn.of (by rw [hnext.out, hn2.out]; exact R1.out) ?_ fr1.out, rfl⟩ (by simp [intAt, go_sem]; omega)
        omega
      have hop2 : ((u2.tk a b).known == ((u2.tk a b).said.length : Int)) = false := by simpa using hop
      by_cases hdue : m < (u2.tk a b).due
      · have hn2 : Hide (timeP u2 a b = u2) := by
          show timeP u2 a b = u2
          rw [timeP, if_pos (.inr (.inr (by omega)))]
        replace hop : Hide _ := hop
        repeat' (first | (refine ac_seq_h fun K hK => ?_) | (refine ac_region_h fun K hK => ?_; simp (disch := omega) [go_sem, *, ilt_true]) | (refine ac_draw_h mixed (by kernel_rfl) fun K hK => ?_; simp (disch := omega) [go_sem, *, wrap64_id, upd_ne, mk3_true, flatten_replicate_one, stepK_if, ilt_true, ilt_false, ile_true, ile_false, Try.ntmps34]) | (apply Hide.out hK; clear hK K; try with_reducible dsimp only [thenA]) | (apply Hide.out ht; clear ht hf Kt Kf) | (apply Hide.out hf; clear ht hf Kt Kf) | (clear hK K; apply Hide.out hK; clear hK K; try with_reducible dsimp only [thenA]) | (clear hK K; clear hK K; apply Hide.out hK; clear hK K; try with_reducible dsimp only [thenA]) | (refine ac_block ?_) | (refine ac_skip ?_; simp only [thenA]) | (refine ac_exit ?_; simp only [thenA, blockA, if_true, if_false, Nat.reduceEqDiff]) | (with_reducible show nextK _ _ _ _ _ _ _; simp (disch := omega) [go_sem, *, wrap64_id, upd_ne, mk3_true, flatten_replicate_one, stepK_if, ilt_true, ilt_false, ile_true, ile_false, Try.ntmps34]) | (refine wantK_split (fun hc => ?_) (fun hc => ?_) <;> (try simp only [Bool.not_eq_true', Bool.not_eq_false', Bool.not_eq_eq_eq_not, Bool.not_true, Bool.not_false, decide_eq_true_eq, decide_eq_false_iff_not, Int.not_lt, Int.not_le] at hc) <;> (try (exfalso; omega)) <;> (try simp (disch := omega) [go_sem, *, wrap64_id, upd_ne, mk3_true, flatten_replicate_one, stepK_if, ilt_true, ilt_false, ile_true, ile_false, Try.ntmps34])) | (refine ac_cond_h fun Kt Kf ht hf => ?_; simp (disch := omega) [go_sem, *]; try (refine ⟨fun hc => ?_, fun hc => ?_⟩ <;> try (exfalso; omega))))
        refine APureAt.call (c2.out _ R1.out _) ?_
        rw [← ho.out]
        repeat' (first | (refine ac_seq_h fun K hK => ?_) | (refine ac_region_h fun K hK => ?_; simp (disch := omega) [go_sem, *, wrap64_id]) | (refine ac_draw_h mixed (by kernel_rfl) fun K hK => ?_; simp (disch := omega) [go_sem, *]) | (apply Hide.out hK; clear hK K; try with_reducible dsimp only [thenA]) | (apply Hide.out ht; clear ht hf Kt Kf) | (apply Hide.out hf; clear ht hf Kt Kf) | (clear hK K; apply Hide.out hK; clear hK K; try with_reducible dsimp only [thenA]) | (clear hK K; clear hK K; apply Hide.out hK; clear hK K; try with_reducible dsimp only [thenA]) | (refine ac_block ?_) | (refine ac_skip ?_; simp only [thenA, blockA]) | (refine ac_exit ?_; simp only [thenA, blockA, if_true, if_false, Nat.reduceEqDiff]) | (with_reducible show nextK _ _ _ _ _ _ _; simp (disch := omega) [go_sem, *]) | (refine wantK_split (fun hc => ?_) (fun hc => ?_) <;> (try simp only [Bool.not_eq_true', Bool.not_eq_false', Bool.not_eq_eq_eq_not, Bool.not_true, Bool.not_false, decide_eq_true_eq, decide_eq_false_iff_not, Int.not_lt, Int.not_le] at hc) <;> (try (exfalso; omega)) <;> (try simp (disch := omega) [go_sem, *, wrap64_id, upd_ne, mk3_true, flatten_replicate_one, stepK_if, ilt_true, ilt_false, ile_true, ile_false, Try.ntmps34])) | (refine ac_cond_h fun Kt Kf ht hf => ?_; simp (disch := omega) [go_sem, *]; try (refine ⟨fun hc => ?_, fun hc => ?_⟩ <;> try (exfalso; omega))))
        refine round_end (by simp [go_sem]) (Sub.refl _) ⟨b + 1, _, _, by omega, RTurn.of (by rw [hnext.out, hn2.out]; exact R1.out) ?_ fr1.out, rfl⟩ (by simp [intAt, go_sem]; omega)
        omega
      have hab : a ≠ b := fun e => by
        have := hself.out e
        rw [this] at k2 hop; simp at k2 hop; omega
      have hn2 : Hide (timeP u2 a b = setT (putW u2 (resend a b (u2.tk a b))) a b { u2.tk a b with due := m + w.wait }) := by
        show timeP u2 a b = _
        rw [timeP, if_neg (by unfold opn; omega), utk, uwt]
      obtain ⟨RS, hRS⟩ : ∃ RS, Hide (RS = resend a b (u2.tk a b)) := ⟨_, rfl⟩
      have hRSl : RS.length = (u2.tk a b).said.length - (u2.tk a b).known.toNat := by rw [hRS.out, resend_len]
      obtain ⟨kn, hkn⟩ : ∃ kn : Nat, (u2.tk a b).known = kn := ⟨(u2.tk a b).known.toNat, by omega⟩
      have hRSk : Hide (∀ j, (hj : kn + j < (u2.tk a b).said.length) → RS[j]? = some ⟨0, 1, a, b, (kn : Int) + j + 1, (u2.tk a b).said[kn + j]⟩) := fun j hj => by
        have := resend_ix (a := a) (b := b) (j := j) k0 (by rw [hkn]; simpa using hj)
        rw [hRS.out, this]
        simp only [hkn, Int.toNat_natCast]
      rw [hkn] at hRSl
      rw [Int.toNat_natCast] at hRSl
      rw [hkn] at hop2
      rw [← hRS.out] at hn2
      have hn3 : Hide (timeP u2 a b = setT (putW u2 RS) a b ⟨(u2.tk a b).said, (u2.tk a b).heard, (kn : Int), m + w.wait⟩) := by
        show timeP u2 a b = _
        rw [← hkn]; exact hn2.out
      clear hn2
      replace hop : Hide _ := hop
      repeat' (first | (refine ac_seq_h fun K hK => ?_) | (refine ac_region_h fun K hK => ?_; simp (disch := omega) [go_sem, *, ilt_true]) | (refine ac_draw_h mixed (by kernel_rfl) fun K hK => ?_; simp (disch := omega) [go_sem, *, wrap64_id, upd_ne, mk3_true, flatten_replicate_one, stepK_if, ilt_true, ilt_false, ile_true, ile_false, Try.ntmps34]) | (apply Hide.out hK; clear hK K; try with_reducible dsimp only [thenA]) | (apply Hide.out ht; clear ht hf Kt Kf) | (apply Hide.out hf; clear ht hf Kt Kf) | (clear hK K; apply Hide.out hK; clear hK K; try with_reducible dsimp only [thenA]) | (clear hK K; clear hK K; apply Hide.out hK; clear hK K; try with_reducible dsimp only [thenA]) | (refine ac_block ?_) | (refine ac_skip ?_; simp only [thenA]) | (refine ac_exit ?_; simp only [thenA, blockA, if_true, if_false, Nat.reduceEqDiff]) | (with_reducible show nextK _ _ _ _ _ _ _; simp (disch := omega) [go_sem, *, wrap64_id, upd_ne, mk3_true, flatten_replicate_one, stepK_if, ilt_true, ilt_false, ile_true, ile_false, Try.ntmps34]) | (refine wantK_split (fun hc => ?_) (fun hc => ?_) <;> (try simp only [Bool.not_eq_true', Bool.not_eq_false', Bool.not_eq_eq_eq_not, Bool.not_true, Bool.not_false, decide_eq_true_eq, decide_eq_false_iff_not, Int.not_lt, Int.not_le] at hc) <;> (try (exfalso; omega)) <;> (try simp (disch := omega) [go_sem, *, wrap64_id, upd_ne, mk3_true, flatten_replicate_one, stepK_if, ilt_true, ilt_false, ile_true, ile_false, Try.ntmps34])) | (refine ac_cond_h fun Kt Kf ht hf => ?_; simp (disch := omega) [go_sem, *]; try (refine ⟨fun hc => ?_, fun hc => ?_⟩ <;> try (exfalso; omega))))
      refine APureAt.call (c2.out _ R1.out _) ?_
      rw [← ho.out]
      repeat' (first | (refine ac_seq_h fun K hK => ?_) | (refine ac_region_h fun K hK => ?_; simp (disch := omega) [go_sem, *]) | (refine ac_draw_h mixed (by kernel_rfl) fun K hK => ?_; simp (disch := omega) [go_sem, *]) | (apply Hide.out hK; clear hK K; try with_reducible dsimp only [thenA]) | (apply Hide.out ht; clear ht hf Kt Kf) | (apply Hide.out hf; clear ht hf Kt Kf) | (clear hK K; apply Hide.out hK; clear hK K; try with_reducible dsimp only [thenA]) | (clear hK K; clear hK K; apply Hide.out hK; clear hK K; try with_reducible dsimp only [thenA]) | (refine ac_block ?_) | (refine ac_skip ?_; simp only [thenA]) | (refine ac_exit ?_; simp only [thenA, blockA, if_true, if_false, Nat.reduceEqDiff]) | (with_reducible show nextK _ _ _ _ _ _ _; simp (disch := omega) [go_sem, *]) | (refine wantK_split (fun hc => ?_) (fun hc => ?_) <;> (try simp only [Bool.not_eq_true', Bool.not_eq_false', Bool.not_eq_eq_eq_not, Bool.not_true, Bool.not_false, decide_eq_true_eq, decide_eq_false_iff_not, Int.not_lt, Int.not_le] at hc) <;> (try (exfalso; omega)) <;> (try simp (disch := omega) [go_sem, *, wrap64_id, upd_ne, mk3_true, flatten_replicate_one, stepK_if, ilt_true, ilt_false, ile_true, ile_false, Try.ntmps34])) | (refine ac_cond_h fun Kt Kf ht hf => ?_; simp (disch := omega) [go_sem, *]; try (refine ⟨fun hc => ?_, fun hc => ?_⟩ <;> try (exfalso; omega))))
      refine ac_loop_wk (fun s' => ∃ (j n3 : Nat) (H3 : AHeap), j ≤ RS.length ∧ RTurn (putW u2 (RS.take j)) p t h n H3 n3 ∧ s' = ⟨105, [(0, .ptr p 0), (1, iv .i64 m), (5, iv .i64 a), (6, iv .i64 b), (7, .ptr t o), (8, iv .i64 ((kn + j : Nat) : Int)), (4, iv .i64 0)], H3, n3⟩) (fun z => (u2.tk a b).said.length - (intAt z 8).toNat) ?_ ?_
      · refine loop_start (by simp [go_sem]) (Sub.refl _) ⟨0, _, _, Nat.zero_le _, RTurn.of (by rw [List.take_zero, putW_nil]; exact R1.out) ?_ fr1.out, rfl⟩
        omega
      clear R1 hd1 hRS fr1 nn1 r1 r2 r3 e0 e1 e2 e3 e4 hTe hs1 c2
      rintro s' ⟨j, n3, H3, hj, X, rfl⟩
      obtain ⟨U, hU⟩ : ∃ U, Hide (U = putW u2 (RS.take j)) := ⟨_, rfl⟩
      have Ust : U.st = S := by rw [hU.out]; exact ust
      have Utk : U.tk = u2.tk := by rw [hU.out]; rfl
      have Uwt : U.wait = w.wait := by rw [hU.out]; exact uwt
      have Uck : U.tick = m := by rw [hU.out]; exact utk
      have Uml : U.mails.length ≤ 200 := by
        rw [hU.out]; simp only [putW, List.length_append, stampLen, List.length_take, room]; omega
      have Ul1 : U.last ≤ 1000000000000 := by
        rw [hU.out]; simp only [putW, List.length_take, room]; omega
      have Ul0 : 0 ≤ U.last := by
        have := uok.out.l0
        rw [hU.out]; simp only [putW]; omega
      rw [← hU.out] at X
      obtain ⟨V2, T2, R2, nn2, fr2⟩ := X
      have hd2 := R2.hd
      rw [Ust, Uwt, Uck] at hd2
      obtain ⟨v1, v2, v3, rfl, hv⟩ := R2.mv
      obtain ⟨pre, post, q1, q2, q3⟩ := R2.row (show a < U.st by omega) (show b < U.st by omega)
      obtain ⟨g1, g2, g3, hTg, hg⟩ := R2.tv a b (show a < U.st by omega) (show b < U.st by omega)
      rw [Utk] at hTg hg q1
      rw [hTg] at q1
      have ho2 : (a * U.st + b) * 4 = o := by rw [Ust, ho.out, ust]
      rw [ho2] at q2
      replace q3 : Hide _ := q3; replace R2 : Hide _ := R2; replace fr2 : Hide _ := fr2; replace hTg : Hide _ := hTg; replace hg : Hide _ := hg; replace hv : Hide _ := hv; replace Utk : Hide _ := Utk; replace ho2 : Hide _ := ho2
      have e0 := fun (L : List AV) => dropP0 (L := L) q2
      have e1 := fun (L : List AV) (j : Nat) => dropPj (L := L) (j := j) q2
      have e2 := fun (L : List AV) (j : Nat) => takePj (L := L) (j := j) q2
      have e3 := fun (L : List AV) => takeP0 (L := L) q2
      have e4 := fun (L : List AV) (j k : Nat) => dropPk (L := L) (j := j) (k := k) q2
      have b3 : ∀ k : Nat, o + 3 + 1 ≤ o + (k + 1 + 1 + 1 + 1) := fun k => by omega
      by_cases hin : kn + j < (u2.tk a b).said.length ∧ U.mails.length < 200
      · obtain ⟨wd, hwd⟩ : ∃ wd, (u2.tk a b).said[kn + j]'hin.1 = wd := ⟨_, rfl⟩
        have hx := hRSk.out j hin.1
        rw [hwd] at hx
        have hjl : j < RS.length := (List.getElem?_eq_some_iff.1 hx).1
        have hsn : Hide (putW U [⟨0, 1, a, b, (kn : Int) + j + 1, wd⟩] = putW u2 (RS.take (j + 1))) := by
          have hs := putW_snoc (u := u2) (l := RS.take j) (x := ⟨0, 1, a, b, (kn : Int) + j + 1, wd⟩) (by rw [← hU.out]; simp only [room]; omega)
          rw [← hU.out, ← take_snoc hx] at hs
          exact hs
        obtain rfl := hg.out (by intro e; rw [e] at hin; simp at hin)
        obtain ⟨in1, in2⟩ := hin
        have in3 : ((kn + j : Nat) : Int) < (u2.tk a b).said.length := by omega
        have in4 : (U.mails.length : Int) < 200 := by omega
        have hto : ((kn : Int) + (j : Int)).toNat = kn + j := by omega
        replace hx : Hide _ := hx
        repeat' (first | (refine ac_seq_h fun K hK => ?_) | (refine ac_region_h fun K hK => ?_; simp (disch := omega) [go_sem, *, wrap64_id, ilt_true, ile_true]) | (refine ac_draw_h mixed (by kernel_rfl) fun K hK => ?_; simp (disch := omega) [go_sem, *, wrap64_id, upd_ne, mk3_true, flatten_replicate_one, stepK_if, ilt_true, ilt_false, ile_true, ile_false, Try.ntmps34]) | (apply Hide.out hK; clear hK K; try with_reducible dsimp only [thenA]) | (apply Hide.out ht; clear ht hf Kt Kf) | (apply Hide.out hf; clear ht hf Kt Kf) | (clear hK K; apply Hide.out hK; clear hK K; try with_reducible dsimp only [thenA]) | (clear hK K; clear hK K; apply Hide.out hK; clear hK K; try with_reducible dsimp only [thenA]) | (refine ac_block ?_) | (refine ac_skip ?_; simp only [thenA]) | (refine ac_exit ?_; simp only [thenA, blockA, if_true, if_false, Nat.reduceEqDiff]) | (with_reducible show nextK _ _ _ _ _ _ _; simp (disch := omega) [go_sem, *, wrap64_id, upd_ne, mk3_true, flatten_replicate_one, stepK_if, ilt_true, ilt_false, ile_true, ile_false, Try.ntmps34]) | (refine wantK_split (fun hc => ?_) (fun hc => ?_) <;> (try simp only [Bool.not_eq_true', Bool.not_eq_false', Bool.not_eq_eq_eq_not, Bool.not_true, Bool.not_false, decide_eq_true_eq, decide_eq_false_iff_not, Int.not_lt, Int.not_le] at hc) <;> (try (exfalso; omega)) <;> (try simp (disch := omega) [go_sem, *, wrap64_id, upd_ne, mk3_true, flatten_replicate_one, stepK_if, ilt_true, ilt_false, ile_true, ile_false, Try.ntmps34])) | (refine ac_cond_h fun Kt Kf ht hf => ?_; simp (disch := omega) [go_sem, *]; try (refine ⟨fun hc => ?_, fun hc => ?_⟩ <;> try (exfalso; omega))))
        refine send_ref R2.out (by omega) Ul0 (by omega) ⟨0, 1, a, b, (kn : Int) + j + 1, wd⟩ _ (by omega) (by omega) _ (fun h' n' Y => ?_)
        rw [hsn.out] at Y
        have Y2 := RTurn.from Y (h := h) (n := n) (by omega) fr2.out
        clear Y
        repeat' (first | (refine ac_seq_h fun K hK => ?_) | (refine ac_region_h fun K hK => ?_; simp (disch := omega) [go_sem, *, wrap64_id]) | (refine ac_draw_h mixed (by kernel_rfl) fun K hK => ?_; simp (disch := omega) [go_sem, *, wrap64_id, upd_ne, mk3_true, flatten_replicate_one, stepK_if, ilt_true, ilt_false, ile_true, ile_false, Try.ntmps34]) | (apply Hide.out hK; clear hK K; try with_reducible dsimp only [thenA]) | (apply Hide.out ht; clear ht hf Kt Kf) | (apply Hide.out hf; clear ht hf Kt Kf) | (clear hK K; apply Hide.out hK; clear hK K; try with_reducible dsimp only [thenA]) | (clear hK K; clear hK K; apply Hide.out hK; clear hK K; try with_reducible dsimp only [thenA]) | (refine ac_block ?_) | (refine ac_skip ?_; simp only [thenA, blockA]) | (refine ac_exit ?_; simp only [thenA, blockA, if_true, if_false, Nat.reduceEqDiff]) | (with_reducible show nextK _ _ _ _ _ _ _; simp (disch := omega) [go_sem, *, wrap64_id, upd_ne, mk3_true, flatten_replicate_one, stepK_if, ilt_true, ilt_false, ile_true, ile_false, Try.ntmps34]) | (refine wantK_split (fun hc => ?_) (fun hc => ?_) <;> (try simp only [Bool.not_eq_true', Bool.not_eq_false', Bool.not_eq_eq_eq_not, Bool.not_true, Bool.not_false, decide_eq_true_eq, decide_eq_false_iff_not, Int.not_lt, Int.not_le] at hc) <;> (try (exfalso; omega)) <;> (try simp (disch := omega) [go_sem, *, wrap64_id, upd_ne, mk3_true, flatten_replicate_one, stepK_if, ilt_true, ilt_false, ile_true, ile_false, Try.ntmps34])) | (refine ac_cond_h fun Kt Kf ht hf => ?_; simp (disch := omega) [go_sem, *, wrap64_id, upd_ne, mk3_true, flatten_replicate_one, stepK_if, ilt_true, ilt_false, ile_true, ile_false, Try.ntmps34]; try (refine ⟨fun hc => ?_, fun hc => ?_⟩ <;> try (exfalso; omega))))
        refine round_end (by simp [go_sem]; omega) (Sub.refl _) ⟨j + 1, _, _, by omega, RTurn.up Y2 ?_, rfl⟩ (by simp [intAt, go_sem]; omega)
        omega
      · have hUe : Hide (U = putW u2 RS) := by
          show U = _
          by_cases hjl : j = RS.length
          · rw [hU.out, hjl, List.take_length]
          · have h2 : room U = 0 := by simp only [room]; omega
            rw [hU.out] at h2 ⊢
            have := putW_full (r := RS.drop j) h2
            rw [List.take_append_drop] at this
            exact this.symm
        by_cases in1 : kn + j < (u2.tk a b).said.length
        · have in3 : ((kn + j : Nat) : Int) < (u2.tk a b).said.length := by omega
          have in4 : ¬ (U.mails.length : Int) < 200 := by omega
          replace hin : Hide _ := hin
          repeat' (first | (refine ac_seq_h fun K hK => ?_) | (refine ac_region_h fun K hK => ?_; simp (disch := omega) [go_sem, *, wrap64_id, ilt_true]) | (refine ac_draw_h mixed (by kernel_rfl) fun K hK => ?_; simp (disch := omega) [go_sem, *, wrap64_id, upd_ne, mk3_true, flatten_replicate_one, stepK_if, ilt_true, ilt_false, ile_true, ile_false, Try.ntmps34]) | (apply Hide.out hK; clear hK K; try with_reducible dsimp only [thenA]) | (apply Hide.out ht; clear ht hf Kt Kf) | (apply Hide.out hf; clear ht hf Kt Kf) | (clear hK K; apply Hide.out hK; clear hK K; try with_reducible dsimp only [thenA]) | (clear hK K; clear hK K; apply Hide.out hK; clear hK K; try with_reducible dsimp only [thenA]) | (refine ac_block ?_) | (refine ac_skip ?_; simp only [thenA, blockA]) | (refine ac_exit ?_; simp only [thenA, blockA, if_true, if_false, Nat.reduceEqDiff]) | (with_reducible show nextK _ _ _ _ _ _ _; simp (disch := omega) [go_sem, *, wrap64_id, upd_ne, mk3_true, flatten_replicate_one, stepK_if, ilt_true, ilt_false, ile_true, ile_false, Try.ntmps34]) | (refine wantK_split (fun hc => ?_) (fun hc => ?_) <;> (try simp only [Bool.not_eq_true', Bool.not_eq_false', Bool.not_eq_eq_eq_not, Bool.not_true, Bool.not_false, decide_eq_true_eq, decide_eq_false_iff_not, Int.not_lt, Int.not_le] at hc) <;> (try (exfalso; omega)) <;> (try simp (disch := omega) [go_sem, *, wrap64_id, upd_ne, mk3_true, flatten_replicate_one, stepK_if, ilt_true, ilt_false, ile_true, ile_false, Try.ntmps34])) | (refine ac_cond_h fun Kt Kf ht hf => ?_; simp (disch := omega) [go_sem, *]; try (refine ⟨fun hc => ?_, fun hc => ?_⟩ <;> try (exfalso; omega))))
          refine round_end (by simp [go_sem]) (Sub.refl _) ⟨b + 1, _, _, by omega, RTurn.of (by rw [hnext.out, hn3.out, ← hUe.out]; exact q3.out ⟨(u2.tk a b).said, (u2.tk a b).heard, (kn : Int), m + w.wait⟩ (.fslc g1 g2 g3 ((u2.tk a b).said.map sv)) _ ⟨_, _, _, rfl, hg.out⟩ (by simp (disch := omega) only [upd_ne]) (upd_same _ _ _)) ?_ (fun k k1 k2 k3 => by rw [upd_ne _ _ _ _ k3]; exact fr2.out k k1 k2 k3), rfl⟩ (by simp [intAt, go_sem]; omega)
          omega
        · have in3 : ¬ ((kn + j : Nat) : Int) < (u2.tk a b).said.length := by omega
          replace hin : Hide _ := hin
          repeat' (first | (refine ac_seq_h fun K hK => ?_) | (refine ac_region_h fun K hK => ?_; simp (disch := omega) [go_sem, *, wrap64_id, ilt_false]) | (refine ac_draw_h mixed (by kernel_rfl) fun K hK => ?_; simp (disch := omega) [go_sem, *, wrap64_id, upd_ne, mk3_true, flatten_replicate_one, stepK_if, ilt_true, ilt_false, ile_true, ile_false, Try.ntmps34]) | (apply Hide.out hK; clear hK K; try with_reducible dsimp only [thenA]) | (apply Hide.out ht; clear ht hf Kt Kf) | (apply Hide.out hf; clear ht hf Kt Kf) | (clear hK K; apply Hide.out hK; clear hK K; try with_reducible dsimp only [thenA]) | (clear hK K; clear hK K; apply Hide.out hK; clear hK K; try with_reducible dsimp only [thenA]) | (refine ac_block ?_) | (refine ac_skip ?_; simp only [thenA, blockA]) | (refine ac_exit ?_; simp only [thenA, blockA, if_true, if_false, Nat.reduceEqDiff]) | (with_reducible show nextK _ _ _ _ _ _ _; simp (disch := omega) [go_sem, *, wrap64_id, upd_ne, mk3_true, flatten_replicate_one, stepK_if, ilt_true, ilt_false, ile_true, ile_false, Try.ntmps34]) | (refine wantK_split (fun hc => ?_) (fun hc => ?_) <;> (try simp only [Bool.not_eq_true', Bool.not_eq_false', Bool.not_eq_eq_eq_not, Bool.not_true, Bool.not_false, decide_eq_true_eq, decide_eq_false_iff_not, Int.not_lt, Int.not_le] at hc) <;> (try (exfalso; omega)) <;> (try simp (disch := omega) [go_sem, *, wrap64_id, upd_ne, mk3_true, flatten_replicate_one, stepK_if, ilt_true, ilt_false, ile_true, ile_false, Try.ntmps34])) | (refine ac_cond_h fun Kt Kf ht hf => ?_; simp (disch := omega) [go_sem, *]; try (refine ⟨fun hc => ?_, fun hc => ?_⟩ <;> try (exfalso; omega))))
          refine round_end (by simp [go_sem]) (Sub.refl _) ⟨b + 1, _, _, by omega, RTurn.of (by rw [hnext.out, hn3.out, ← hUe.out]; exact q3.out ⟨(u2.tk a b).said, (u2.tk a b).heard, (kn : Int), m + w.wait⟩ (.fslc g1 g2 g3 ((u2.tk a b).said.map sv)) _ ⟨_, _, _, rfl, hg.out⟩ (by simp (disch := omega) only [upd_ne]) (upd_same _ _ _)) ?_ (fun k k1 k2 k3 => by rw [upd_ne _ _ _ _ k3]; exact fr2.out k k1 k2 k3), rfl⟩ (by simp [intAt, go_sem]; omega)
          omega
    · have hbe : b = S := by omega
      replace R1 : Hide _ := R1; replace uok : Hide _ := uok; replace usil : Hide _ := usil; replace hbe : Hide _ := hbe; replace hd : Hide _ := hd
      repeat' (first | (refine ac_seq_h fun K hK => ?_) | (refine ac_region_h fun K hK => ?_; simp (disch := omega) [go_sem, *, wrap64_id, ilt_false]) | (refine ac_draw_h mixed (by kernel_rfl) fun K hK => ?_; simp (disch := omega) [go_sem, *, wrap64_id, upd_ne, mk3_true, flatten_replicate_one, stepK_if, ilt_true, ilt_false, ile_true, ile_false, Try.ntmps34]) | (apply Hide.out hK; clear hK K; try with_reducible dsimp only [thenA]) | (apply Hide.out ht; clear ht hf Kt Kf) | (apply Hide.out hf; clear ht hf Kt Kf) | (clear hK K; apply Hide.out hK; clear hK K; try with_reducible dsimp only [thenA]) | (clear hK K; clear hK K; apply Hide.out hK; clear hK K; try with_reducible dsimp only [thenA]) | (refine ac_block ?_) | (refine ac_skip ?_; simp only [thenA, blockA]) | (refine ac_exit ?_; simp only [thenA, blockA, if_true, if_false, Nat.reduceEqDiff]) | (with_reducible show nextK _ _ _ _ _ _ _; simp (disch := omega) [go_sem, *, wrap64_id, upd_ne, mk3_true, flatten_replicate_one, stepK_if, ilt_true, ilt_false, ile_true, ile_false, Try.ntmps34]) | (refine wantK_split (fun hc => ?_) (fun hc => ?_) <;> (try simp only [Bool.not_eq_true', Bool.not_eq_false', Bool.not_eq_eq_eq_not, Bool.not_true, Bool.not_false, decide_eq_true_eq, decide_eq_false_iff_not, Int.not_lt, Int.not_le] at hc) <;> (try (exfalso; omega)) <;> (try simp (disch := omega) [go_sem, *, wrap64_id, upd_ne, mk3_true, flatten_replicate_one, stepK_if, ilt_true, ilt_false, ile_true, ile_false, Try.ntmps34])) | (refine ac_cond_h fun Kt Kf ht hf => ?_; simp (disch := omega) [go_sem, *]; try (refine ⟨fun hc => ?_, fun hc => ?_⟩ <;> try (exfalso; omega))))
      refine round_end (by simp [go_sem]) (Sub.refl _) ⟨a + 1, _, _, by omega, RTurn.of (by have h9 := hue.out; rw [hbe.out] at h9; rw [rowP_row, ← h9]; exact R1.out) ?_ fr1.out, rfl⟩ (by simp [intAt, go_sem]; omega)
      omega
  · have hae : a = S := by omega
    obtain ⟨u2, hue⟩ : ∃ u, Hide (u = timeGo w0 (rowP S a 0)) := ⟨_, rfl⟩
    obtain ⟨uok, ust, utk, uwt, ulast, usil⟩ := hu.out a 0 u2 hue.out (.inr ⟨ha, rfl⟩)
    rw [hae] at hue
    rw [hae, ← hue.out] at X
    rw [← hue.out] at hK0
    replace hK0 : Hide _ := hK0
    obtain ⟨V1, T1, R1, nn1, fr1⟩ := X
    have hd1 := R1.hd
    rw [ust] at hd1
    have hX : RTurn u2 p t h n H n1 := ⟨V1, T1, R1, nn1, fr1⟩
    replace R1 : Hide _ := R1; replace fr1 : Hide _ := fr1; replace uok : Hide _ := uok; replace usil : Hide _ := usil; replace hd : Hide _ := hd
    repeat' (first | (refine ac_seq_h fun K hK => ?_) | (refine ac_region_h fun K hK => ?_; simp (disch := omega) [go_sem, *]) | (refine ac_draw_h mixed (by kernel_rfl) fun K hK => ?_; simp (disch := omega) [go_sem, *, wrap64_id, upd_ne, mk3_true, flatten_replicate_one, stepK_if, ilt_true, ilt_false, ile_true, ile_false, Try.ntmps34]) | (apply Hide.out hK; clear hK K; try with_reducible dsimp only [thenA]) | (apply Hide.out ht; clear ht hf Kt Kf) | (apply Hide.out hf; clear ht hf Kt Kf) | (clear hK K; apply Hide.out hK; clear hK K; try with_reducible dsimp only [thenA]) | (clear hK K; clear hK K; apply Hide.out hK; clear hK K; try with_reducible dsimp only [thenA]) | (refine ac_block ?_) | (refine ac_skip ?_; simp only [thenA, blockA]) | (refine ac_exit ?_; simp only [thenA, blockA, if_true]) | (with_reducible show nextK _ _ _ _ _ _ _; simp (disch := omega) [go_sem, *, wrap64_id, upd_ne, mk3_true, flatten_replicate_one, stepK_if, ilt_true, ilt_false, ile_true, ile_false, Try.ntmps34]) | (refine wantK_split (fun hc => ?_) (fun hc => ?_) <;> (try simp only [Bool.not_eq_true', Bool.not_eq_false', Bool.not_eq_eq_eq_not, Bool.not_true, Bool.not_false, decide_eq_true_eq, decide_eq_false_iff_not, Int.not_lt, Int.not_le] at hc) <;> (try (exfalso; omega)) <;> (try simp (disch := omega) [go_sem, *, wrap64_id, upd_ne, mk3_true, flatten_replicate_one, stepK_if, ilt_true, ilt_false, ile_true, ile_false, Try.ntmps34])) | (refine ac_cond_h fun Kt Kf ht hf => ?_; simp (disch := omega) [go_sem, *]; try (refine ⟨fun hc => ?_, fun hc => ?_⟩ <;> try (exfalso; omega))))
    refine ac_ret ?_
    refine ⟨by simp, _, (by simp (disch := omega) [go_sem] <;> rfl), ?_⟩
    exact ret_id (hK0.out _ _ (RTurn.up hX (by dsimp only; omega)))
end
end Go.AM
