/- Walks: the specification's New, SameMails, the law's seen; RelayWorlds over the abstract machine. Conditions: as each theorem says. -/
import Derived.Test.YtjbphojecieloaaXc
namespace Go.AM
open Go.Proofs Wl
set_option maxRecDepth 10000
set_option maxHeartbeats 4000000
theorem flatT_new (S : Nat) (wait : Int) : flatT (newW S wait) (fun _ _ => .fslc true true 0 []) = zrow (.agg [.fslc true true 0 [], iv .i64 0, iv .i64 0, iv .i64 0]) (S * S) := by
  have key : ∀ l : List (Nat × Nat), l.flatMap (rowC (fun _ _ => .fslc true true 0 []) (newW S wait)) = (List.replicate l.length [AV.fslc true true 0 [], iv .i64 0, iv .i64 0, iv .i64 0]).flatten := by
    intro l
    induction l with
    | nil => rfl
    | cons q r ih => rw [List.flatMap_cons, ih, List.length_cons, List.replicate_succ, List.flatten_cons]; rfl
  show (grid S).flatMap _ = _
  rw [key, ← rowP_all, rowP_len, Nat.add_zero]; rfl
theorem new_ref (st wait : Int) {h : AHeap} (n : Nat) (K0 : AV → AHeap → Nat → Prop)
    (hno : (within st 1 10 && within wait 1 1440) = false → ∀ h' n', n ≤ n' → (∀ k, k < n → h' k = h k) → K0 (.agg [.c (.pointer none), iv .i64 1]) h' n')
    (hyes : (within st 1 10 && within wait 1 1440) = true → ∀ p t V T h' n', RRep (newW st.toNat wait) p t V T h' → n ≤ p → n ≤ t → p < n' → t < n' → (∀ k, k < n → h' k = h k) → K0 (.agg [.ptr p 0, iv .i64 0]) h' n') : ACalls Try.prog 19 [iv .i64 st, iv .i64 wait] h n K0 := by
  refine ACalls.entry (by kernel_rfl) fun hb _ => calls_of Try.func19 rfl (by kernel_rfl) (by simp [Try.ntmps19]) ?_
  have c1 := within_ref st 1 10
  have c2 := within_ref wait 1 1440
  replace hno : Hide _ := hno; replace hyes : Hide _ := hyes
  cases w1 : within st 1 10
  · rw [w1] at c1 hno
    replace w1 : Hide _ := w1; replace hno : Hide _ := hno
    generalize within wait 1 1440 = d at *
    cases d
    all_goals
      skip
      repeat' (first | (refine ac_seq_h fun K hK => ?_) | (refine ac_region_h fun K hK => ?_; simp (disch := omega) [go_sem, *, Try.ntmps19 ]) | (refine ac_draw_h mixed (by kernel_rfl) fun K hK => ?_; simp (disch := omega) [go_sem, *, wrap64_id, upd_ne, mk3_true, flatten_replicate_one, stepK_if, ilt_true, ilt_false, ile_true, ile_false, Try.ntmps19 ]) | (apply Hide.out hK; clear hK K; try with_reducible dsimp only [thenA]) | (apply Hide.out ht; clear ht hf Kt Kf) | (apply Hide.out hf; clear ht hf Kt Kf) | (clear hK K; apply Hide.out hK; clear hK K; try with_reducible dsimp only [thenA]) | (clear hK K; clear hK K; apply Hide.out hK; clear hK K; try with_reducible dsimp only [thenA]) | (with_reducible refine APure.call (c1) ?_; try simp (disch := omega) [go_sem, * ]) | (with_reducible refine APure.call (c2) ?_; try simp (disch := omega) [go_sem, * ]) | (refine ac_block ?_) | (refine ac_skip ?_; simp only [thenA, blockA]) | (refine ac_exit ?_; simp only [thenA, blockA, if_true, if_false, Nat.reduceEqDiff]) | (with_reducible show nextK _ _ _ _ _ _ _; simp (disch := omega) [go_sem, *, wrap64_id, upd_ne, mk3_true, flatten_replicate_one, stepK_if, ilt_true, ilt_false, ile_true, ile_false, Try.ntmps19 ]) | (refine wantK_split (fun hc => ?_) (fun hc => ?_) <;> (try simp only [Bool.not_eq_true', Bool.not_eq_false', Bool.not_eq_eq_eq_not, Bool.not_true, Bool.not_false, decide_eq_true_eq, decide_eq_false_iff_not, Int.not_lt, Int.not_le] at hc) <;> (try (exfalso; omega)) <;> (try simp (disch := omega) [go_sem, *, wrap64_id, upd_ne, mk3_true, flatten_replicate_one, stepK_if, ilt_true, ilt_false, ile_true, ile_false, Try.ntmps19 ])) | (refine ac_cond_h fun Kt Kf ht hf => ?_; simp (disch := omega) [go_sem, * ]; try (refine ⟨fun hc => ?_, fun hc => ?_⟩ <;> try (exfalso; omega))))
      refine ac_ret ?_
      refine ⟨by simp, _, (by simp (disch := omega) [go_sem] <;> rfl), ?_⟩
      exact ret_id (hno.out rfl _ _ (by dsimp only; omega) fun k hk => by simp (disch := omega) only [upd_ne])
  · cases w2 : within wait 1 1440
    · rw [w1] at c1
      rw [w2] at c2
      rw [w1, w2] at hno
      replace hno : Hide _ := hno; replace w1 : Hide _ := w1; replace w2 : Hide _ := w2
      repeat' (first | (refine ac_seq_h fun K hK => ?_) | (refine ac_region_h fun K hK => ?_; simp (disch := omega) [go_sem, *, Try.ntmps19 ]) | (refine ac_draw_h mixed (by kernel_rfl) fun K hK => ?_; simp (disch := omega) [go_sem, *, wrap64_id, upd_ne, mk3_true, flatten_replicate_one, stepK_if, ilt_true, ilt_false, ile_true, ile_false, Try.ntmps19 ]) | (apply Hide.out hK; clear hK K; try with_reducible dsimp only [thenA]) | (apply Hide.out ht; clear ht hf Kt Kf) | (apply Hide.out hf; clear ht hf Kt Kf) | (clear hK K; apply Hide.out hK; clear hK K; try with_reducible dsimp only [thenA]) | (clear hK K; clear hK K; apply Hide.out hK; clear hK K; try with_reducible dsimp only [thenA]) | (with_reducible refine APure.call (c1) ?_; try simp (disch := omega) [go_sem, * ]) | (with_reducible refine APure.call (c2) ?_; try simp (disch := omega) [go_sem, * ]) | (refine ac_block ?_) | (refine ac_skip ?_; simp only [thenA, blockA]) | (refine ac_exit ?_; simp only [thenA, blockA, if_true, if_false, Nat.reduceEqDiff]) | (with_reducible show nextK _ _ _ _ _ _ _; simp (disch := omega) [go_sem, *, wrap64_id, upd_ne, mk3_true, flatten_replicate_one, stepK_if, ilt_true, ilt_false, ile_true, ile_false, Try.ntmps19 ]) | (refine wantK_split (fun hc => ?_) (fun hc => ?_) <;> (try simp only [Bool.not_eq_true', Bool.not_eq_false', Bool.not_eq_eq_eq_not, Bool.not_true, Bool.not_false, decide_eq_true_eq, decide_eq_false_iff_not, Int.not_lt, Int.not_le] at hc) <;> (try (exfalso; omega)) <;> (try simp (disch := omega) [go_sem, *, wrap64_id, upd_ne, mk3_true, flatten_replicate_one, stepK_if, ilt_true, ilt_false, ile_true, ile_false, Try.ntmps19 ])) | (refine ac_cond_h fun Kt Kf ht hf => ?_; simp (disch := omega) [go_sem, * ]; try (refine ⟨fun hc => ?_, fun hc => ?_⟩ <;> try (exfalso; omega))))
      refine ac_ret ?_
      refine ⟨by simp, _, (by simp (disch := omega) [go_sem] <;> rfl), ?_⟩
      exact ret_id (hno.out rfl _ _ (by dsimp only; omega) fun k hk => by simp (disch := omega) only [upd_ne])
    · obtain ⟨a1, a2⟩ := Wl.within_iff.1 w1
      rw [w1] at c1
      rw [w2] at c2
      rw [w1, w2] at hyes
      obtain ⟨S, rfl⟩ : ∃ S : Nat, st = S := ⟨st.toNat, by omega⟩
      rw [Int.toNat_natCast] at hyes
      replace hyes : Hide _ := hyes; replace w1 : Hide _ := w1; replace w2 : Hide _ := w2
      have hSS : ((S : Int) * (S : Int)) = ((S * S : Nat) : Int) := by simp
      have h100 : S * S ≤ 10 * 10 := Nat.mul_le_mul (by omega) (by omega)
      obtain ⟨Y, hY⟩ : ∃ Y, Hide (Y = S * S) := ⟨_, rfl⟩
      rw [← hY.out] at hSS h100
      have hz : Hide (flatT (newW S wait) (fun _ _ => .fslc true true 0 []) = zrow (.agg [.fslc true true 0 [], iv .i64 0, iv .i64 0, iv .i64 0]) Y) := by
        show flatT _ _ = _
        rw [hY.out]; exact flatT_new S wait
      have hmk : aMake Try.prog 75 (Y : Int) (Y : Int) = some (4, zrow (.agg [.fslc true true 0 [], iv .i64 0, iv .i64 0, iv .i64 0]) Y, Y) := by
        unfold aMake
        rw [eltOf75]; simp only [szOf88, byOf88, zerOf88]
        rw [if_pos ⟨rfl, by omega, by omega, by omega, by omega, by omega, by simp [cellsOf, AV.scalar]⟩, Int.toNat_natCast]
      repeat' (first | (refine ac_seq_h fun K hK => ?_) | (refine ac_region_h fun K hK => ?_; simp (disch := omega) [go_sem, *, wrap64_id, upd_ne, Try.ntmps19 ]) | (apply Hide.out hK; clear hK K; try with_reducible dsimp only [thenA]) | (apply Hide.out ht; clear ht hf Kt Kf) | (apply Hide.out hf; clear ht hf Kt Kf) | (clear hK K; apply Hide.out hK; clear hK K; try with_reducible dsimp only [thenA]) | (clear hK K; clear hK K; apply Hide.out hK; clear hK K; try with_reducible dsimp only [thenA]) | (with_reducible refine APure.call (c1) ?_; try simp (disch := omega) [go_sem, * ]) | (with_reducible refine APure.call (c2) ?_; try simp (disch := omega) [go_sem, * ]) | (refine ac_block ?_) | (refine ac_skip ?_; simp only [thenA]) | (refine ac_exit ?_; simp only [thenA, blockA, if_true, if_false, Nat.reduceEqDiff]) | (with_reducible show nextK _ _ _ _ _ _ _; simp (disch := omega) [go_sem, *, wrap64_id, upd_ne, mk3_true, flatten_replicate_one, stepK_if, ilt_true, ilt_false, ile_true, ile_false, Try.ntmps19 ]) | (refine wantK_split (fun hc => ?_) (fun hc => ?_) <;> (try simp only [Bool.not_eq_true', Bool.not_eq_false', Bool.not_eq_eq_eq_not, Bool.not_true, Bool.not_false, decide_eq_true_eq, decide_eq_false_iff_not, Int.not_lt, Int.not_le] at hc) <;> (try (exfalso; omega)) <;> (try simp (disch := omega) [go_sem, *, wrap64_id, upd_ne, mk3_true, flatten_replicate_one, stepK_if, ilt_true, ilt_false, ile_true, ile_false, Try.ntmps19 ])) | (refine ac_cond_h fun Kt Kf ht hf => ?_; simp (disch := omega) [go_sem, * ]; try (refine ⟨fun hc => ?_, fun hc => ?_⟩ <;> try (exfalso; omega))))
      refine ac_ret ?_
      refine ⟨by simp, _, (by simp (disch := omega) [go_sem] <;> rfl), ?_⟩
      have hYS : S * S = Y := hY.out.symm
      refine ret_id (hyes.out rfl (n + 1 + 3 + 3 + 6 + 7) (n + 1 + 3 + 3 + 6 + 5) (.fslc true true 0 []) (fun _ _ => .fslc true true 0 []) _ _ ⟨?_, ⟨true, true, 0, rfl, fun h => absurd rfl h⟩, fun a b _ _ => ⟨true, true, 0, rfl, fun h => absurd rfl h⟩, ?_, by omega⟩ (by omega) (by omega) (by dsimp only; omega) (by dsimp only; omega) fun k hk => by simp (disch := omega) only [upd_ne])
      · simp (disch := omega) only [upd_ne, upd_same]
        show _ = some (AObj.cells [iv .i64 S, iv .i64 wait, iv .i64 0, iv .i64 (0 + 1), .slc (n + 1 + 3 + 3 + 6 + 5) 0 (S * S) 4, .fslc true true 0 []])
        rw [hYS]; rfl
      · simp (disch := omega) only [upd_ne, upd_same]
        rw [hz.out]; rfl
end Go.AM

namespace Go.AM
open Go.Proofs Wl
set_option maxRecDepth 10000
set_option maxHeartbeats 4000000
theorem eq36 (a b c d e : Int) (t : ByteArray) : aggEq Try.prog 36 [iv .i64 a, iv .i64 b, iv .i64 c, iv .i64 d, iv .i64 e, sv t] [iv .i64 a, iv .i64 b, iv .i64 c, iv .i64 d, iv .i64 e, sv t] = some true := by
  have h1 : eqPlan Try.prog 36 = some [(0, .int), (1, .int), (2, .int), (3, .int), (4, .int), (5, .str)] := by kernel_rfl
  rw [aggEq_plan h1]
  simp [planEq, cellEq]
theorem sameM_ref (A : List Mail) (n1 f1 n2 f2 : Bool) (s1 s2 : Nat) (hs1 : A ≠ [] → s1 = 6) (hs2 : A ≠ [] → s2 = 6) (hA : A.length ≤ 1000) : APure Try.prog 43 [.fslc n1 f1 s1 (A.map encMail), .fslc n2 f2 s2 (A.map encMail)] (bv true) := by
  intro h n
  refine ACalls.pure (ACalls.entry (by kernel_rfl) fun hb _ => calls_of Try.func43 rfl (by kernel_rfl) (by simp [Try.ntmps43]) ?_)
  replace hs1 : Hide _ := hs1; replace hs2 : Hide _ := hs2
  repeat' (first | (refine ac_seq_h fun K hK => ?_) | (refine ac_region_h fun K hK => ?_; simp (disch := omega) [go_sem, *, Try.ntmps43]) | (refine ac_draw_h mixed (by kernel_rfl) fun K hK => ?_; simp (disch := omega) [go_sem, *, wrap64_id, upd_ne, mk3_true, flatten_replicate_one, stepK_if, ilt_true, ilt_false, ile_true, ile_false, Try.ntmps43]) | (apply Hide.out hK; clear hK K; try with_reducible dsimp only [thenA]) | (apply Hide.out ht; clear ht hf Kt Kf) | (apply Hide.out hf; clear ht hf Kt Kf) | (clear hK K; apply Hide.out hK; clear hK K; try with_reducible dsimp only [thenA]) | (clear hK K; clear hK K; apply Hide.out hK; clear hK K; try with_reducible dsimp only [thenA]) | (refine ac_block ?_) | (refine ac_skip ?_; simp only [thenA]) | (refine ac_exit ?_; simp only [thenA, blockA, if_true, if_false, Nat.reduceEqDiff]) | (with_reducible show nextK _ _ _ _ _ _ _; simp (disch := omega) [go_sem, *, wrap64_id, upd_ne, mk3_true, flatten_replicate_one, stepK_if, ilt_true, ilt_false, ile_true, ile_false, Try.ntmps43]) | (refine wantK_split (fun hc => ?_) (fun hc => ?_) <;> (try simp only [Bool.not_eq_true', Bool.not_eq_false', Bool.not_eq_eq_eq_not, Bool.not_true, Bool.not_false, decide_eq_true_eq, decide_eq_false_iff_not, Int.not_lt, Int.not_le] at hc) <;> (try (exfalso; omega)) <;> (try simp (disch := omega) [go_sem, *, wrap64_id, upd_ne, mk3_true, flatten_replicate_one, stepK_if, ilt_true, ilt_false, ile_true, ile_false, Try.ntmps43])) | (refine ac_cond_h fun Kt Kf ht hf => ?_; simp (disch := omega) [go_sem, *]; try (refine ⟨fun hc => ?_, fun hc => ?_⟩ <;> try (exfalso; omega))))
  refine ac_loop_wk (fun s' => ∃ (k n' : Nat), n ≤ n' ∧ k ≤ A.length ∧ s' = ⟨26, [(0, .fslc n1 f1 s1 (A.map encMail)), (1, .fslc n2 f2 s2 (A.map encMail)), (5, iv .i64 k)], h, n'⟩) (fun z => A.length - (intAt z 5).toNat) ?_ ?_
  · refine loop_start (by simp [go_sem]) (Sub.refl _) ⟨0, _, ?_, Nat.zero_le _, rfl⟩
    omega
  rintro s' ⟨k, n', hn', hk, rfl⟩
  by_cases hlt : k < A.length
  · obtain ⟨m, hm1, hm2, _⟩ := at_k hlt
    obtain ⟨mi, mk, mf, mt, mn, mx⟩ := m
    obtain rfl := hs1.out (by intro e; rw [e] at hlt; simp at hlt)
    obtain rfl := hs2.out (by intro e; rw [e] at hlt; simp at hlt)
    replace hm2 : Hide _ := hm2
    repeat' (first | (refine ac_seq_h fun K hK => ?_) | (refine ac_region_h fun K hK => ?_; simp (disch := omega) [go_sem, *, ilt_true]) | (refine ac_draw_h mixed (by kernel_rfl) fun K hK => ?_; simp (disch := omega) [go_sem, *, ile_true]) | (apply Hide.out hK; clear hK K; try with_reducible dsimp only [thenA]) | (apply Hide.out ht; clear ht hf Kt Kf) | (apply Hide.out hf; clear ht hf Kt Kf) | (clear hK K; apply Hide.out hK; clear hK K; try with_reducible dsimp only [thenA]) | (clear hK K; clear hK K; apply Hide.out hK; clear hK K; try with_reducible dsimp only [thenA]) | (refine ac_block ?_) | (refine ac_skip ?_; simp only [thenA]) | (refine ac_exit ?_; simp only [thenA, blockA, if_true, if_false, Nat.reduceEqDiff]) | (with_reducible show nextK _ _ _ _ _ _ _; simp (disch := omega) [go_sem, *, wrap64_id, upd_ne, mk3_true, flatten_replicate_one, stepK_if, ilt_true, ilt_false, ile_true, ile_false, Try.ntmps43]) | (refine wantK_split (fun hc => ?_) (fun hc => ?_) <;> (try simp only [Bool.not_eq_true', Bool.not_eq_false', Bool.not_eq_eq_eq_not, Bool.not_true, Bool.not_false, decide_eq_true_eq, decide_eq_false_iff_not, Int.not_lt, Int.not_le] at hc) <;> (try (exfalso; omega)) <;> (try simp (disch := omega) [go_sem, *, wrap64_id, upd_ne, mk3_true, flatten_replicate_one, stepK_if, ilt_true, ilt_false, ile_true, ile_false, Try.ntmps43])) | (refine ac_cond_h fun Kt Kf ht hf => ?_; simp (disch := omega) [go_sem, *]; try (refine ⟨fun hc => ?_, fun hc => ?_⟩ <;> try (exfalso; omega))))
    simp only [eq36]
    repeat' (first | (refine ac_seq_h fun K hK => ?_) | (refine ac_region_h fun K hK => ?_; simp (disch := omega) [go_sem, *, wrap64_id]) | (refine ac_draw_h mixed (by kernel_rfl) fun K hK => ?_; simp (disch := omega) [go_sem, *, wrap64_id, upd_ne, mk3_true, flatten_replicate_one, stepK_if, ilt_true, ilt_false, ile_true, ile_false, Try.ntmps43]) | (apply Hide.out hK; clear hK K; try with_reducible dsimp only [thenA]) | (apply Hide.out ht; clear ht hf Kt Kf) | (apply Hide.out hf; clear ht hf Kt Kf) | (clear hK K; apply Hide.out hK; clear hK K; try with_reducible dsimp only [thenA]) | (clear hK K; clear hK K; apply Hide.out hK; clear hK K; try with_reducible dsimp only [thenA]) | (refine ac_block ?_) | (refine ac_skip ?_; simp only [thenA, blockA]) | (refine ac_exit ?_; simp only [thenA, blockA, if_true, if_false, Nat.reduceEqDiff]) | (with_reducible show nextK _ _ _ _ _ _ _; simp (disch := omega) [go_sem, *, wrap64_id, upd_ne, mk3_true, flatten_replicate_one, stepK_if, ilt_true, ilt_false, ile_true, ile_false, Try.ntmps43]) | (refine wantK_split (fun hc => ?_) (fun hc => ?_) <;> (try simp only [Bool.not_eq_true', Bool.not_eq_false', Bool.not_eq_eq_eq_not, Bool.not_true, Bool.not_false, decide_eq_true_eq, decide_eq_false_iff_not, Int.not_lt, Int.not_le] at hc) <;> (try (exfalso; omega)) <;> (try simp (disch := omega) [go_sem, *, wrap64_id, upd_ne, mk3_true, flatten_replicate_one, stepK_if, ilt_true, ilt_false, ile_true, ile_false, Try.ntmps43])) | (refine ac_cond_h fun Kt Kf ht hf => ?_; simp (disch := omega) [go_sem, *]; try (refine ⟨fun hc => ?_, fun hc => ?_⟩ <;> try (exfalso; omega))))
    refine round_end (by simp [go_sem]) (Sub.refl _) ⟨k + 1, _, ?_, by omega, rfl⟩ (by simp [intAt, go_sem]; omega)
    omega
  · skip
    repeat' (first | (refine ac_seq_h fun K hK => ?_) | (refine ac_region_h fun K hK => ?_; simp (disch := omega) [go_sem, *, ilt_false]) | (refine ac_draw_h mixed (by kernel_rfl) fun K hK => ?_; simp (disch := omega) [go_sem, *, wrap64_id, upd_ne, mk3_true, flatten_replicate_one, stepK_if, ilt_true, ilt_false, ile_true, ile_false, Try.ntmps43]) | (apply Hide.out hK; clear hK K; try with_reducible dsimp only [thenA]) | (apply Hide.out ht; clear ht hf Kt Kf) | (apply Hide.out hf; clear ht hf Kt Kf) | (clear hK K; apply Hide.out hK; clear hK K; try with_reducible dsimp only [thenA]) | (clear hK K; clear hK K; apply Hide.out hK; clear hK K; try with_reducible dsimp only [thenA]) | (refine ac_block ?_) | (refine ac_skip ?_; simp only [thenA, blockA]) | (refine ac_exit ?_; simp only [thenA, blockA, if_true]) | (with_reducible show nextK _ _ _ _ _ _ _; simp (disch := omega) [go_sem, *, wrap64_id, upd_ne, mk3_true, flatten_replicate_one, stepK_if, ilt_true, ilt_false, ile_true, ile_false, Try.ntmps43]) | (refine wantK_split (fun hc => ?_) (fun hc => ?_) <;> (try simp only [Bool.not_eq_true', Bool.not_eq_false', Bool.not_eq_eq_eq_not, Bool.not_true, Bool.not_false, decide_eq_true_eq, decide_eq_false_iff_not, Int.not_lt, Int.not_le] at hc) <;> (try (exfalso; omega)) <;> (try simp (disch := omega) [go_sem, *, wrap64_id, upd_ne, mk3_true, flatten_replicate_one, stepK_if, ilt_true, ilt_false, ile_true, ile_false, Try.ntmps43])) | (refine ac_cond_h fun Kt Kf ht hf => ?_; simp (disch := omega) [go_sem, *]; try (refine ⟨fun hc => ?_, fun hc => ?_⟩ <;> try (exfalso; omega))))
    refine ac_ret ?_
    refine ⟨by simp, _, (by simp (disch := omega) [go_sem] <;> rfl), ?_⟩
    refine ret_id ⟨fun j hj => rfl, by simp [go_sem, below], by simp [go_sem], rfl, rfl⟩
end Go.AM

namespace Go.AM
open Go.Proofs Wl
set_option maxRecDepth 10000
set_option maxHeartbeats 4000000
theorem seen_at {w : Wd} {p p' t b0 n0 : Nat} {h0 h : AHeap} {V : AV} {T : Nat → Nat → AV} (A : At w p b0 h0 h n0) (R : RRep w p' t V T h) (hw : Wok w) (a b : Int) (n : Nat) : APureAt Try.prog 21 [.ptr p 0, .ptr p' 0, iv .i64 a, iv .i64 b] h n (bv true) := by
  refine ACalls.pure (ACalls.entry (by kernel_rfl) fun hb _ => calls_of Try.func21 rfl (by kernel_rfl) (by simp [Try.ntmps21]) ?_)
  have hd := R.hd
  have c13 := fun k => At.due A hw a b k
  have c41 := fun k => due_ref R hw a b k
  have c42 := fun k => At.tick A k
  obtain ⟨M1, hM1, c11⟩ := At.mails A hw
  obtain ⟨m1, m2, m3, rfl, hm⟩ := hM1
  obtain ⟨v1, v2, v3, rfl, hv⟩ := R.mv
  have c43 := sameM_ref w.mails m1 m2 v1 v2 m3 v3 hm hv (by have := hw.ml; omega)
  obtain ⟨S1, hS1, c17⟩ := At.said A hw a b
  obtain ⟨S2, hS2, c44⟩ := said_ref R hw a b
  obtain ⟨s1, s2, s3, rfl, hs⟩ := hS1
  obtain ⟨u1, u2, u3, rfl, hu⟩ := hS2
  obtain ⟨_, _, _, _, l1, _⟩ := once_law hw a b
  obtain ⟨_, _, _, _, _, l2⟩ := once_law hw b a
  have c14 := same_spec (saidW w a b) (saidW w a b) s1 s2 u1 u2 s3 u3 hs hu l1 l1
  rw [sameL_refl] at c14
  obtain ⟨H1, hH1, c15⟩ := At.heard A hw a b
  obtain ⟨H2, hH2, c45⟩ := heard_ref R hw a b
  obtain ⟨x1, x2, x3, rfl, hx⟩ := hH1
  obtain ⟨y1, y2, y3, rfl, hy⟩ := hH2
  have d14 := same_spec (heardW w a b) (heardW w a b) x1 x2 y1 y2 x3 y3 hx hy l2 l2
  rw [sameL_refl] at d14
  have c16 := fun k => At.open A hw a b k
  have c46 := fun k => open_ref R hw a b k
  generalize heardW w a b = HW at *
  generalize saidW w a b = SW at *
  generalize openW w a b = OW at *
  generalize dueW w a b = DW at *
  obtain ⟨d1, d2⟩ := DW
  replace c13 : Hide _ := c13; replace c41 : Hide _ := c41; replace c42 : Hide _ := c42; replace c11 : Hide _ := c11; replace c17 : Hide _ := c17; replace c44 : Hide _ := c44; replace c15 : Hide _ := c15; replace c45 : Hide _ := c45; replace c16 : Hide _ := c16; replace c46 : Hide _ := c46; replace A : Hide _ := A
  clear hm hv hs hu hx hy R hw l1 l2
  repeat' (first | (refine ac_seq_h fun K hK => ?_) | (refine ac_region_h fun K hK => ?_; simp (disch := omega) [go_sem, *, Try.ntmps21]) | (apply Hide.out hK; clear hK K; try with_reducible dsimp only [thenA]) | (apply Hide.out ht; clear ht hf Kt Kf) | (apply Hide.out hf; clear ht hf Kt Kf) | (clear hK K; apply Hide.out hK; clear hK K; try with_reducible dsimp only [thenA]) | (clear hK K; clear hK K; apply Hide.out hK; clear hK K; try with_reducible dsimp only [thenA]) | (refine ac_block ?_) | (refine ac_skip ?_; simp only [thenA, blockA]) | (refine ac_exit ?_; simp only [thenA, blockA, if_true, if_false, Nat.reduceEqDiff]) | (with_reducible show nextK _ _ _ _ _ _ _; simp (disch := omega) [go_sem, *, wrap64_id, upd_ne, mk3_true, flatten_replicate_one, stepK_if, ilt_true, ilt_false, ile_true, ile_false, Try.ntmps21]) | (refine wantK_split (fun hc => ?_) (fun hc => ?_) <;> (try simp only [Bool.not_eq_true', Bool.not_eq_false', Bool.not_eq_eq_eq_not, Bool.not_true, Bool.not_false, decide_eq_true_eq, decide_eq_false_iff_not, Int.not_lt, Int.not_le] at hc) <;> (try (exfalso; omega)) <;> (try simp (disch := omega) [go_sem, *, wrap64_id, upd_ne, mk3_true, flatten_replicate_one, stepK_if, ilt_true, ilt_false, ile_true, ile_false, Try.ntmps21])) | (refine ac_cond_h fun Kt Kf ht hf => ?_; simp (disch := omega) [go_sem, *, wrap64_id, upd_ne, mk3_true, flatten_replicate_one, stepK_if, ilt_true, ilt_false, ile_true, ile_false, Try.ntmps21]; try (refine ⟨fun hc => ?_, fun hc => ?_⟩ <;> try (exfalso; omega))))
  refine APureAt.call (c13.out _) ?_
  repeat' (first | (refine ac_seq_h fun K hK => ?_) | (refine ac_region_h fun K hK => ?_; simp (disch := omega) [go_sem, *]) | (apply Hide.out hK; clear hK K; try with_reducible dsimp only [thenA]) | (apply Hide.out ht; clear ht hf Kt Kf) | (apply Hide.out hf; clear ht hf Kt Kf) | (clear hK K; apply Hide.out hK; clear hK K; try with_reducible dsimp only [thenA]) | (clear hK K; clear hK K; apply Hide.out hK; clear hK K; try with_reducible dsimp only [thenA]) | (refine ac_block ?_) | (refine ac_skip ?_; simp only [thenA, blockA]) | (refine ac_exit ?_; simp only [thenA, blockA, if_true, if_false, Nat.reduceEqDiff]) | (with_reducible show nextK _ _ _ _ _ _ _; simp (disch := omega) [go_sem, *]) | (refine wantK_split (fun hc => ?_) (fun hc => ?_) <;> (try simp only [Bool.not_eq_true', Bool.not_eq_false', Bool.not_eq_eq_eq_not, Bool.not_true, Bool.not_false, decide_eq_true_eq, decide_eq_false_iff_not, Int.not_lt, Int.not_le] at hc) <;> (try (exfalso; omega)) <;> (try simp (disch := omega) [go_sem, *, wrap64_id, upd_ne, mk3_true, flatten_replicate_one, stepK_if, ilt_true, ilt_false, ile_true, ile_false, Try.ntmps21])) | (refine ac_cond_h fun Kt Kf ht hf => ?_; simp (disch := omega) [go_sem, *, wrap64_id, upd_ne, mk3_true, flatten_replicate_one, stepK_if, ilt_true, ilt_false, ile_true, ile_false, Try.ntmps21]; try (refine ⟨fun hc => ?_, fun hc => ?_⟩ <;> try (exfalso; omega))))
  refine APureAt.call (c41.out _) ?_
  repeat' (first | (refine ac_seq_h fun K hK => ?_) | (refine ac_region_h fun K hK => ?_; simp (disch := omega) [go_sem, *, wrap64_id, upd_ne, mk3_true, flatten_replicate_one, stepK_if, ilt_true, ilt_false, ile_true, ile_false, Try.ntmps21]) | (apply Hide.out hK; clear hK K; try with_reducible dsimp only [thenA]) | (apply Hide.out ht; clear ht hf Kt Kf) | (apply Hide.out hf; clear ht hf Kt Kf) | (clear hK K; apply Hide.out hK; clear hK K; try with_reducible dsimp only [thenA]) | (clear hK K; clear hK K; apply Hide.out hK; clear hK K; try with_reducible dsimp only [thenA]) | (refine ac_block ?_) | (refine ac_skip ?_; simp only [thenA, blockA]) | (refine ac_exit ?_; simp only [thenA, blockA, if_true, if_false, Nat.reduceEqDiff]) | (with_reducible show nextK _ _ _ _ _ _ _; simp (disch := omega) [go_sem, *]) | (refine wantK_split (fun hc => ?_) (fun hc => ?_) <;> (try simp only [Bool.not_eq_true', Bool.not_eq_false', Bool.not_eq_eq_eq_not, Bool.not_true, Bool.not_false, decide_eq_true_eq, decide_eq_false_iff_not, Int.not_lt, Int.not_le] at hc) <;> (try (exfalso; omega)) <;> (try simp (disch := omega) [go_sem, *, wrap64_id, upd_ne, mk3_true, flatten_replicate_one, stepK_if, ilt_true, ilt_false, ile_true, ile_false, Try.ntmps21])) | (refine ac_cond_h fun Kt Kf ht hf => ?_; simp (disch := omega) [go_sem, *, wrap64_id, upd_ne, mk3_true, flatten_replicate_one, stepK_if, ilt_true, ilt_false, ile_true, ile_false, Try.ntmps21]; try (refine ⟨fun hc => ?_, fun hc => ?_⟩ <;> try (exfalso; omega))))
  refine ac_quiet mixed (by kernel_rfl) ?_
  rw [List.toList_toArray]
  repeat' (first | (refine aQ_s rfl rfl (by (simp (disch := omega) [go_sem, fVal, *] <;> rfl)) ?_; simp only [pS_some, Nat.reduceAdd]) | (refine aQ_c rfl (by simp (disch := omega) [go_sem, aVal, callOf, callK, *]; first | exact c42.out _ | exact c11.out _ | exact c17.out _ | exact c44.out _ | exact c15.out _ | exact c45.out _ | exact c16.out _ | exact c46.out _ | exact c43 _ _ | exact c14 _ _ | exact d14 _ _) ?_; simp only [pS_some, Nat.reduceAdd]))
  refine aQ_end ?_
  refine hK.out _ ?_
  clear hK K
  try dsimp only [thenA]
  refine ac_ret ?_
  refine ⟨by simp, _, (by simp (disch := omega) [go_sem] <;> rfl), ?_⟩
  refine ret_id ⟨fun j hj => rfl, by simp [go_sem, below], by simp [go_sem]⟩
end Go.AM

namespace Go.AM
open Go.Proofs Wl
set_option maxRecDepth 10000
set_option maxHeartbeats 4000000
/-- a world and one of the specification that lie beside each other in memory made since a start -/
def Twr (w v : Wd) (p p' t b : Nat) (h0 h : AHeap) (n : Nat) : Prop := ∃ N V V' T, WRep w N V h ∧ RRep v p' t V' T h ∧ N .p = p ∧ (∀ k, own w.st N k → b ≤ k ∧ k < n) ∧ (b ≤ p' ∧ p' < n) ∧ (b ≤ t ∧ t < n) ∧ (∀ k, own w.st N k → k ≠ p' ∧ k ≠ t) ∧ (∀ k, k < b → h k = h0 k) ∧ b ≤ n
section
variable {w v : Wd} {p p' t b : Nat} {h0 h : AHeap} {n n1 : Nat}
theorem Twr.mono {n' : Nat} (A : Twr w v p p' t b h0 h n) (hn : n ≤ n') : Twr w v p p' t b h0 h n' := by
  obtain ⟨N, V, V', T, R, S, hp, ho, a1, a2, hd, hf, hb⟩ := A
  exact ⟨N, V, V', T, R, S, hp, fun k hk => ⟨(ho k hk).1, by have := (ho k hk).2; omega⟩, by omega, by omega, hd, hf, by omega⟩
theorem Twr.congr {h' : AHeap} (A : Twr w v p p' t b h0 h n) (hk : ∀ k, k < n → h' k = h k) : Twr w v p p' t b h0 h' n := by
  obtain ⟨N, V, V', T, R, S, hp, ho, a1, a2, hd, hf, hb⟩ := A
  exact ⟨N, V, V', T, R.congr fun k hk2 => hk k (ho k hk2).2, S.congr (hk _ a1.2) (hk _ a2.2), hp, ho, a1, a2, hd, fun k hk2 => by rw [hk k (by omega)]; exact hf k hk2, hb⟩
theorem Twr.left (A : Twr w v p p' t b h0 h n) : At w p b h0 h n := by
  obtain ⟨N, V, V', T, R, S, hp, ho, a1, a2, hd, hf, hb⟩ := A
  exact ⟨N, V, R, hp, ho, hf, hb⟩
theorem Twr.do (A : Twr w v p p' t b h0 h n) (hn : n ≤ n1) (hw : Wok w) (hk1 : w.last ≤ 100000000000) (s : Step) (K0 : AV → AHeap → Nat → Prop)
    (hK0 : ∀ h' n', n1 ≤ n' → Twr (doW w s).1 v p p' t b h0 h' n' → K0 (iv .i64 (doW w s).2) h' n') : ACalls Try.prog 12 [.ptr p 0, encStep s] h n1 K0 := by
  obtain ⟨N, V, V', T, R, S, rfl, ho, a1, a2, hd, hf, hb⟩ := A
  refine do_spec R hw hk1 s n1 (fun k hk => by have := (ho k hk).2; omega) K0 fun h' n' Tn => hK0 h' n' Tn.le ?_
  have hle := Tn.le
  obtain ⟨N2, V2, R2, p2, o2, l2, f2⟩ := Tn
  refine ⟨N2, V2, V', T, R2, S.congr (f2 _ (by omega) fun h3 => (hd _ h3).1 rfl) (f2 _ (by omega) fun h3 => (hd _ h3).2 rfl), p2.1, fun k hk => ?_, by omega, by omega, fun k hk => ?_, fun k hk => ?_, by omega⟩
  · obtain ⟨h3, h4⟩ := o2 k hk
    refine ⟨?_, h4⟩
    rcases h3 with h3 | h3
    · exact (ho k h3).1
    · omega
  · obtain ⟨h5, h4⟩ := o2 k hk
    rcases h5 with h5 | h5
    · exact hd k h5
    · omega
  · rw [f2 k (by omega) (fun h3 => by have := (ho k h3).1; omega)]; exact hf k hk
theorem Twr.do2 (A : Twr w v p p' t b h0 h n) (hn : n ≤ n1) (hw : Wok v) (hsil : Sil v) (hk1 : v.last ≤ 100000000000) (s : Step) (K0 : AV → AHeap → Nat → Prop)
    (hK0 : ∀ h' n', n1 ≤ n' → Twr w (doW v s).1 p p' t b h0 h' n' → K0 (iv .i64 (doW v s).2) h' n') : ACalls Try.prog 20 [.ptr p' 0, encStep s] h n1 K0 := by
  obtain ⟨N, V, V', T, R, S, rfl, ho, a1, a2, hd, hf, hb⟩ := A
  refine do_ref S hw hsil hk1 s n1 (by omega) (by omega) K0 fun h' n' X => ?_
  obtain ⟨V2, T2, S2, l2, f2⟩ := X
  refine hK0 h' n' l2 ⟨N, V, V2, T2, R.congr fun k hk => f2 k (by have := (ho k hk).2; omega) (hd k hk).1 (hd k hk).2, S2, rfl, fun k hk => ⟨(ho k hk).1, by have := (ho k hk).2; omega⟩, by omega, by omega, hd, fun k hk => ?_, by omega⟩
  rw [f2 k (by omega) (by omega) (by omega)]; exact hf k hk
theorem Twr.new (st wait : Int) (A : At w p b h0 h n) (_ : n ≤ n1) (K0 : AV → AHeap → Nat → Prop) (hno : (within st 1 10 && within wait 1 1440) = false → False)
    (hyes : (within st 1 10 && within wait 1 1440) = true → ∀ p' t h' n', n1 ≤ n' → (∀ c h3, n ≤ c → c < n1 → (∀ k, k ≠ c → h3 k = h' k) → Twr w (newW st.toNat wait) p p' t b h0 h3 n') → K0 (.agg [.ptr p' 0, iv .i64 0]) h' n') : ACalls Try.prog 19 [iv .i64 st, iv .i64 wait] h n1 K0 :=
  new_ref st wait n1 K0 (fun hc => (hno hc).elim) fun hc p' t V' T h' n' S h1 h2 h3 h4 h5 => by
    obtain ⟨N, V, R, hp, ho, hf, hb⟩ := A
    refine hyes hc _ t _ _ (by omega) fun c h6 c1 c2 c3 => ⟨N, V, V', T, R.congr fun k hk => ?_, S.congr (c3 _ (by omega)) (c3 _ (by omega)), hp, fun k hk => ⟨(ho k hk).1, by have := (ho k hk).2; omega⟩, by omega, by omega, fun k hk => ?_, fun k hk => ?_, by omega⟩
    · have := (ho k hk).2
      rw [c3 k (by omega), h5 k (by omega)]
    · have := (ho k hk).2; omega
    · rw [c3 k (by omega), h5 k (by omega)]; exact hf k hk
theorem Twr.seen (A : Twr w w p p' t b h0 h n) (hw : Wok w) (x y : Int) (m : Nat) : APureAt Try.prog 21 [.ptr p 0, .ptr p' 0, iv .i64 x, iv .i64 y] h m (bv true) := by
  have L := A.left
  obtain ⟨N, V, V', T, R, S, hp, ho, a1, a2, hd, hf, hb⟩ := A
  exact seen_at L S hw x y m
end
theorem relayWorlds_spec (st wait : Int) (l : List Step) (nl : Bool) (hl : l.length ≤ 9223372036854775807) (a b : Int) : APure Try.prog 5 [iv .i64 st, iv .i64 wait, .fslc nl false 5 (l.map encStep), iv .i64 a, iv .i64 b] (bv true) := by
  intro h n
  refine ACalls.pure (ACalls.entry (by kernel_rfl) fun hb _ => calls_of Try.func5 rfl (by kernel_rfl) (by simp [Try.ntmps5]) ?_)
  have c7 := light_spec l nl false 300 hl
  cases hli : lightL l 300 with
  | false =>
    rw [hli] at c7
    repeat' (first | (refine ac_seq_h fun K hK => ?_) | (refine ac_region_h fun K hK => ?_; simp (disch := omega) [go_sem, *, Try.ntmps5 ]) | (refine ac_draw_h mixed (by kernel_rfl) fun K hK => ?_; simp (disch := omega) [go_sem, *, wrap64_id, upd_ne, mk3_true, flatten_replicate_one, stepK_if, ilt_true, ilt_false, ile_true, ile_false, Try.ntmps5 ]) | (apply Hide.out hK; clear hK K; try with_reducible dsimp only [thenA]) | (apply Hide.out ht; clear ht hf Kt Kf) | (apply Hide.out hf; clear ht hf Kt Kf) | (clear hK K; apply Hide.out hK; clear hK K; try with_reducible dsimp only [thenA]) | (clear hK K; clear hK K; apply Hide.out hK; clear hK K; try with_reducible dsimp only [thenA]) | (with_reducible refine APure.call (c7) ?_; try simp (disch := omega) [go_sem, * ]) | (with_reducible refine APure.call (worlds_spec) ?_; try simp (disch := omega) [go_sem, * ]) | (refine ac_block ?_) | (refine ac_skip ?_; simp only [thenA, blockA]) | (refine ac_exit ?_; simp only [thenA, blockA, if_true, if_false, Nat.reduceEqDiff]) | (with_reducible show nextK _ _ _ _ _ _ _; simp (disch := omega) [go_sem, *, wrap64_id, upd_ne, mk3_true, flatten_replicate_one, stepK_if, ilt_true, ilt_false, ile_true, ile_false, Try.ntmps5 ]) | (refine wantK_split (fun hc => ?_) (fun hc => ?_) <;> (try simp only [Bool.not_eq_true', Bool.not_eq_false', Bool.not_eq_eq_eq_not, Bool.not_true, Bool.not_false, decide_eq_true_eq, decide_eq_false_iff_not, Int.not_lt, Int.not_le] at hc) <;> (try (exfalso; omega)) <;> (try simp (disch := omega) [go_sem, *, wrap64_id, upd_ne, mk3_true, flatten_replicate_one, stepK_if, ilt_true, ilt_false, ile_true, ile_false, Try.ntmps5 ])) | (refine ac_cond_h fun Kt Kf ht hf => ?_; simp (disch := omega) [go_sem, * ]; try (refine ⟨fun hc => ?_, fun hc => ?_⟩ <;> try (exfalso; omega))))
    (refine ac_ret ?_; try dsimp only [thenA, blockA]; refine ⟨by simp, _, (by first | rfl | (simp (disch := omega) [go_sem, upd_ne] <;> rfl)), ?_⟩; refine ret_id ⟨fun k hk => (by first | rfl | (repeat rw [upd_ne _ _ _ _ (by omega)])), (by simp [go_sem, below]), (by simp [go_sem] <;> omega), by simp, by simp⟩)
  | true =>
    rw [hli] at c7
    have hl3 : l.length ≤ 300 := by
      simp only [lightL, Bool.and_eq_true, decide_eq_true_eq] at hli; omega
    clear hl hli
    repeat' (first | (refine ac_seq_h fun K hK => ?_) | (refine ac_region_h fun K hK => ?_; simp (disch := omega) [go_sem, *, Try.ntmps5 ]) | (refine ac_draw_h mixed (by kernel_rfl) fun K hK => ?_; simp (disch := omega) [go_sem, *, wrap64_id, upd_ne, mk3_true, flatten_replicate_one, stepK_if, ilt_true, ilt_false, ile_true, ile_false, Try.ntmps5 ]) | (apply Hide.out hK; clear hK K; try with_reducible dsimp only [thenA]) | (apply Hide.out ht; clear ht hf Kt Kf) | (apply Hide.out hf; clear ht hf Kt Kf) | (clear hK K; apply Hide.out hK; clear hK K; try with_reducible dsimp only [thenA]) | (clear hK K; clear hK K; apply Hide.out hK; clear hK K; try with_reducible dsimp only [thenA]) | (with_reducible refine APure.call (c7) ?_; try simp (disch := omega) [go_sem, * ]) | (with_reducible refine APure.call (worlds_spec) ?_; try simp (disch := omega) [go_sem, *, wrap64_id, upd_ne, mk3_true, flatten_replicate_one, stepK_if, ilt_true, ilt_false, ile_true, ile_false, Try.ntmps5 ]) | (refine ac_block ?_) | (refine ac_skip ?_; simp only [thenA]) | (refine ac_exit ?_; simp only [thenA, blockA, if_true, if_false, Nat.reduceEqDiff]) | (with_reducible show nextK _ _ _ _ _ _ _; simp (disch := omega) [go_sem, *, wrap64_id, upd_ne, mk3_true, flatten_replicate_one, stepK_if, ilt_true, ilt_false, ile_true, ile_false, Try.ntmps5 ]) | (refine wantK_split (fun hc => ?_) (fun hc => ?_) <;> (try simp only [Bool.not_eq_true', Bool.not_eq_false', Bool.not_eq_eq_eq_not, Bool.not_true, Bool.not_false, decide_eq_true_eq, decide_eq_false_iff_not, Int.not_lt, Int.not_le] at hc) <;> (try (exfalso; omega)) <;> (try simp (disch := omega) [go_sem, *, wrap64_id, upd_ne, mk3_true, flatten_replicate_one, stepK_if, ilt_true, ilt_false, ile_true, ile_false, Try.ntmps5 ])) | (refine ac_cond_h fun Kt Kf ht hf => ?_; simp (disch := omega) [go_sem, * ]; try (refine ⟨fun hc => ?_, fun hc => ?_⟩ <;> try (exfalso; omega))))
    refine At.new st wait _ _ (fun hc m hm => ?_) (fun hc p H m hm A => ?_)
    · skip
      repeat' (first | (refine ac_seq_h fun K hK => ?_) | (refine ac_region_h fun K hK => ?_; simp (disch := omega) [go_sem, * ]) | (refine ac_draw_h mixed (by kernel_rfl) fun K hK => ?_; simp (disch := omega) [go_sem, *, wrap64_id, upd_ne, mk3_true, flatten_replicate_one, stepK_if, ilt_true, ilt_false, ile_true, ile_false, Try.ntmps5 ]) | (apply Hide.out hK; clear hK K; try with_reducible dsimp only [thenA]) | (apply Hide.out ht; clear ht hf Kt Kf) | (apply Hide.out hf; clear ht hf Kt Kf) | (clear hK K; apply Hide.out hK; clear hK K; try with_reducible dsimp only [thenA]) | (clear hK K; clear hK K; apply Hide.out hK; clear hK K; try with_reducible dsimp only [thenA]) | (with_reducible refine APure.call (c7) ?_; try simp (disch := omega) [go_sem, *, wrap64_id, upd_ne, mk3_true, flatten_replicate_one, stepK_if, ilt_true, ilt_false, ile_true, ile_false, Try.ntmps5 ]) | (with_reducible refine APure.call (worlds_spec) ?_; try simp (disch := omega) [go_sem, *, wrap64_id, upd_ne, mk3_true, flatten_replicate_one, stepK_if, ilt_true, ilt_false, ile_true, ile_false, Try.ntmps5 ]) | (refine ac_block ?_) | (refine ac_skip ?_; simp only [thenA, blockA]) | (refine ac_exit ?_; simp only [thenA, blockA, if_true, if_false, Nat.reduceEqDiff]) | (with_reducible show nextK _ _ _ _ _ _ _; simp (disch := omega) [go_sem, * ]) | (refine wantK_split (fun hc => ?_) (fun hc => ?_) <;> (try simp only [Bool.not_eq_true', Bool.not_eq_false', Bool.not_eq_eq_eq_not, Bool.not_true, Bool.not_false, decide_eq_true_eq, decide_eq_false_iff_not, Int.not_lt, Int.not_le] at hc) <;> (try (exfalso; omega)) <;> (try simp (disch := omega) [go_sem, *, wrap64_id, upd_ne, mk3_true, flatten_replicate_one, stepK_if, ilt_true, ilt_false, ile_true, ile_false, Try.ntmps5 ])) | (refine ac_cond_h fun Kt Kf ht hf => ?_; simp (disch := omega) [go_sem, *, wrap64_id, upd_ne, mk3_true, flatten_replicate_one, stepK_if, ilt_true, ilt_false, ile_true, ile_false, Try.ntmps5 ]; try (refine ⟨fun hc => ?_, fun hc => ?_⟩ <;> try (exfalso; omega))))
      refine new_ref st wait _ _ (fun hc2 h2 m2 hm2 hf2 => ?_) (fun hc2 => by rw [hc] at hc2; cases hc2)
      replace hf2 : Hide _ := hf2
      repeat' (first | (refine ac_seq_h fun K hK => ?_) | (refine ac_region_h fun K hK => ?_; simp (disch := omega) [go_sem, * ]) | (refine ac_draw_h mixed (by kernel_rfl) fun K hK => ?_; simp (disch := omega) [go_sem, *, wrap64_id, upd_ne, mk3_true, flatten_replicate_one, stepK_if, ilt_true, ilt_false, ile_true, ile_false, Try.ntmps5 ]) | (apply Hide.out hK; clear hK K; try with_reducible dsimp only [thenA]) | (apply Hide.out ht; clear ht hf Kt Kf) | (apply Hide.out hf; clear ht hf Kt Kf) | (clear hK K; apply Hide.out hK; clear hK K; try with_reducible dsimp only [thenA]) | (clear hK K; clear hK K; apply Hide.out hK; clear hK K; try with_reducible dsimp only [thenA]) | (with_reducible refine APure.call (c7) ?_; try simp (disch := omega) [go_sem, *, wrap64_id, upd_ne, mk3_true, flatten_replicate_one, stepK_if, ilt_true, ilt_false, ile_true, ile_false, Try.ntmps5 ]) | (with_reducible refine APure.call (worlds_spec) ?_; try simp (disch := omega) [go_sem, * ]) | (refine ac_block ?_) | (refine ac_skip ?_; simp only [thenA]) | (refine ac_exit ?_; simp only [thenA, blockA, if_true, if_false, Nat.reduceEqDiff]) | (with_reducible show nextK _ _ _ _ _ _ _; simp (disch := omega) [go_sem, * ]) | (refine wantK_split (fun hc => ?_) (fun hc => ?_) <;> (try simp only [Bool.not_eq_true', Bool.not_eq_false', Bool.not_eq_eq_eq_not, Bool.not_true, Bool.not_false, decide_eq_true_eq, decide_eq_false_iff_not, Int.not_lt, Int.not_le] at hc) <;> (try (exfalso; omega)) <;> (try simp (disch := omega) [go_sem, *, wrap64_id, upd_ne, mk3_true, flatten_replicate_one, stepK_if, ilt_true, ilt_false, ile_true, ile_false, Try.ntmps5 ])) | (refine ac_cond_h fun Kt Kf ht hf => ?_; simp (disch := omega) [go_sem, * ]; try (refine ⟨fun hc => ?_, fun hc => ?_⟩ <;> try (exfalso; omega))))
      refine ac_ret ?_
      refine ⟨by simp, _, (by simp (disch := omega) [go_sem] <;> rfl), ?_⟩
      refine ret_id ⟨fun k hk => by simp (disch := omega) only [upd_ne]; exact hf2.out k (by omega), by simp [go_sem, below], by simp [go_sem], rfl, rfl⟩
    · rw [Bool.and_eq_true] at hc
      obtain ⟨k1, k2⟩ := hc
      obtain ⟨k3, k4⟩ := Wl.within_iff.1 k1
      obtain ⟨k5, k6⟩ := Wl.within_iff.1 k2
      obtain ⟨S, rfl⟩ : ∃ S : Nat, st = S := ⟨st.toNat, by omega⟩
      have w0 : Hide (Wok (newW S wait)) := Wok.new (by omega) (by omega) k5 k6
      rw [Int.toNat_natCast] at A
      replace A : Hide _ := A; replace k1 : Hide _ := k1; replace k2 : Hide _ := k2
      repeat' (first | (refine ac_seq_h fun K hK => ?_) | (refine ac_region_h fun K hK => ?_; simp (disch := omega) [go_sem, * ]) | (refine ac_draw_h mixed (by kernel_rfl) fun K hK => ?_; simp (disch := omega) [go_sem, *, wrap64_id, upd_ne, mk3_true, flatten_replicate_one, stepK_if, ilt_true, ilt_false, ile_true, ile_false, Try.ntmps5 ]) | (apply Hide.out hK; clear hK K; try with_reducible dsimp only [thenA]) | (apply Hide.out ht; clear ht hf Kt Kf) | (apply Hide.out hf; clear ht hf Kt Kf) | (clear hK K; apply Hide.out hK; clear hK K; try with_reducible dsimp only [thenA]) | (clear hK K; clear hK K; apply Hide.out hK; clear hK K; try with_reducible dsimp only [thenA]) | (with_reducible refine APure.call (c7) ?_; try simp (disch := omega) [go_sem, *, wrap64_id, upd_ne, mk3_true, flatten_replicate_one, stepK_if, ilt_true, ilt_false, ile_true, ile_false, Try.ntmps5 ]) | (with_reducible refine APure.call (worlds_spec) ?_; try simp (disch := omega) [go_sem, *, wrap64_id, upd_ne, mk3_true, flatten_replicate_one, stepK_if, ilt_true, ilt_false, ile_true, ile_false, Try.ntmps5 ]) | (refine ac_block ?_) | (refine ac_skip ?_; simp only [thenA, blockA]) | (refine ac_exit ?_; simp only [thenA, blockA, if_true, if_false, Nat.reduceEqDiff]) | (with_reducible show nextK _ _ _ _ _ _ _; simp (disch := omega) [go_sem, * ]) | (refine wantK_split (fun hc => ?_) (fun hc => ?_) <;> (try simp only [Bool.not_eq_true', Bool.not_eq_false', Bool.not_eq_eq_eq_not, Bool.not_true, Bool.not_false, decide_eq_true_eq, decide_eq_false_iff_not, Int.not_lt, Int.not_le] at hc) <;> (try (exfalso; omega)) <;> (try simp (disch := omega) [go_sem, *, wrap64_id, upd_ne, mk3_true, flatten_replicate_one, stepK_if, ilt_true, ilt_false, ile_true, ile_false, Try.ntmps5 ])) | (refine ac_cond_h fun Kt Kf ht hf => ?_; simp (disch := omega) [go_sem, *, wrap64_id, upd_ne, mk3_true, flatten_replicate_one, stepK_if, ilt_true, ilt_false, ile_true, ile_false, Try.ntmps5 ]; try (refine ⟨fun hc => ?_, fun hc => ?_⟩ <;> try (exfalso; omega))))
      refine Twr.new (S : Int) wait A.out (by omega) _ (fun hc => by rw [k1.out, k2.out] at hc; cases hc) (fun _ p' t H2 m2 hm2 A2 => ?_)
      rw [Int.toNat_natCast] at A2
      replace A2 : Hide _ := A2
      clear A k1 k2
      repeat' (first | (refine ac_seq_h fun K hK => ?_) | (refine ac_region_h fun K hK => ?_; simp (disch := omega) [go_sem, * ]) | (refine ac_draw_h mixed (by kernel_rfl) fun K hK => ?_; simp (disch := omega) [go_sem, *, wrap64_id, upd_ne, mk3_true, flatten_replicate_one, stepK_if, ilt_true, ilt_false, ile_true, ile_false, Try.ntmps5 ]) | (apply Hide.out hK; clear hK K; try with_reducible dsimp only [thenA]) | (apply Hide.out ht; clear ht hf Kt Kf) | (apply Hide.out hf; clear ht hf Kt Kf) | (clear hK K; apply Hide.out hK; clear hK K; try with_reducible dsimp only [thenA]) | (clear hK K; clear hK K; apply Hide.out hK; clear hK K; try with_reducible dsimp only [thenA]) | (with_reducible refine APure.call (c7) ?_; try simp (disch := omega) [go_sem, *, wrap64_id, upd_ne, mk3_true, flatten_replicate_one, stepK_if, ilt_true, ilt_false, ile_true, ile_false, Try.ntmps5 ]) | (with_reducible refine APure.call (worlds_spec) ?_; try simp (disch := omega) [go_sem, *, wrap64_id, upd_ne, mk3_true, flatten_replicate_one, stepK_if, ilt_true, ilt_false, ile_true, ile_false, Try.ntmps5 ]) | (refine ac_block ?_) | (refine ac_skip ?_; simp only [thenA]) | (refine ac_exit ?_; simp only [thenA, blockA, if_true, if_false, Nat.reduceEqDiff]) | (with_reducible show nextK _ _ _ _ _ _ _; simp (disch := omega) [go_sem, * ]) | (refine wantK_split (fun hc => ?_) (fun hc => ?_) <;> (try simp only [Bool.not_eq_true', Bool.not_eq_false', Bool.not_eq_eq_eq_not, Bool.not_true, Bool.not_false, decide_eq_true_eq, decide_eq_false_iff_not, Int.not_lt, Int.not_le] at hc) <;> (try (exfalso; omega)) <;> (try simp (disch := omega) [go_sem, *, wrap64_id, upd_ne, mk3_true, flatten_replicate_one, stepK_if, ilt_true, ilt_false, ile_true, ile_false, Try.ntmps5 ])) | (refine ac_cond_h fun Kt Kf ht hf => ?_; simp (disch := omega) [go_sem, * ]; try (refine ⟨fun hc => ?_, fun hc => ?_⟩ <;> try (exfalso; omega))))
      replace c7 : Hide _ := c7
      refine ac_fzbox (m := m + 3) (t := 13) (c := [.ptr p' 0, iv .i64 0]) (upd_same _ _ _) (by simp [go_sem]) ?_
      refine ac_loop_wk (fun s' => ∃ (i n1 : Nat) (H : AHeap) (w : Wd), i ≤ l.length ∧ Twr w w p p' t (n + 1 + 3 + 8) h H n1 ∧ Wok w ∧ Sil w ∧ w.last ≤ 200 * i ∧ s' = ⟨118, [(2, .fslc nl false 5 (l.map encStep)), (3, iv .i64 a), (4, iv .i64 b), (11, .ptr p 0), (13, .fptr [.ptr p' 0, iv .i64 0]), (14, iv .i64 i), (10, bv false)], H, n1⟩) (fun z => l.length - (intAt z 14).toNat) ?_ ?_
      · refine loop_start (by simp [go_sem]) (Sub.refl _) ⟨0, _, _, newW S wait, Nat.zero_le _, Twr.mono (A2.out (m + 3) _ (by omega) (by omega) fun k hk => ?_) ?_, w0.out, Sil.new S wait, Int.le_refl _, rfl⟩
        · simp only [upd_ne _ _ _ _ hk]
        · dsimp only; omega
      clear A2 H H2 hm m hm2 m2
      rintro s' ⟨i, n1, H, w, hi, A, ww, sl, hlw, rfl⟩
      replace A : Hide _ := A; replace ww : Hide _ := ww; replace sl : Hide _ := sl
      by_cases hlt : i < l.length
      · obtain ⟨s, hs1, hs2, _⟩ := at_k hlt
        have wn : Hide (Wok (doW w s).1) := ww.out.step s
        have sn : Hide (Sil (doW w s).1) := Sil.step sl.out ww.out s
        have hln := (doW_last ww.out s).1
        repeat' (first | (refine ac_seq_h fun K hK => ?_) | (refine ac_region_h fun K hK => ?_; simp (disch := omega) [go_sem, *, ilt_true, ile_true]) | (refine ac_draw_h mixed (by kernel_rfl) fun K hK => ?_; simp (disch := omega) [go_sem, *, wrap64_id, upd_ne, mk3_true, flatten_replicate_one, stepK_if, ilt_true, ilt_false, ile_true, ile_false, Try.ntmps5]) | (apply Hide.out hK; clear hK K; try with_reducible dsimp only [thenA]) | (apply Hide.out ht; clear ht hf Kt Kf) | (apply Hide.out hf; clear ht hf Kt Kf) | (clear hK K; apply Hide.out hK; clear hK K; try with_reducible dsimp only [thenA]) | (clear hK K; clear hK K; apply Hide.out hK; clear hK K; try with_reducible dsimp only [thenA]) | (refine ac_block ?_) | (refine ac_skip ?_; simp only [thenA]) | (refine ac_exit ?_; simp only [thenA, blockA, if_true, if_false, Nat.reduceEqDiff]) | (with_reducible show nextK _ _ _ _ _ _ _; simp (disch := omega) [go_sem, *, wrap64_id, upd_ne, mk3_true, flatten_replicate_one, stepK_if, ilt_true, ilt_false, ile_true, ile_false, Try.ntmps5]) | (refine wantK_split (fun hc => ?_) (fun hc => ?_) <;> (try simp only [Bool.not_eq_true', Bool.not_eq_false', Bool.not_eq_eq_eq_not, Bool.not_true, Bool.not_false, decide_eq_true_eq, decide_eq_false_iff_not, Int.not_lt, Int.not_le] at hc) <;> (try (exfalso; omega)) <;> (try simp (disch := omega) [go_sem, *, wrap64_id, upd_ne, mk3_true, flatten_replicate_one, stepK_if, ilt_true, ilt_false, ile_true, ile_false, Try.ntmps5])) | (refine ac_cond_h fun Kt Kf ht hf => ?_; simp (disch := omega) [go_sem, *]; try (refine ⟨fun hc => ?_, fun hc => ?_⟩ <;> try (exfalso; omega))))
        refine Twr.do A.out (by omega) ww.out (by omega) s _ (fun H2 n2 hn2 A2 => ?_)
        replace A2 : Hide _ := A2
        clear A
        repeat' (first | (refine ac_seq_h fun K hK => ?_) | (refine ac_region_h fun K hK => ?_; simp (disch := omega) [go_sem, *, wrap64_id, upd_ne, mk3_true, flatten_replicate_one, stepK_if, ilt_true, ilt_false, ile_true, ile_false, Try.ntmps5]) | (refine ac_draw_h mixed (by kernel_rfl) fun K hK => ?_; simp (disch := omega) [go_sem, *, ile_true]) | (apply Hide.out hK; clear hK K; try with_reducible dsimp only [thenA]) | (apply Hide.out ht; clear ht hf Kt Kf) | (apply Hide.out hf; clear ht hf Kt Kf) | (clear hK K; apply Hide.out hK; clear hK K; try with_reducible dsimp only [thenA]) | (clear hK K; clear hK K; apply Hide.out hK; clear hK K; try with_reducible dsimp only [thenA]) | (refine ac_block ?_) | (refine ac_skip ?_; simp only [thenA, blockA]) | (refine ac_exit ?_; simp only [thenA, blockA, if_true, if_false, Nat.reduceEqDiff]) | (with_reducible show nextK _ _ _ _ _ _ _; simp (disch := omega) [go_sem, *]) | (refine wantK_split (fun hc => ?_) (fun hc => ?_) <;> (try simp only [Bool.not_eq_true', Bool.not_eq_false', Bool.not_eq_eq_eq_not, Bool.not_true, Bool.not_false, decide_eq_true_eq, decide_eq_false_iff_not, Int.not_lt, Int.not_le] at hc) <;> (try (exfalso; omega)) <;> (try simp (disch := omega) [go_sem, *, wrap64_id, upd_ne, mk3_true, flatten_replicate_one, stepK_if, ilt_true, ilt_false, ile_true, ile_false, Try.ntmps5])) | (refine ac_cond_h fun Kt Kf ht hf => ?_; simp (disch := omega) [go_sem, *, wrap64_id, upd_ne, mk3_true, flatten_replicate_one, stepK_if, ilt_true, ilt_false, ile_true, ile_false, Try.ntmps5]; try (refine ⟨fun hc => ?_, fun hc => ?_⟩ <;> try (exfalso; omega))))
        refine Twr.do2 A2.out (by omega) ww.out sl.out (by omega) s _ (fun H3 n3 hn3 A3 => ?_)
        have c21 := fun x y k => Twr.seen A3 wn.out x y k
        replace A3 : Hide _ := A3
        clear A2
        obtain ⟨w2, hw2⟩ : ∃ w2, Hide (w2 = (doW w s).1) := ⟨_, rfl⟩
        obtain ⟨g, hg⟩ : ∃ g, Hide (g = (doW w s).2) := ⟨_, rfl⟩
        rw [← hw2.out] at A3 wn sn hln
        rw [← hg.out]
        replace A3 : Hide _ := A3; replace c21 : Hide _ := c21
        repeat' (first | (refine ac_seq_h fun K hK => ?_) | (refine ac_region_h fun K hK => ?_; simp (disch := omega) [go_sem, *, wrap64_id, upd_ne, mk3_true, flatten_replicate_one, stepK_if, ilt_true, ilt_false, ile_true, ile_false, Try.ntmps5]) | (refine ac_draw_h mixed (by kernel_rfl) fun K hK => ?_; simp (disch := omega) [go_sem, *]) | (apply Hide.out hK; clear hK K; try with_reducible dsimp only [thenA]) | (apply Hide.out ht; clear ht hf Kt Kf) | (apply Hide.out hf; clear ht hf Kt Kf) | (clear hK K; apply Hide.out hK; clear hK K; try with_reducible dsimp only [thenA]) | (clear hK K; clear hK K; apply Hide.out hK; clear hK K; try with_reducible dsimp only [thenA]) | (refine ac_block ?_) | (refine ac_skip ?_; simp only [thenA, blockA]) | (refine ac_exit ?_; simp only [thenA, blockA, if_true, if_false, Nat.reduceEqDiff]) | (with_reducible show nextK _ _ _ _ _ _ _; simp (disch := omega) [go_sem, *]) | (refine wantK_split (fun hc => ?_) (fun hc => ?_) <;> (try simp only [Bool.not_eq_true', Bool.not_eq_false', Bool.not_eq_eq_eq_not, Bool.not_true, Bool.not_false, decide_eq_true_eq, decide_eq_false_iff_not, Int.not_lt, Int.not_le] at hc) <;> (try (exfalso; omega)) <;> (try simp (disch := omega) [go_sem, *, wrap64_id, upd_ne, mk3_true, flatten_replicate_one, stepK_if, ilt_true, ilt_false, ile_true, ile_false, Try.ntmps5])) | (refine ac_cond_h fun Kt Kf ht hf => ?_; simp (disch := omega) [go_sem, *, wrap64_id, upd_ne, mk3_true, flatten_replicate_one, stepK_if, ilt_true, ilt_false, ile_true, ile_false, Try.ntmps5]; try (refine ⟨fun hc => ?_, fun hc => ?_⟩ <;> try (exfalso; omega))))
        refine APureAt.call (c21.out _ _ _) ?_
        repeat' (first | (refine ac_seq_h fun K hK => ?_) | (refine ac_region_h fun K hK => ?_; simp (disch := omega) [go_sem, *, wrap64_id, upd_ne, mk3_true, flatten_replicate_one, stepK_if, ilt_true, ilt_false, ile_true, ile_false, Try.ntmps5]) | (refine ac_draw_h mixed (by kernel_rfl) fun K hK => ?_; simp (disch := omega) [go_sem, *, wrap64_id, upd_ne, mk3_true, flatten_replicate_one, stepK_if, ilt_true, ilt_false, ile_true, ile_false, Try.ntmps5]) | (apply Hide.out hK; clear hK K; try with_reducible dsimp only [thenA]) | (apply Hide.out ht; clear ht hf Kt Kf) | (apply Hide.out hf; clear ht hf Kt Kf) | (clear hK K; apply Hide.out hK; clear hK K; try with_reducible dsimp only [thenA]) | (clear hK K; clear hK K; apply Hide.out hK; clear hK K; try with_reducible dsimp only [thenA]) | (refine ac_block ?_) | (refine ac_skip ?_; simp only [thenA, blockA]) | (refine ac_exit ?_; simp only [thenA, blockA, if_true, if_false, Nat.reduceEqDiff]) | (with_reducible show nextK _ _ _ _ _ _ _; simp (disch := omega) [go_sem, *, ile_true]) | (refine wantK_split (fun hc => ?_) (fun hc => ?_) <;> (try simp only [Bool.not_eq_true', Bool.not_eq_false', Bool.not_eq_eq_eq_not, Bool.not_true, Bool.not_false, decide_eq_true_eq, decide_eq_false_iff_not, Int.not_lt, Int.not_le] at hc) <;> (try (exfalso; omega)) <;> (try simp (disch := omega) [go_sem, *, wrap64_id, upd_ne, mk3_true, flatten_replicate_one, stepK_if, ilt_true, ilt_false, ile_true, ile_false, Try.ntmps5])) | (refine ac_cond_h fun Kt Kf ht hf => ?_; simp (disch := omega) [go_sem, *, wrap64_id, upd_ne, mk3_true, flatten_replicate_one, stepK_if, ilt_true, ilt_false, ile_true, ile_false, Try.ntmps5]; try (refine ⟨fun hc => ?_, fun hc => ?_⟩ <;> try (exfalso; omega))))
        refine APureAt.call (c21.out _ _ _) ?_
        repeat' (first | (refine ac_seq_h fun K hK => ?_) | (refine ac_region_h fun K hK => ?_; simp (disch := omega) [go_sem, *, wrap64_id, upd_ne, mk3_true, flatten_replicate_one, stepK_if, ilt_true, ilt_false, ile_true, ile_false, Try.ntmps5]) | (refine ac_draw_h mixed (by kernel_rfl) fun K hK => ?_; simp (disch := omega) [go_sem, *, wrap64_id, upd_ne, mk3_true, flatten_replicate_one, stepK_if, ilt_true, ilt_false, ile_true, ile_false, Try.ntmps5]) | (apply Hide.out hK; clear hK K; try with_reducible dsimp only [thenA]) | (apply Hide.out ht; clear ht hf Kt Kf) | (apply Hide.out hf; clear ht hf Kt Kf) | (clear hK K; apply Hide.out hK; clear hK K; try with_reducible dsimp only [thenA]) | (clear hK K; clear hK K; apply Hide.out hK; clear hK K; try with_reducible dsimp only [thenA]) | (refine ac_block ?_) | (refine ac_skip ?_; simp only [thenA, blockA]) | (refine ac_exit ?_; simp only [thenA, blockA, if_true, if_false, Nat.reduceEqDiff]) | (with_reducible show nextK _ _ _ _ _ _ _; simp (disch := omega) [go_sem, *, ile_true]) | (refine wantK_split (fun hc => ?_) (fun hc => ?_) <;> (try simp only [Bool.not_eq_true', Bool.not_eq_false', Bool.not_eq_eq_eq_not, Bool.not_true, Bool.not_false, decide_eq_true_eq, decide_eq_false_iff_not, Int.not_lt, Int.not_le] at hc) <;> (try (exfalso; omega)) <;> (try simp (disch := omega) [go_sem, *, wrap64_id, upd_ne, mk3_true, flatten_replicate_one, stepK_if, ilt_true, ilt_false, ile_true, ile_false, Try.ntmps5])) | (refine ac_cond_h fun Kt Kf ht hf => ?_; simp (disch := omega) [go_sem, *, wrap64_id, upd_ne, mk3_true, flatten_replicate_one, stepK_if, ilt_true, ilt_false, ile_true, ile_false, Try.ntmps5]; try (refine ⟨fun hc => ?_, fun hc => ?_⟩ <;> try (exfalso; omega))))
        refine APureAt.call (c21.out _ _ _) ?_
        repeat' (first | (refine ac_seq_h fun K hK => ?_) | (refine ac_region_h fun K hK => ?_; simp (disch := omega) [go_sem, *, wrap64_id]) | (refine ac_draw_h mixed (by kernel_rfl) fun K hK => ?_; simp (disch := omega) [go_sem, *, wrap64_id, upd_ne, mk3_true, flatten_replicate_one, stepK_if, ilt_true, ilt_false, ile_true, ile_false, Try.ntmps5]) | (apply Hide.out hK; clear hK K; try with_reducible dsimp only [thenA]) | (apply Hide.out ht; clear ht hf Kt Kf) | (apply Hide.out hf; clear ht hf Kt Kf) | (clear hK K; apply Hide.out hK; clear hK K; try with_reducible dsimp only [thenA]) | (clear hK K; clear hK K; apply Hide.out hK; clear hK K; try with_reducible dsimp only [thenA]) | (refine ac_block ?_) | (refine ac_skip ?_; simp only [thenA, blockA]) | (refine ac_exit ?_; simp only [thenA, blockA, if_true, if_false, Nat.reduceEqDiff]) | (with_reducible show nextK _ _ _ _ _ _ _; simp (disch := omega) [go_sem, *]) | (refine wantK_split (fun hc => ?_) (fun hc => ?_) <;> (try simp only [Bool.not_eq_true', Bool.not_eq_false', Bool.not_eq_eq_eq_not, Bool.not_true, Bool.not_false, decide_eq_true_eq, decide_eq_false_iff_not, Int.not_lt, Int.not_le] at hc) <;> (try (exfalso; omega)) <;> (try simp (disch := omega) [go_sem, *, wrap64_id, upd_ne, mk3_true, flatten_replicate_one, stepK_if, ilt_true, ilt_false, ile_true, ile_false, Try.ntmps5])) | (refine ac_cond_h fun Kt Kf ht hf => ?_; simp (disch := omega) [go_sem, *]; try (refine ⟨fun hc => ?_, fun hc => ?_⟩ <;> try (exfalso; omega))))
        refine round_end (by simp [go_sem]) (Sub.refl _) ⟨i + 1, _, _, w2, by omega, Twr.mono A3.out ?_, wn.out, sn.out, by omega, rfl⟩ (by simp [intAt, go_sem]; omega)
        omega
      · have c21 := fun x y k => Twr.seen A.out ww.out x y k
        have c7b := c7.out
        replace c21 : Hide _ := c21
        repeat' (first | (refine ac_seq_h fun K hK => ?_) | (refine ac_region_h fun K hK => ?_; simp (disch := omega) [go_sem, *, ilt_false ]) | (refine ac_draw_h mixed (by kernel_rfl) fun K hK => ?_; simp (disch := omega) [go_sem, *, wrap64_id, upd_ne, mk3_true, flatten_replicate_one, stepK_if, ilt_true, ilt_false, ile_true, ile_false, Try.ntmps5 ]) | (apply Hide.out hK; clear hK K; try with_reducible dsimp only [thenA]) | (apply Hide.out ht; clear ht hf Kt Kf) | (apply Hide.out hf; clear ht hf Kt Kf) | (clear hK K; apply Hide.out hK; clear hK K; try with_reducible dsimp only [thenA]) | (clear hK K; clear hK K; apply Hide.out hK; clear hK K; try with_reducible dsimp only [thenA]) | (with_reducible refine APure.call (worlds_spec) ?_; try simp (disch := omega) [go_sem, * ]) | (refine ac_block ?_) | (refine ac_skip ?_; simp only [thenA, blockA]) | (refine ac_exit ?_; simp only [thenA, blockA, if_true]) | (with_reducible show nextK _ _ _ _ _ _ _; simp (disch := omega) [go_sem, *, wrap64_id, upd_ne, mk3_true, flatten_replicate_one, stepK_if, ilt_true, ilt_false, ile_true, ile_false, Try.ntmps5 ]) | (refine wantK_split (fun hc => ?_) (fun hc => ?_) <;> (try simp only [Bool.not_eq_true', Bool.not_eq_false', Bool.not_eq_eq_eq_not, Bool.not_true, Bool.not_false, decide_eq_true_eq, decide_eq_false_iff_not, Int.not_lt, Int.not_le] at hc) <;> (try (exfalso; omega)) <;> (try simp (disch := omega) [go_sem, *, wrap64_id, upd_ne, mk3_true, flatten_replicate_one, stepK_if, ilt_true, ilt_false, ile_true, ile_false, Try.ntmps5 ])) | (refine ac_cond_h fun Kt Kf ht hf => ?_; simp (disch := omega) [go_sem, * ]; try (refine ⟨fun hc => ?_, fun hc => ?_⟩ <;> try (exfalso; omega))))
        refine APureAt.call (c21.out _ _ _) ?_
        repeat' (first | (refine ac_seq_h fun K hK => ?_) | (refine ac_region_h fun K hK => ?_; simp (disch := omega) [go_sem, *, wrap64_id, upd_ne, mk3_true, flatten_replicate_one, stepK_if, ilt_true, ilt_false, ile_true, ile_false, Try.ntmps5]) | (refine ac_draw_h mixed (by kernel_rfl) fun K hK => ?_; simp (disch := omega) [go_sem, *, wrap64_id, upd_ne, mk3_true, flatten_replicate_one, stepK_if, ilt_true, ilt_false, ile_true, ile_false, Try.ntmps5]) | (apply Hide.out hK; clear hK K; try with_reducible dsimp only [thenA]) | (apply Hide.out ht; clear ht hf Kt Kf) | (apply Hide.out hf; clear ht hf Kt Kf) | (clear hK K; apply Hide.out hK; clear hK K; try with_reducible dsimp only [thenA]) | (clear hK K; clear hK K; apply Hide.out hK; clear hK K; try with_reducible dsimp only [thenA]) | (refine ac_block ?_) | (refine ac_skip ?_; simp only [thenA, blockA]) | (refine ac_exit ?_; simp only [thenA, blockA, if_true, if_false, Nat.reduceEqDiff]) | (with_reducible show nextK _ _ _ _ _ _ _; simp (disch := omega) [go_sem, *]) | (refine wantK_split (fun hc => ?_) (fun hc => ?_) <;> (try simp only [Bool.not_eq_true', Bool.not_eq_false', Bool.not_eq_eq_eq_not, Bool.not_true, Bool.not_false, decide_eq_true_eq, decide_eq_false_iff_not, Int.not_lt, Int.not_le] at hc) <;> (try (exfalso; omega)) <;> (try simp (disch := omega) [go_sem, *, wrap64_id, upd_ne, mk3_true, flatten_replicate_one, stepK_if, ilt_true, ilt_false, ile_true, ile_false, Try.ntmps5])) | (refine ac_cond_h fun Kt Kf ht hf => ?_; simp (disch := omega) [go_sem, *, wrap64_id, upd_ne, mk3_true, flatten_replicate_one, stepK_if, ilt_true, ilt_false, ile_true, ile_false, Try.ntmps5]; try (refine ⟨fun hc => ?_, fun hc => ?_⟩ <;> try (exfalso; omega))))
        refine ac_ret ?_
        refine ⟨by simp, _, (by simp (disch := omega) [go_sem] <;> rfl), ?_⟩
        obtain ⟨_, _, _, _, _, hf, hb0⟩ := Twr.left A.out
        refine ret_id ⟨fun k hk => hf k (by omega), by simp [go_sem, below], by simp [go_sem], rfl, rfl⟩
end Go.AM
