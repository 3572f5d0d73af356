/- Walks: kinds, Do. Conditions: as each theorem says. -/
import Derived.Test.YtjbphojecieloaaWc
namespace Go.AM
open Go.Proofs Wl
set_option maxRecDepth 10000
set_option maxHeartbeats 4000000
attribute [-go_sem] aLen
abbrev kindV (f g : FuncId) : AV := .agg [.func (.func f) [] [], .func (.func g) [] []]
def kindsL : List (Value × AV) := [(.int .i64 1, kindV 48 49), (.int .i64 2, kindV 50 47), (.int .i64 3, kindV 51 47), (.int .i64 4, kindV 52 47), (.int .i64 5, kindV 53 47), (.int .i64 6, kindV 54 55)]
theorem put_kind_K {m : Nat} {es : List (Value × AV)} {k : Int} {x : AV} {H : AHeap} {n : Nat} {K : AV → AHeap → Nat → Prop} (h1 : H m = some (.map es)) (h2 : findA Try.prog 3 (iv .i64 k) es 0 = some none) (hk : K .undef (H.upd m (some (.map (es ++ [(.int .i64 k, x)])))) n) :
    stepK (Option.map (fun x => (AV.undef, x)) (aMapPut Try.prog 71 (.map m) (iv .i64 k) x H)) n K := by
  have h3 : keyOk Try.prog 3 (iv .i64 k) = some (.int .i64 k) := by
    have hu : (match Try.prog.underlying 3 with | some (.int _) => true | _ => false) = true := by kernel_rfl
    unfold keyOk
    split at hu
    · rename_i e; rw [e]
    · cases hu
  have : aMapPut Try.prog 71 (.map m) (iv .i64 k) x H = some (H.upd m (some (.map (es ++ [(.int .i64 k, x)])))) := by
    simp [aMapPut, mapTys71, h1, h2, h3]
  rw [this]; exact hk
theorem kinds_spec {h : AHeap} {n : Nat} {K0 : AV → AHeap → Nat → Prop} (hK0 : ∀ m H' n', n ≤ m → m < n' → H' m = some (.map kindsL) → (∀ k, k ≠ m → H' k = h k) → K0 (.map m) H' n') : ACalls Try.prog 28 [] h n K0 := by
  refine ACalls.entry (by kernel_rfl) fun hb _ => calls_of Try.func28 rfl (by kernel_rfl) (by simp [Try.ntmps28]) ?_
  replace hK0 : Hide _ := hK0
  repeat' (first | (refine ac_seq_h fun K hK => ?_) | (refine ac_region_h fun K hK => ?_; simp (disch := omega) [go_sem, *, Try.ntmps28]) | (refine ac_draw_h mixed (by kernel_rfl) fun K hK => ?_; simp (disch := omega) [go_sem, *, wrap64_id, upd_ne, mk3_true, flatten_replicate_one, stepK_if, ilt_true, ilt_false, ile_true, ile_false, Try.ntmps28, mapTys71]) | (apply Hide.out hK; clear hK K; try with_reducible dsimp only [thenA]) | (apply Hide.out ht; clear ht hf Kt Kf) | (apply Hide.out hf; clear ht hf Kt Kf) | (clear hK K; apply Hide.out hK; clear hK K; try with_reducible dsimp only [thenA]) | (clear hK K; clear hK K; apply Hide.out hK; clear hK K; try with_reducible dsimp only [thenA]) | (refine ac_block ?_) | (refine ac_skip ?_; simp only [thenA, blockA]) | (refine ac_exit ?_; simp only [thenA, blockA, if_true, if_false, Nat.reduceEqDiff]) | (with_reducible show nextK _ _ _ _ _ _ _; simp (disch := omega) [go_sem, *, wrap64_id, upd_ne, mk3_true, flatten_replicate_one, stepK_if, ilt_true, ilt_false, ile_true, ile_false, Try.ntmps28, mapTys71]) | (refine wantK_split (fun hc => ?_) (fun hc => ?_) <;> (try simp only [Bool.not_eq_true', Bool.not_eq_false', Bool.not_eq_eq_eq_not, Bool.not_true, Bool.not_false, decide_eq_true_eq, decide_eq_false_iff_not, Int.not_lt, Int.not_le] at hc) <;> (try (exfalso; omega)) <;> (try simp (disch := omega) [go_sem, *, wrap64_id, upd_ne, mk3_true, flatten_replicate_one, stepK_if, ilt_true, ilt_false, ile_true, ile_false, Try.ntmps28, mapTys71])) | (refine ac_cond_h fun Kt Kf ht hf => ?_; simp (disch := omega) [go_sem, *, wrap64_id, upd_ne, mk3_true, flatten_replicate_one, stepK_if, ilt_true, ilt_false, ile_true, ile_false, Try.ntmps28, mapTys71]; try (refine ⟨fun hc => ?_, fun hc => ?_⟩ <;> try (exfalso; omega))))
  refine put_kind_K (es := []) (by simp only [upd_same]) (by simp [findA]) ?_
  simp only [List.nil_append]
  repeat' (first | (refine ac_seq_h fun K hK => ?_) | (refine ac_region_h fun K hK => ?_; simp (disch := omega) [go_sem, *, wrap64_id, upd_ne, mk3_true, flatten_replicate_one, stepK_if, ilt_true, ilt_false, ile_true, ile_false, Try.ntmps28, mapTys71]) | (refine ac_draw_h mixed (by kernel_rfl) fun K hK => ?_; simp (disch := omega) [go_sem, *, wrap64_id, upd_ne, mk3_true, flatten_replicate_one, stepK_if, ilt_true, ilt_false, ile_true, ile_false, Try.ntmps28, mapTys71]) | (apply Hide.out hK; clear hK K; try with_reducible dsimp only [thenA]) | (apply Hide.out ht; clear ht hf Kt Kf) | (apply Hide.out hf; clear ht hf Kt Kf) | (clear hK K; apply Hide.out hK; clear hK K; try with_reducible dsimp only [thenA]) | (clear hK K; clear hK K; apply Hide.out hK; clear hK K; try with_reducible dsimp only [thenA]) | (refine ac_block ?_) | (refine ac_skip ?_; simp only [thenA, blockA]) | (refine ac_exit ?_; simp only [thenA, blockA, if_true, if_false, Nat.reduceEqDiff]) | (with_reducible show nextK _ _ _ _ _ _ _; simp (disch := omega) [go_sem, *]) | (refine wantK_split (fun hc => ?_) (fun hc => ?_) <;> (try simp only [Bool.not_eq_true', Bool.not_eq_false', Bool.not_eq_eq_eq_not, Bool.not_true, Bool.not_false, decide_eq_true_eq, decide_eq_false_iff_not, Int.not_lt, Int.not_le] at hc) <;> (try (exfalso; omega)) <;> (try simp (disch := omega) [go_sem, *, wrap64_id, upd_ne, mk3_true, flatten_replicate_one, stepK_if, ilt_true, ilt_false, ile_true, ile_false, Try.ntmps28, mapTys71])) | (refine ac_cond_h fun Kt Kf ht hf => ?_; simp (disch := omega) [go_sem, *, wrap64_id, upd_ne, mk3_true, flatten_replicate_one, stepK_if, ilt_true, ilt_false, ile_true, ile_false, Try.ntmps28, mapTys71]; try (refine ⟨fun hc => ?_, fun hc => ?_⟩ <;> try (exfalso; omega))))
  refine put_kind_K (es := kindsL.take 1) (by simp only [upd_same]; rfl) (by simp [findA, keyEqA, kindsL]) ?_
  repeat' (first | (refine ac_seq_h fun K hK => ?_) | (refine ac_region_h fun K hK => ?_; simp (disch := omega) [go_sem, *, wrap64_id, upd_ne, mk3_true, flatten_replicate_one, stepK_if, ilt_true, ilt_false, ile_true, ile_false, Try.ntmps28, mapTys71]) | (refine ac_draw_h mixed (by kernel_rfl) fun K hK => ?_; simp (disch := omega) [go_sem, *, wrap64_id, upd_ne, mk3_true, flatten_replicate_one, stepK_if, ilt_true, ilt_false, ile_true, ile_false, Try.ntmps28, mapTys71]) | (apply Hide.out hK; clear hK K; try with_reducible dsimp only [thenA]) | (apply Hide.out ht; clear ht hf Kt Kf) | (apply Hide.out hf; clear ht hf Kt Kf) | (clear hK K; apply Hide.out hK; clear hK K; try with_reducible dsimp only [thenA]) | (clear hK K; clear hK K; apply Hide.out hK; clear hK K; try with_reducible dsimp only [thenA]) | (refine ac_block ?_) | (refine ac_skip ?_; simp only [thenA, blockA]) | (refine ac_exit ?_; simp only [thenA, blockA, if_true, if_false, Nat.reduceEqDiff]) | (with_reducible show nextK _ _ _ _ _ _ _; simp (disch := omega) [go_sem, *]) | (refine wantK_split (fun hc => ?_) (fun hc => ?_) <;> (try simp only [Bool.not_eq_true', Bool.not_eq_false', Bool.not_eq_eq_eq_not, Bool.not_true, Bool.not_false, decide_eq_true_eq, decide_eq_false_iff_not, Int.not_lt, Int.not_le] at hc) <;> (try (exfalso; omega)) <;> (try simp (disch := omega) [go_sem, *, wrap64_id, upd_ne, mk3_true, flatten_replicate_one, stepK_if, ilt_true, ilt_false, ile_true, ile_false, Try.ntmps28, mapTys71])) | (refine ac_cond_h fun Kt Kf ht hf => ?_; simp (disch := omega) [go_sem, *, wrap64_id, upd_ne, mk3_true, flatten_replicate_one, stepK_if, ilt_true, ilt_false, ile_true, ile_false, Try.ntmps28, mapTys71]; try (refine ⟨fun hc => ?_, fun hc => ?_⟩ <;> try (exfalso; omega))))
  refine put_kind_K (es := kindsL.take 2) (by simp only [upd_same]; rfl) (by simp [findA, keyEqA, kindsL]) ?_
  repeat' (first | (refine ac_seq_h fun K hK => ?_) | (refine ac_region_h fun K hK => ?_; simp (disch := omega) [go_sem, *, wrap64_id, upd_ne, mk3_true, flatten_replicate_one, stepK_if, ilt_true, ilt_false, ile_true, ile_false, Try.ntmps28, mapTys71]) | (refine ac_draw_h mixed (by kernel_rfl) fun K hK => ?_; simp (disch := omega) [go_sem, *, wrap64_id, upd_ne, mk3_true, flatten_replicate_one, stepK_if, ilt_true, ilt_false, ile_true, ile_false, Try.ntmps28, mapTys71]) | (apply Hide.out hK; clear hK K; try with_reducible dsimp only [thenA]) | (apply Hide.out ht; clear ht hf Kt Kf) | (apply Hide.out hf; clear ht hf Kt Kf) | (clear hK K; apply Hide.out hK; clear hK K; try with_reducible dsimp only [thenA]) | (clear hK K; clear hK K; apply Hide.out hK; clear hK K; try with_reducible dsimp only [thenA]) | (refine ac_block ?_) | (refine ac_skip ?_; simp only [thenA, blockA]) | (refine ac_exit ?_; simp only [thenA, blockA, if_true, if_false, Nat.reduceEqDiff]) | (with_reducible show nextK _ _ _ _ _ _ _; simp (disch := omega) [go_sem, *]) | (refine wantK_split (fun hc => ?_) (fun hc => ?_) <;> (try simp only [Bool.not_eq_true', Bool.not_eq_false', Bool.not_eq_eq_eq_not, Bool.not_true, Bool.not_false, decide_eq_true_eq, decide_eq_false_iff_not, Int.not_lt, Int.not_le] at hc) <;> (try (exfalso; omega)) <;> (try simp (disch := omega) [go_sem, *, wrap64_id, upd_ne, mk3_true, flatten_replicate_one, stepK_if, ilt_true, ilt_false, ile_true, ile_false, Try.ntmps28, mapTys71])) | (refine ac_cond_h fun Kt Kf ht hf => ?_; simp (disch := omega) [go_sem, *, wrap64_id, upd_ne, mk3_true, flatten_replicate_one, stepK_if, ilt_true, ilt_false, ile_true, ile_false, Try.ntmps28, mapTys71]; try (refine ⟨fun hc => ?_, fun hc => ?_⟩ <;> try (exfalso; omega))))
  refine put_kind_K (es := kindsL.take 3) (by simp only [upd_same]; rfl) (by simp [findA, keyEqA, kindsL]) ?_
  repeat' (first | (refine ac_seq_h fun K hK => ?_) | (refine ac_region_h fun K hK => ?_; simp (disch := omega) [go_sem, *, wrap64_id, upd_ne, mk3_true, flatten_replicate_one, stepK_if, ilt_true, ilt_false, ile_true, ile_false, Try.ntmps28, mapTys71]) | (refine ac_draw_h mixed (by kernel_rfl) fun K hK => ?_; simp (disch := omega) [go_sem, *, wrap64_id, upd_ne, mk3_true, flatten_replicate_one, stepK_if, ilt_true, ilt_false, ile_true, ile_false, Try.ntmps28, mapTys71]) | (apply Hide.out hK; clear hK K; try with_reducible dsimp only [thenA]) | (apply Hide.out ht; clear ht hf Kt Kf) | (apply Hide.out hf; clear ht hf Kt Kf) | (clear hK K; apply Hide.out hK; clear hK K; try with_reducible dsimp only [thenA]) | (clear hK K; clear hK K; apply Hide.out hK; clear hK K; try with_reducible dsimp only [thenA]) | (refine ac_block ?_) | (refine ac_skip ?_; simp only [thenA, blockA]) | (refine ac_exit ?_; simp only [thenA, blockA, if_true, if_false, Nat.reduceEqDiff]) | (with_reducible show nextK _ _ _ _ _ _ _; simp (disch := omega) [go_sem, *]) | (refine wantK_split (fun hc => ?_) (fun hc => ?_) <;> (try simp only [Bool.not_eq_true', Bool.not_eq_false', Bool.not_eq_eq_eq_not, Bool.not_true, Bool.not_false, decide_eq_true_eq, decide_eq_false_iff_not, Int.not_lt, Int.not_le] at hc) <;> (try (exfalso; omega)) <;> (try simp (disch := omega) [go_sem, *, wrap64_id, upd_ne, mk3_true, flatten_replicate_one, stepK_if, ilt_true, ilt_false, ile_true, ile_false, Try.ntmps28, mapTys71])) | (refine ac_cond_h fun Kt Kf ht hf => ?_; simp (disch := omega) [go_sem, *, wrap64_id, upd_ne, mk3_true, flatten_replicate_one, stepK_if, ilt_true, ilt_false, ile_true, ile_false, Try.ntmps28, mapTys71]; try (refine ⟨fun hc => ?_, fun hc => ?_⟩ <;> try (exfalso; omega))))
  refine put_kind_K (es := kindsL.take 4) (by simp only [upd_same]; rfl) (by simp [findA, keyEqA, kindsL]) ?_
  repeat' (first | (refine ac_seq_h fun K hK => ?_) | (refine ac_region_h fun K hK => ?_; simp (disch := omega) [go_sem, *, wrap64_id, upd_ne, mk3_true, flatten_replicate_one, stepK_if, ilt_true, ilt_false, ile_true, ile_false, Try.ntmps28, mapTys71]) | (refine ac_draw_h mixed (by kernel_rfl) fun K hK => ?_; simp (disch := omega) [go_sem, *, wrap64_id, upd_ne, mk3_true, flatten_replicate_one, stepK_if, ilt_true, ilt_false, ile_true, ile_false, Try.ntmps28, mapTys71]) | (apply Hide.out hK; clear hK K; try with_reducible dsimp only [thenA]) | (apply Hide.out ht; clear ht hf Kt Kf) | (apply Hide.out hf; clear ht hf Kt Kf) | (clear hK K; apply Hide.out hK; clear hK K; try with_reducible dsimp only [thenA]) | (clear hK K; clear hK K; apply Hide.out hK; clear hK K; try with_reducible dsimp only [thenA]) | (refine ac_block ?_) | (refine ac_skip ?_; simp only [thenA, blockA]) | (refine ac_exit ?_; simp only [thenA, blockA, if_true, if_false, Nat.reduceEqDiff]) | (with_reducible show nextK _ _ _ _ _ _ _; simp (disch := omega) [go_sem, *]) | (refine wantK_split (fun hc => ?_) (fun hc => ?_) <;> (try simp only [Bool.not_eq_true', Bool.not_eq_false', Bool.not_eq_eq_eq_not, Bool.not_true, Bool.not_false, decide_eq_true_eq, decide_eq_false_iff_not, Int.not_lt, Int.not_le] at hc) <;> (try (exfalso; omega)) <;> (try simp (disch := omega) [go_sem, *, wrap64_id, upd_ne, mk3_true, flatten_replicate_one, stepK_if, ilt_true, ilt_false, ile_true, ile_false, Try.ntmps28, mapTys71])) | (refine ac_cond_h fun Kt Kf ht hf => ?_; simp (disch := omega) [go_sem, *, wrap64_id, upd_ne, mk3_true, flatten_replicate_one, stepK_if, ilt_true, ilt_false, ile_true, ile_false, Try.ntmps28, mapTys71]; try (refine ⟨fun hc => ?_, fun hc => ?_⟩ <;> try (exfalso; omega))))
  refine put_kind_K (es := kindsL.take 5) (by simp only [upd_same]; rfl) (by simp [findA, keyEqA, kindsL]) ?_
  repeat' (first | (refine ac_seq_h fun K hK => ?_) | (refine ac_region_h fun K hK => ?_; simp (disch := omega) [go_sem, *, wrap64_id, upd_ne, mk3_true, flatten_replicate_one, stepK_if, ilt_true, ilt_false, ile_true, ile_false, Try.ntmps28, mapTys71]) | (refine ac_draw_h mixed (by kernel_rfl) fun K hK => ?_; simp (disch := omega) [go_sem, *, wrap64_id, upd_ne, mk3_true, flatten_replicate_one, stepK_if, ilt_true, ilt_false, ile_true, ile_false, Try.ntmps28, mapTys71]) | (apply Hide.out hK; clear hK K; try with_reducible dsimp only [thenA]) | (apply Hide.out ht; clear ht hf Kt Kf) | (apply Hide.out hf; clear ht hf Kt Kf) | (clear hK K; apply Hide.out hK; clear hK K; try with_reducible dsimp only [thenA]) | (clear hK K; clear hK K; apply Hide.out hK; clear hK K; try with_reducible dsimp only [thenA]) | (refine ac_block ?_) | (refine ac_skip ?_; simp only [thenA, blockA]) | (refine ac_exit ?_; simp only [thenA, blockA, if_true, if_false, Nat.reduceEqDiff]) | (with_reducible show nextK _ _ _ _ _ _ _; simp (disch := omega) [go_sem, *]) | (refine wantK_split (fun hc => ?_) (fun hc => ?_) <;> (try simp only [Bool.not_eq_true', Bool.not_eq_false', Bool.not_eq_eq_eq_not, Bool.not_true, Bool.not_false, decide_eq_true_eq, decide_eq_false_iff_not, Int.not_lt, Int.not_le] at hc) <;> (try (exfalso; omega)) <;> (try simp (disch := omega) [go_sem, *, wrap64_id, upd_ne, mk3_true, flatten_replicate_one, stepK_if, ilt_true, ilt_false, ile_true, ile_false, Try.ntmps28, mapTys71])) | (refine ac_cond_h fun Kt Kf ht hf => ?_; simp (disch := omega) [go_sem, *, wrap64_id, upd_ne, mk3_true, flatten_replicate_one, stepK_if, ilt_true, ilt_false, ile_true, ile_false, Try.ntmps28, mapTys71]; try (refine ⟨fun hc => ?_, fun hc => ?_⟩ <;> try (exfalso; omega))))
  refine ac_ret ?_
  refine ⟨by simp, _, (by simp (disch := omega) [go_sem] <;> rfl), ?_⟩
  refine ret_id ?_
  refine hK0.out _ _ _ ?_ ?_ ?_ (fun k hk => ?_)
  · omega
  · simp only; omega
  · simp only [upd_same]; rfl
  · simp (disch := omega) only [upd_ne]
end Go.AM

namespace Go.AM
open Go.Proofs Wl
set_option maxRecDepth 10000
set_option maxHeartbeats 8000000
@[go_sem] theorem sc_c (v : Value) : AV.scalar (.c v) = true := rfl
@[go_sem] theorem ce_c (v : Value) : cellsOf (.c v) = [.c v] := rfl
@[go_sem] theorem sc_ptr (a b : Nat) : AV.scalar (.ptr a b) = true := rfl
@[go_sem] theorem ce_ptr (a b : Nat) : cellsOf (.ptr a b) = [.ptr a b] := rfl
@[go_sem] theorem sc_fptr (l : List AV) : AV.scalar (.fptr l) = true := rfl
@[go_sem] theorem ce_fptr (l : List AV) : cellsOf (.fptr l) = [.fptr l] := rfl
@[go_sem] theorem sc_slc (a b c d : Nat) : AV.scalar (.slc a b c d) = true := rfl
@[go_sem] theorem ce_slc (a b c d : Nat) : cellsOf (.slc a b c d) = [.slc a b c d] := rfl
@[go_sem] theorem sc_fslc (a b : Bool) (c : Nat) (l : List AV) : AV.scalar (.fslc a b c l) = true := rfl
@[go_sem] theorem ce_fslc (a b : Bool) (c : Nat) (l : List AV) : cellsOf (.fslc a b c l) = [.fslc a b c l] := rfl
@[go_sem] theorem sc_map (a : Nat) : AV.scalar (.map a) = true := rfl
@[go_sem] theorem ce_map (a : Nat) : cellsOf (.map a) = [.map a] := rfl
@[go_sem] theorem sc_func (f : Fn) (a b : List AV) : AV.scalar (.func f a b) = true := rfl
@[go_sem] theorem ce_func (f : Fn) (a b : List AV) : cellsOf (.func f a b) = [.func f a b] := rfl
@[go_sem] theorem sc_chan (a : Nat) : AV.scalar (.chan a) = true := rfl
@[go_sem] theorem ce_chan (a : Nat) : cellsOf (.chan a) = [.chan a] := rfl
@[go_sem] theorem sc_agg (l : List AV) : AV.scalar (.agg l) = false := rfl
@[go_sem] theorem ce_agg (l : List AV) : cellsOf (.agg l) = l := rfl
attribute [-go_sem] AV.scalar cellsOf
section
variable {P : Program} {ops : Array Oper}
theorem aT_h {base : Nat} {K : St → Prop} {c : Nat × OT} {cs : List (Nat × OT)} {st : St} (h : aTs P ops base K (c :: cs) st) : aT P ops base K (.node (c :: cs)) st := by
  rw [aT]; exact ⟨(fun e => by cases e), h⟩
theorem aT_leaf {base : Nat} {K : St → Prop} {st : St} (h : K st) : aT P ops base K (.node []) st := by
  rw [aT]; exact ⟨fun _ => h, by rw [aTs]; trivial⟩
theorem aTs_nil {base : Nat} {K : St → Prop} {st : St} : aTs P ops base K [] st := by rw [aTs]; trivial
theorem aTs_h {base : Nat} {K : St → Prop} {i : Nat} {t : OT} {cs : List (Nat × OT)} {st : St} {o : Oper} (ho : ops[i]? = some o) (h : ∀ K' : St → Prop, Hide (∀ s, aT P ops base K t s → K' s) → aOp P ops (base + i) o st K') (hr : aTs P ops base K cs st) : aTs P ops base K ((i, t) :: cs) st := by
  rw [aTs, ho]; exact ⟨h _ fun _ h => h, hr⟩
end
/-- an assertion between two pieces of code -/
theorem ac_mid {P : Program} {fl : Nat} {Q : Exit → St → Prop} {K : St → Prop} {st : St} {c : Code} (M : St → Prop) (h1 : ACode P fl c (thenA M Q) st) (h2 : ∀ s, M s → K s) : ACode P fl c (thenA K Q) st :=
  ac_mono h1 fun e s h => by
    cases e with
    | normal => exact h2 s h
    | _ => exact h
def doT : OT := .node [(0, .node [(1, .node [(2, .node [(3, .node [(4, .node [(5, .node [(6, .node [(7, .node [(8, .node [(9, .node [])])])]), (7, .node [(6, .node [(8, .node [(9, .node [])])]), (8, .node [(6, .node [(9, .node [])])])])]), (6, .node [(5, .node [(7, .node [(8, .node [(9, .node [])])])]), (7, .node [(5, .node [(8, .node [(9, .node [])])])])]), (7, .node [(5, .node [(6, .node [(8, .node [(9, .node [])])]), (8, .node [(6, .node [(9, .node [])])])]), (6, .node [(5, .node [(8, .node [(9, .node [])])])])])]), (7, .node [(4, .node [(5, .node [(6, .node [(8, .node [(9, .node [])])]), (8, .node [(6, .node [(9, .node [])])])]), (6, .node [(5, .node [(8, .node [(9, .node [])])])])])])]), (7, .node [(3, .node [(4, .node [(5, .node [(6, .node [(8, .node [(9, .node [])])]), (8, .node [(6, .node [(9, .node [])])])]), (6, .node [(5, .node [(8, .node [(9, .node [])])])])])])])]), (7, .node [(2, .node [(3, .node [(4, .node [(5, .node [(6, .node [(8, .node [(9, .node [])])]), (8, .node [(6, .node [(9, .node [])])])]), (6, .node [(5, .node [(8, .node [(9, .node [])])])])])])])])]), (7, .node [(1, .node [(2, .node [(3, .node [(4, .node [(5, .node [(6, .node [(8, .node [(9, .node [])])]), (8, .node [(6, .node [(9, .node [])])])]), (6, .node [(5, .node [(8, .node [(9, .node [])])])])])])])])])]), (1, .node [(0, .node [(2, .node [(3, .node [(4, .node [(5, .node [(6, .node [(7, .node [(8, .node [(9, .node [])])])]), (7, .node [(6, .node [(8, .node [(9, .node [])])]), (8, .node [(6, .node [(9, .node [])])])])]), (6, .node [(5, .node [(7, .node [(8, .node [(9, .node [])])])]), (7, .node [(5, .node [(8, .node [(9, .node [])])])])]), (7, .node [(5, .node [(6, .node [(8, .node [(9, .node [])])]), (8, .node [(6, .node [(9, .node [])])])]), (6, .node [(5, .node [(8, .node [(9, .node [])])])])])]), (7, .node [(4, .node [(5, .node [(6, .node [(8, .node [(9, .node [])])]), (8, .node [(6, .node [(9, .node [])])])]), (6, .node [(5, .node [(8, .node [(9, .node [])])])])])])]), (7, .node [(3, .node [(4, .node [(5, .node [(6, .node [(8, .node [(9, .node [])])]), (8, .node [(6, .node [(9, .node [])])])]), (6, .node [(5, .node [(8, .node [(9, .node [])])])])])])])]), (7, .node [(2, .node [(3, .node [(4, .node [(5, .node [(6, .node [(8, .node [(9, .node [])])]), (8, .node [(6, .node [(9, .node [])])])]), (6, .node [(5, .node [(8, .node [(9, .node [])])])])])])])])]), (2, .node [(0, .node [(3, .node [(4, .node [(5, .node [(6, .node [(7, .node [(8, .node [(9, .node [])])])]), (7, .node [(6, .node [(8, .node [(9, .node [])])]), (8, .node [(6, .node [(9, .node [])])])])]), (6, .node [(5, .node [(7, .node [(8, .node [(9, .node [])])])]), (7, .node [(5, .node [(8, .node [(9, .node [])])])])]), (7, .node [(5, .node [(6, .node [(8, .node [(9, .node [])])]), (8, .node [(6, .node [(9, .node [])])])]), (6, .node [(5, .node [(8, .node [(9, .node [])])])])])]), (7, .node [(4, .node [(5, .node [(6, .node [(8, .node [(9, .node [])])]), (8, .node [(6, .node [(9, .node [])])])]), (6, .node [(5, .node [(8, .node [(9, .node [])])])])])])]), (7, .node [(3, .node [(4, .node [(5, .node [(6, .node [(8, .node [(9, .node [])])]), (8, .node [(6, .node [(9, .node [])])])]), (6, .node [(5, .node [(8, .node [(9, .node [])])])])])])])]), (7, .node [(0, .node [(3, .node [(4, .node [(5, .node [(6, .node [(8, .node [(9, .node [])])]), (8, .node [(6, .node [(9, .node [])])])]), (6, .node [(5, .node [(8, .node [(9, .node [])])])])])])])])]), (7, .node [(0, .node [(2, .node [(3, .node [(4, .node [(5, .node [(6, .node [(8, .node [(9, .node [])])]), (8, .node [(6, .node [(9, .node [])])])]), (6, .node [(5, .node [(8, .node [(9, .node [])])])])])])])]), (2, .node [(0, .node [(3, .node [(4, .node [(5, .node [(6, .node [(8, .node [(9, .node [])])]), (8, .node [(6, .node [(9, .node [])])])]), (6, .node [(5, .node [(8, .node [(9, .node [])])])])])])])])])]), (7, .node [(0, .node [(1, .node [(2, .node [(3, .node [(4, .node [(5, .node [(6, .node [(8, .node [(9, .node [])])]), (8, .node [(6, .node [(9, .node [])])])]), (6, .node [(5, .node [(8, .node [(9, .node [])])])])])])])])]), (1, .node [(0, .node [(2, .node [(3, .node [(4, .node [(5, .node [(6, .node [(8, .node [(9, .node [])])]), (8, .node [(6, .node [(9, .node [])])])]), (6, .node [(5, .node [(8, .node [(9, .node [])])])])])])])]), (2, .node [(0, .node [(3, .node [(4, .node [(5, .node [(6, .node [(8, .node [(9, .node [])])]), (8, .node [(6, .node [(9, .node [])])])]), (6, .node [(5, .node [(8, .node [(9, .node [])])])])])])])])])])]
theorem sub_do {h H : AHeap} {n q : Nat} {a b : AObj} (hq : H q = some b) (hn : H n = some a) (ho : ∀ k, k < n → H k = h k) (hb : ∀ k, n ≤ k → h k = none) : Sub ((h.upd n (some a)).upd q (some b)) H := by
  intro k o e
  by_cases h1 : k = q
  · subst h1; rw [upd_same] at e; rw [hq]; exact e
  · rw [upd_ne _ _ _ _ h1] at e
    by_cases h2 : k = n
    · subst h2; rw [upd_same] at e; rw [hn]; exact e
    · rw [upd_ne _ _ _ _ h2] at e
      rcases Nat.lt_or_ge k n with h3 | h3
      · rw [ho k h3]; exact e
      · rw [hb k h3] at e; cases e
def doT2 : OT := .node [(0, .node [(1, .node [(2, .node [(3, .node [(4, .node [(5, .node [(6, .node [(7, .node [(8, .node [(9, .node [(10, .node [(11, .node [])])])])])]), (7, .node [(6, .node [(8, .node [(9, .node [(10, .node [(11, .node [])])])])]), (8, .node [(6, .node [(9, .node [(10, .node [(11, .node [])])])]), (9, .node [(6, .node [(10, .node [(11, .node [])])])])])])]), (7, .node [(5, .node [(6, .node [(8, .node [(9, .node [(10, .node [(11, .node [])])])])]), (8, .node [(6, .node [(9, .node [(10, .node [(11, .node [])])])]), (9, .node [(6, .node [(10, .node [(11, .node [])])])])])]), (8, .node [(5, .node [(6, .node [(9, .node [(10, .node [(11, .node [])])])]), (9, .node [(6, .node [(10, .node [(11, .node [])])])])]), (9, .node [(5, .node [(6, .node [(10, .node [(11, .node [])])])])])])])]), (5, .node [(4, .node [(6, .node [(7, .node [(8, .node [(9, .node [(10, .node [(11, .node [])])])])])]), (7, .node [(6, .node [(8, .node [(9, .node [(10, .node [(11, .node [])])])])]), (8, .node [(6, .node [(9, .node [(10, .node [(11, .node [])])])]), (9, .node [(6, .node [(10, .node [(11, .node [])])])])])])]), (7, .node [(4, .node [(6, .node [(8, .node [(9, .node [(10, .node [(11, .node [])])])])]), (8, .node [(6, .node [(9, .node [(10, .node [(11, .node [])])])]), (9, .node [(6, .node [(10, .node [(11, .node [])])])])])]), (8, .node [(4, .node [(6, .node [(9, .node [(10, .node [(11, .node [])])])]), (9, .node [(6, .node [(10, .node [(11, .node [])])])])]), (9, .node [(4, .node [(6, .node [(10, .node [(11, .node [])])])])])])])]), (7, .node [(4, .node [(5, .node [(6, .node [(8, .node [(9, .node [(10, .node [(11, .node [])])])])]), (8, .node [(6, .node [(9, .node [(10, .node [(11, .node [])])])]), (9, .node [(6, .node [(10, .node [(11, .node [])])])])])]), (8, .node [(5, .node [(6, .node [(9, .node [(10, .node [(11, .node [])])])]), (9, .node [(6, .node [(10, .node [(11, .node [])])])])]), (9, .node [(5, .node [(6, .node [(10, .node [(11, .node [])])])])])])]), (5, .node [(4, .node [(6, .node [(8, .node [(9, .node [(10, .node [(11, .node [])])])])]), (8, .node [(6, .node [(9, .node [(10, .node [(11, .node [])])])]), (9, .node [(6, .node [(10, .node [(11, .node [])])])])])]), (8, .node [(4, .node [(6, .node [(9, .node [(10, .node [(11, .node [])])])]), (9, .node [(6, .node [(10, .node [(11, .node [])])])])]), (9, .node [(4, .node [(6, .node [(10, .node [(11, .node [])])])])])])]), (8, .node [(4, .node [(5, .node [(6, .node [(9, .node [(10, .node [(11, .node [])])])]), (9, .node [(6, .node [(10, .node [(11, .node [])])])])]), (9, .node [(5, .node [(6, .node [(10, .node [(11, .node [])])])])])]), (5, .node [(4, .node [(6, .node [(9, .node [(10, .node [(11, .node [])])])]), (9, .node [(6, .node [(10, .node [(11, .node [])])])])]), (9, .node [(4, .node [(6, .node [(10, .node [(11, .node [])])])])])]), (9, .node [(4, .node [(5, .node [(6, .node [(10, .node [(11, .node [])])])])]), (5, .node [(4, .node [(6, .node [(10, .node [(11, .node [])])])])])])])])]), (5, .node [(3, .node [(4, .node [(6, .node [(7, .node [(8, .node [(9, .node [(10, .node [(11, .node [])])])])])]), (7, .node [(6, .node [(8, .node [(9, .node [(10, .node [(11, .node [])])])])]), (8, .node [(6, .node [(9, .node [(10, .node [(11, .node [])])])]), (9, .node [(6, .node [(10, .node [(11, .node [])])])])])])]), (7, .node [(4, .node [(6, .node [(8, .node [(9, .node [(10, .node [(11, .node [])])])])]), (8, .node [(6, .node [(9, .node [(10, .node [(11, .node [])])])]), (9, .node [(6, .node [(10, .node [(11, .node [])])])])])]), (8, .node [(4, .node [(6, .node [(9, .node [(10, .node [(11, .node [])])])]), (9, .node [(6, .node [(10, .node [(11, .node [])])])])]), (9, .node [(4, .node [(6, .node [(10, .node [(11, .node [])])])])])])])]), (7, .node [(3, .node [(4, .node [(6, .node [(8, .node [(9, .node [(10, .node [(11, .node [])])])])]), (8, .node [(6, .node [(9, .node [(10, .node [(11, .node [])])])]), (9, .node [(6, .node [(10, .node [(11, .node [])])])])])]), (8, .node [(4, .node [(6, .node [(9, .node [(10, .node [(11, .node [])])])]), (9, .node [(6, .node [(10, .node [(11, .node [])])])])]), (9, .node [(4, .node [(6, .node [(10, .node [(11, .node [])])])])])])]), (8, .node [(3, .node [(4, .node [(6, .node [(9, .node [(10, .node [(11, .node [])])])]), (9, .node [(6, .node [(10, .node [(11, .node [])])])])]), (9, .node [(4, .node [(6, .node [(10, .node [(11, .node [])])])])])]), (9, .node [(3, .node [(4, .node [(6, .node [(10, .node [(11, .node [])])])])])])])])]), (7, .node [(3, .node [(4, .node [(5, .node [(6, .node [(8, .node [(9, .node [(10, .node [(11, .node [])])])])]), (8, .node [(6, .node [(9, .node [(10, .node [(11, .node [])])])]), (9, .node [(6, .node [(10, .node [(11, .node [])])])])])]), (8, .node [(5, .node [(6, .node [(9, .node [(10, .node [(11, .node [])])])]), (9, .node [(6, .node [(10, .node [(11, .node [])])])])]), (9, .node [(5, .node [(6, .node [(10, .node [(11, .node [])])])])])])]), (5, .node [(4, .node [(6, .node [(8, .node [(9, .node [(10, .node [(11, .node [])])])])]), (8, .node [(6, .node [(9, .node [(10, .node [(11, .node [])])])]), (9, .node [(6, .node [(10, .node [(11, .node [])])])])])]), (8, .node [(4, .node [(6, .node [(9, .node [(10, .node [(11, .node [])])])]), (9, .node [(6, .node [(10, .node [(11, .node [])])])])]), (9, .node [(4, .node [(6, .node [(10, .node [(11, .node [])])])])])])]), (8, .node [(4, .node [(5, .node [(6, .node [(9, .node [(10, .node [(11, .node [])])])]), (9, .node [(6, .node [(10, .node [(11, .node [])])])])]), (9, .node [(5, .node [(6, .node [(10, .node [(11, .node [])])])])])]), (5, .node [(4, .node [(6, .node [(9, .node [(10, .node [(11, .node [])])])]), (9, .node [(6, .node [(10, .node [(11, .node [])])])])]), (9, .node [(4, .node [(6, .node [(10, .node [(11, .node [])])])])])]), (9, .node [(4, .node [(5, .node [(6, .node [(10, .node [(11, .node [])])])])]), (5, .node [(4, .node [(6, .node [(10, .node [(11, .node [])])])])])])])]), (5, .node [(3, .node [(4, .node [(6, .node [(8, .node [(9, .node [(10, .node [(11, .node [])])])])]), (8, .node [(6, .node [(9, .node [(10, .node [(11, .node [])])])]), (9, .node [(6, .node [(10, .node [(11, .node [])])])])])]), (8, .node [(4, .node [(6, .node [(9, .node [(10, .node [(11, .node [])])])]), (9, .node [(6, .node [(10, .node [(11, .node [])])])])]), (9, .node [(4, .node [(6, .node [(10, .node [(11, .node [])])])])])])]), (8, .node [(3, .node [(4, .node [(6, .node [(9, .node [(10, .node [(11, .node [])])])]), (9, .node [(6, .node [(10, .node [(11, .node [])])])])]), (9, .node [(4, .node [(6, .node [(10, .node [(11, .node [])])])])])]), (9, .node [(3, .node [(4, .node [(6, .node [(10, .node [(11, .node [])])])])])])])]), (8, .node [(3, .node [(4, .node [(5, .node [(6, .node [(9, .node [(10, .node [(11, .node [])])])]), (9, .node [(6, .node [(10, .node [(11, .node [])])])])]), (9, .node [(5, .node [(6, .node [(10, .node [(11, .node [])])])])])]), (5, .node [(4, .node [(6, .node [(9, .node [(10, .node [(11, .node [])])])]), (9, .node [(6, .node [(10, .node [(11, .node [])])])])]), (9, .node [(4, .node [(6, .node [(10, .node [(11, .node [])])])])])]), (9, .node [(4, .node [(5, .node [(6, .node [(10, .node [(11, .node [])])])])]), (5, .node [(4, .node [(6, .node [(10, .node [(11, .node [])])])])])])]), (5, .node [(3, .node [(4, .node [(6, .node [(9, .node [(10, .node [(11, .node [])])])]), (9, .node [(6, .node [(10, .node [(11, .node [])])])])]), (9, .node [(4, .node [(6, .node [(10, .node [(11, .node [])])])])])]), (9, .node [(3, .node [(4, .node [(6, .node [(10, .node [(11, .node [])])])])])])]), (9, .node [(3, .node [(4, .node [(5, .node [(6, .node [(10, .node [(11, .node [])])])])]), (5, .node [(4, .node [(6, .node [(10, .node [(11, .node [])])])])])]), (5, .node [(3, .node [(4, .node [(6, .node [(10, .node [(11, .node [])])])])])])])])])])])])]
theorem eq30 (a b c d a' b' c' d' : Int) (t t' : ByteArray) : aggEq Try.prog 30 [iv .i64 a, iv .i64 b, iv .i64 c, iv .i64 d, sv t] [iv .i64 a', iv .i64 b', iv .i64 c', iv .i64 d', sv t'] = some (a == a' && b == b' && c == c' && d == d' && t.toList == t'.toList) := by
  have h1 : eqPlan Try.prog 30 = some [(0, .int), (1, .int), (2, .int), (3, .int), (4, .str)] := by kernel_rfl
  rw [aggEq_plan h1]
  simp only [planEq, List.getElem?_cons_zero, List.getElem?_cons_succ, cellEq, if_true]
  cases (a == a') <;> cases (b == b') <;> cases (c == c') <;> cases (d == d') <;> cases (t.toList == t'.toList) <;> rfl
theorem neq_K {r : Step} {k : Int} {ok : Bool} {H : AHeap} {n : Nat} {K : AV → AHeap → Nat → Prop} (hok : ok = (r.kind == k && r.a == 0 && r.b == 0 && r.n == 0 && r.text.toList == [])) (hk : K (bv (!ok)) H n) :
    stepK ((aggEq Try.prog 30 [iv .i64 r.kind, iv .i64 r.a, iv .i64 r.b, iv .i64 r.n, sv r.text] [iv .i64 k, iv .i64 0, iv .i64 0, iv .i64 0, sv ByteArray.empty]).bind ((Option.map fun x => (x, H)) ∘ eqOp .neq)) n K := by
  have he : ByteArray.empty.toList = [] := by simp
  rw [eq30, he, ← hok]
  exact hk
theorem do_core {w w2 : Wd} {N : Sl → Nat} {V : AV} {h : AHeap} (R : WRep w N V h) {p : Nat} {s r : Step} {n : Nat} (hown : ∀ k, own w.st N k → k < n) {e : Int} {K0 : AV → AHeap → Nat → Prop} {F G : AV} {B : Bool} {f g : FuncId} (hF : AV.scalar F = true) (hG : AV.scalar G = true) (hF2 : cellsOf F = [F]) (hG2 : cellsOf G = [G])
    (hlk : Hide (∀ m H, H m = some (.map kindsL) → aLookup Try.prog 71 (.map m) (iv .i64 s.kind) true H = some (.tup [.agg [F, G], bv B])))
    (hcase : B = false ∨ (B = true ∧ F = .func (.func f) [] [] ∧ G = .func (.func g) [] []))
    (hrest : APure Try.prog g [encStep s] (encStep r)) (ok : Bool) (hok : ok = (r.kind == s.kind && r.a == 0 && r.b == 0 && r.n == 0 && r.text.toList == []))
    (hcall : B = true → ∀ H n1 K, (∀ k, k < n → H k = h k) → n ≤ n1 → (∀ h' n', WTurn w N H n1 w2 h' n' → K (iv .i64 e) h' n') → ACalls Try.prog f [.ptr p 0, encStep s] H n1 K)
    (hK0 : ∀ h' n', (B = true → ok = true → WTurn w N h n w2 h' n' → K0 (iv .i64 e) h' n') ∧ ((B = false ∨ ok = false) → WTurn w N h n w h' n' → K0 (iv .i64 1) h' n')) : ACalls Try.prog 12 [.ptr p 0, encStep s] h n K0 := by
  refine ACalls.entry (by kernel_rfl) fun hb _ => calls_of Try.func12 rfl (by kernel_rfl) (by simp [Try.ntmps12]) ?_
  have hb0 : Hide (∀ k, n ≤ k → h k = none) := fun k hk => hb.none hk
  replace hcase : Hide _ := hcase; replace hok : Hide _ := hok; replace hcall : Hide _ := hcall; replace hK0 : Hide _ := hK0; replace hown : Hide _ := hown; replace R : Hide _ := R
  repeat' (first | (refine ac_seq_h fun K hK => ?_) | (refine ac_region_h fun K hK => ?_; simp (disch := omega) [go_sem, *, Try.ntmps12]) | (apply Hide.out hK; clear hK K; try with_reducible dsimp only [thenA]) | (apply Hide.out ht; clear ht hf Kt Kf) | (apply Hide.out hf; clear ht hf Kt Kf) | (clear hK K; apply Hide.out hK; clear hK K; try with_reducible dsimp only [thenA]) | (clear hK K; clear hK K; apply Hide.out hK; clear hK K; try with_reducible dsimp only [thenA]) | (refine ac_block ?_) | (refine ac_skip ?_; simp only [thenA, blockA]) | (refine ac_exit ?_; simp only [thenA, blockA, if_true, if_false, Nat.reduceEqDiff]) | (with_reducible show nextK _ _ _ _ _ _ _; simp (disch := omega) [go_sem, *, wrap64_id, upd_ne, mk3_true, flatten_replicate_one, stepK_if, ilt_true, ilt_false, ile_true, ile_false, Try.ntmps12, mapTys71]) | (refine wantK_split (fun hc => ?_) (fun hc => ?_) <;> (try simp only [Bool.not_eq_true', Bool.not_eq_false', Bool.not_eq_eq_eq_not, Bool.not_true, Bool.not_false, decide_eq_true_eq, decide_eq_false_iff_not, Int.not_lt, Int.not_le] at hc) <;> (try (exfalso; omega)) <;> (try simp (disch := omega) [go_sem, *, wrap64_id, upd_ne, mk3_true, flatten_replicate_one, stepK_if, ilt_true, ilt_false, ile_true, ile_false, Try.ntmps12, mapTys71])) | (refine ac_cond_h fun Kt Kf ht hf => ?_; simp (disch := omega) [go_sem, *, wrap64_id, upd_ne, mk3_true, flatten_replicate_one, stepK_if, ilt_true, ilt_false, ile_true, ile_false, Try.ntmps12, mapTys71]; try (refine ⟨fun hc => ?_, fun hc => ?_⟩ <;> try (exfalso; omega))))
  refine ac_mid (fun s' => ∃ n', n + 2 + 10 ≤ n' ∧ Wk s' ⟨31, [(0, .ptr p 0), (3, .ptr n 0), (5, .ptr (n + 2 + 7) 0), (6, bv B), (4, iv .i64 0)], (h.upd n (some (cellsStep s))).upd (n + 2 + 7) (some (.cells [F, G])), n'⟩) ?_ fun s' hs' => ?_
  · clear hK K
    refine ac_tree doT mixed (by kernel_rfl) ?_
    unfold doT
    repeat' (first
      | exact aTs_nil | (refine aTs_h rfl (fun K' hK' => ?_) ?_) | (refine aT_h ?_) | (refine kinds_spec fun m H' n' hm1 hm2 hm3 hm4 => ?_) | (refine look_K (hlk.out _ _ (by first | exact hm3 | (simp (disch := omega) only [upd_ne]; exact hm3))) ?_) | (with_reducible show nextK _ _ _ _ _ _ _; simp (disch := omega) [go_sem, *]) | (with_reducible show aOp _ _ _ _ _ _; simp (disch := omega) [go_sem, *, upd_ne]) | (apply Hide.out hK'; clear hK' K') | (refine aT_leaf ?_; dsimp only [thenA]; refine ⟨_, ?_, Wk.of (by simp [go_sem]) (sub_do ?_ ?_ (fun k hk => ?_) hb0.out)⟩ <;> first | omega | (simp (disch := omega) only [upd_ne, upd_same, hm4])))
  · obtain ⟨n', hn', hwk⟩ := hs'
    refine hK.out _ ?_
    clear hK K
    refine ac_wk hwk ?_
    clear hwk s'
    refine ac_fzbox (t := 3) (m := n) (c := [iv .i64 s.kind, iv .i64 s.a, iv .i64 s.b, iv .i64 s.n, sv s.text]) (by simp (disch := omega) only [upd_ne, upd_same]) (by simp [go_sem]) ?_
    refine ac_fzbox (t := 5) (m := n + 2 + 7) (c := [F, G]) (by simp (disch := omega) only [upd_ne, upd_same]) (by simp [go_sem]) ?_
    dsimp only
    obtain ⟨H, hH⟩ : ∃ H, H = (((h.upd n (some (cellsStep s))).upd (n + 2 + 7) (some (.cells [F, G]))).upd n none).upd (n + 2 + 7) none := ⟨_, rfl⟩
    rw [← hH]
    replace hH : Hide (∀ k, k < n → H k = h k) := fun k hk => by rw [hH]; simp (disch := omega) only [upd_ne]
    rcases hcase.out with rfl | ⟨rfl, rfl, rfl⟩
    · refine ac_seq_h fun K hK => ?_
      refine ac_seq_h fun K hK => ?_
      refine ac_mid (fun s' => ∃ n', n ≤ n' ∧ Wk s' ⟨31, [(0, .ptr p 0), (3, .fptr [iv .i64 s.kind, iv .i64 s.a, iv .i64 s.b, iv .i64 s.n, sv s.text]), (5, .fptr [F, G]), (25, bv true)], H, n'⟩) ?_ fun s' hs' => ?_
      · clear hK K
        refine ac_tree doT2 mixed (by kernel_rfl) ?_
        unfold doT2
        repeat' (first
          | exact aTs_nil | (refine aTs_h rfl (fun K' hK' => ?_) ?_) | (refine aT_h ?_) | (with_reducible refine APure.call hrest ?_) | (refine neq_K hok.out ?_) | (with_reducible show nextK _ _ _ _ _ _ _; simp (disch := omega) [go_sem, *, upd_ne]) | (with_reducible show aOp _ _ _ _ _ _; simp (disch := omega) [go_sem, *]) | (apply Hide.out hK'; clear hK' K') | (refine aT_leaf ?_; dsimp only [thenA]; refine ⟨_, ?_, Wk.of (by simp [go_sem]) (Sub.refl _)⟩; omega))
      obtain ⟨n2, hn2, hwk⟩ := hs'
      refine hK.out _ ?_
      clear hK K
      refine ac_wk hwk ?_
      clear hwk s'
      repeat' (first | (refine ac_seq_h fun K hK => ?_) | (refine ac_region_h fun K hK => ?_; simp (disch := omega) [go_sem, *]) | (refine ac_draw_h mixed (by kernel_rfl) fun K hK => ?_; simp (disch := omega) [go_sem, *, wrap64_id, upd_ne, mk3_true, flatten_replicate_one, stepK_if, ilt_true, ilt_false, ile_true, ile_false, Try.ntmps12]) | (apply Hide.out hK; clear hK K; try with_reducible dsimp only [thenA]) | (apply Hide.out ht; clear ht hf Kt Kf) | (apply Hide.out hf; clear ht hf Kt Kf) | (clear hK K; apply Hide.out hK; clear hK K; try with_reducible dsimp only [thenA]) | (clear hK K; clear hK K; apply Hide.out hK; clear hK K; try with_reducible dsimp only [thenA]) | (refine ac_block ?_) | (refine ac_skip ?_; simp only [thenA, blockA]) | (refine ac_exit ?_; simp only [thenA, blockA, if_true, if_false, Nat.reduceEqDiff]) | (with_reducible show nextK _ _ _ _ _ _ _; simp (disch := omega) [go_sem, *, wrap64_id, upd_ne, mk3_true, flatten_replicate_one, stepK_if, ilt_true, ilt_false, ile_true, ile_false, Try.ntmps12]) | (refine wantK_split (fun hc => ?_) (fun hc => ?_) <;> (try simp only [Bool.not_eq_true', Bool.not_eq_false', Bool.not_eq_eq_eq_not, Bool.not_true, Bool.not_false, decide_eq_true_eq, decide_eq_false_iff_not, Int.not_lt, Int.not_le] at hc) <;> (try (exfalso; omega)) <;> (try simp (disch := omega) [go_sem, *, wrap64_id, upd_ne, mk3_true, flatten_replicate_one, stepK_if, ilt_true, ilt_false, ile_true, ile_false, Try.ntmps12])) | (refine ac_cond_h fun Kt Kf ht hf => ?_; simp (disch := omega) [go_sem, *]; try (refine ⟨fun hc => ?_, fun hc => ?_⟩ <;> try (exfalso; omega))))
      refine ac_ret ?_
      refine ⟨by simp, _, (by simp (disch := omega) [go_sem] <;> rfl), ?_⟩
      refine ret_id ?_
      refine (hK0.out _ _).2 (.inl rfl) (WTurn.refl R.out hown.out ?_ hH.out)
      simp only; omega
    · refine ac_seq_h fun K hK => ?_
      refine ac_seq_h fun K hK => ?_
      refine ac_mid (fun s' => ∃ n', n ≤ n' ∧ Wk s' ⟨31, [(0, .ptr p 0), (3, .fptr [iv .i64 s.kind, iv .i64 s.a, iv .i64 s.b, iv .i64 s.n, sv s.text]), (5, .fptr [.func (.func f) [] [], .func (.func g) [] []]), (25, bv (!ok))], H, n'⟩) ?_ fun s' hs' => ?_
      · clear hK K
        refine ac_tree doT2 mixed (by kernel_rfl) ?_
        unfold doT2
        repeat' (first
          | exact aTs_nil | (refine aTs_h rfl (fun K' hK' => ?_) ?_) | (refine aT_h ?_) | (with_reducible refine APure.call hrest ?_) | (refine neq_K hok.out ?_) | (with_reducible show nextK _ _ _ _ _ _ _; simp (disch := omega) [go_sem, *]) | (with_reducible show aOp _ _ _ _ _ _; simp (disch := omega) [go_sem, *]) | (apply Hide.out hK'; clear hK' K') | (refine aT_leaf ?_; dsimp only [thenA]; refine ⟨_, ?_, Wk.of (by simp [go_sem]) (Sub.refl _)⟩; omega))
      obtain ⟨n2, hn2, hwk⟩ := hs'
      refine hK.out _ ?_
      clear hK K
      refine ac_wk hwk ?_
      clear hwk s'
      cases ok with
      | false =>
        repeat' (first | (refine ac_seq_h fun K hK => ?_) | (refine ac_region_h fun K hK => ?_; simp (disch := omega) [go_sem, *]) | (refine ac_draw_h mixed (by kernel_rfl) fun K hK => ?_; simp (disch := omega) [go_sem, *, wrap64_id, upd_ne, mk3_true, flatten_replicate_one, stepK_if, ilt_true, ilt_false, ile_true, ile_false, Try.ntmps12]) | (apply Hide.out hK; clear hK K; try with_reducible dsimp only [thenA]) | (apply Hide.out ht; clear ht hf Kt Kf) | (apply Hide.out hf; clear ht hf Kt Kf) | (clear hK K; apply Hide.out hK; clear hK K; try with_reducible dsimp only [thenA]) | (clear hK K; clear hK K; apply Hide.out hK; clear hK K; try with_reducible dsimp only [thenA]) | (refine ac_block ?_) | (refine ac_skip ?_; simp only [thenA, blockA]) | (refine ac_exit ?_; simp only [thenA, blockA, if_true, if_false, Nat.reduceEqDiff]) | (with_reducible show nextK _ _ _ _ _ _ _; simp (disch := omega) [go_sem, *, wrap64_id, upd_ne, mk3_true, flatten_replicate_one, stepK_if, ilt_true, ilt_false, ile_true, ile_false, Try.ntmps12]) | (refine wantK_split (fun hc => ?_) (fun hc => ?_) <;> (try simp only [Bool.not_eq_true', Bool.not_eq_false', Bool.not_eq_eq_eq_not, Bool.not_true, Bool.not_false, decide_eq_true_eq, decide_eq_false_iff_not, Int.not_lt, Int.not_le] at hc) <;> (try (exfalso; omega)) <;> (try simp (disch := omega) [go_sem, *, wrap64_id, upd_ne, mk3_true, flatten_replicate_one, stepK_if, ilt_true, ilt_false, ile_true, ile_false, Try.ntmps12])) | (refine ac_cond_h fun Kt Kf ht hf => ?_; simp (disch := omega) [go_sem, *]; try (refine ⟨fun hc => ?_, fun hc => ?_⟩ <;> try (exfalso; omega))))
        refine ac_ret ?_
        refine ⟨by simp, _, (by simp (disch := omega) [go_sem] <;> rfl), ?_⟩
        refine ret_id ?_
        refine (hK0.out _ _).2 (.inr rfl) (WTurn.refl R.out hown.out ?_ hH.out)
        simp only; omega
      | true =>
        repeat' (first | (refine ac_seq_h fun K hK => ?_) | (refine ac_region_h fun K hK => ?_; simp (disch := omega) [go_sem, *]) | (refine ac_draw_h mixed (by kernel_rfl) fun K hK => ?_; simp (disch := omega) [go_sem, *, wrap64_id, upd_ne, mk3_true, flatten_replicate_one, stepK_if, ilt_true, ilt_false, ile_true, ile_false, Try.ntmps12]) | (apply Hide.out hK; clear hK K; try with_reducible dsimp only [thenA]) | (apply Hide.out ht; clear ht hf Kt Kf) | (apply Hide.out hf; clear ht hf Kt Kf) | (clear hK K; apply Hide.out hK; clear hK K; try with_reducible dsimp only [thenA]) | (clear hK K; clear hK K; apply Hide.out hK; clear hK K; try with_reducible dsimp only [thenA]) | (refine ac_block ?_) | (refine ac_skip ?_; simp only [thenA]) | (refine ac_exit ?_; simp only [thenA, blockA, if_true, if_false, Nat.reduceEqDiff]) | (with_reducible show nextK _ _ _ _ _ _ _; simp (disch := omega) [go_sem, *, wrap64_id, upd_ne, mk3_true, flatten_replicate_one, stepK_if, ilt_true, ilt_false, ile_true, ile_false, Try.ntmps12]) | (refine wantK_split (fun hc => ?_) (fun hc => ?_) <;> (try simp only [Bool.not_eq_true', Bool.not_eq_false', Bool.not_eq_eq_eq_not, Bool.not_true, Bool.not_false, decide_eq_true_eq, decide_eq_false_iff_not, Int.not_lt, Int.not_le] at hc) <;> (try (exfalso; omega)) <;> (try simp (disch := omega) [go_sem, *, wrap64_id, upd_ne, mk3_true, flatten_replicate_one, stepK_if, ilt_true, ilt_false, ile_true, ile_false, Try.ntmps12])) | (refine ac_cond_h fun Kt Kf ht hf => ?_; simp (disch := omega) [go_sem, *]; try (refine ⟨fun hc => ?_, fun hc => ?_⟩ <;> try (exfalso; omega))))
        refine hcall.out rfl H _ _ hH.out (by omega) (fun h' n3 T => ?_)
        have hl1 := T.le
        replace T : Hide _ := T
        repeat' (first | (refine ac_seq_h fun K hK => ?_) | (refine ac_region_h fun K hK => ?_; simp (disch := omega) [go_sem, *, wrap64_id, upd_ne, mk3_true, flatten_replicate_one, stepK_if, ilt_true, ilt_false, ile_true, ile_false, Try.ntmps12]) | (refine ac_draw_h mixed (by kernel_rfl) fun K hK => ?_; simp (disch := omega) [go_sem, *, wrap64_id, upd_ne, mk3_true, flatten_replicate_one, stepK_if, ilt_true, ilt_false, ile_true, ile_false, Try.ntmps12]) | (apply Hide.out hK; clear hK K; try with_reducible dsimp only [thenA]) | (apply Hide.out ht; clear ht hf Kt Kf) | (apply Hide.out hf; clear ht hf Kt Kf) | (clear hK K; apply Hide.out hK; clear hK K; try with_reducible dsimp only [thenA]) | (clear hK K; clear hK K; apply Hide.out hK; clear hK K; try with_reducible dsimp only [thenA]) | (refine ac_block ?_) | (refine ac_skip ?_; simp only [thenA, blockA]) | (refine ac_exit ?_; simp only [thenA, blockA, if_true, if_false, Nat.reduceEqDiff]) | (with_reducible show nextK _ _ _ _ _ _ _; simp (disch := omega) [go_sem, *]) | (refine wantK_split (fun hc => ?_) (fun hc => ?_) <;> (try simp only [Bool.not_eq_true', Bool.not_eq_false', Bool.not_eq_eq_eq_not, Bool.not_true, Bool.not_false, decide_eq_true_eq, decide_eq_false_iff_not, Int.not_lt, Int.not_le] at hc) <;> (try (exfalso; omega)) <;> (try simp (disch := omega) [go_sem, *, wrap64_id, upd_ne, mk3_true, flatten_replicate_one, stepK_if, ilt_true, ilt_false, ile_true, ile_false, Try.ntmps12])) | (refine ac_cond_h fun Kt Kf ht hf => ?_; simp (disch := omega) [go_sem, *, wrap64_id, upd_ne, mk3_true, flatten_replicate_one, stepK_if, ilt_true, ilt_false, ile_true, ile_false, Try.ntmps12]; try (refine ⟨fun hc => ?_, fun hc => ?_⟩ <;> try (exfalso; omega))))
        refine ac_ret ?_
        refine ⟨by simp, _, (by simp (disch := omega) [go_sem] <;> rfl), ?_⟩
        refine ret_id ?_
        refine (hK0.out _ _).1 rfl rfl (WTurn.grow (WTurn.trans .rfl (fun k hk => .inl hk) ?_ (fun k hk _ => hH.out k hk) T.out) ?_)
        · omega
        · simp only; omega
end Go.AM

namespace Go.AM
open Go.Proofs Wl
set_option maxRecDepth 10000
set_option maxHeartbeats 4000000
theorem keyOk3 (k : Int) : keyOk Try.prog 3 (iv .i64 k) = some (.int .i64 k) := by
  have hu : (match Try.prog.underlying 3 with | some (.int _) => true | _ => false) = true := by kernel_rfl
  unfold keyOk
  split at hu
  · rename_i e; rw [e]
  · cases hu
theorem zer69 : zerOf Try.prog 69 = some (.agg [.c .nilFunc, .c .nilFunc]) := by kernel_rfl
theorem look_kind {k : Int} {x : AV} (hf : ∃ j, findA Try.prog 3 (iv .i64 k) kindsL 0 = some (some (j, x))) : Hide (∀ m H, H m = some (.map kindsL) → aLookup Try.prog 71 (.map m) (iv .i64 k) true H = some (.tup [x, bv true])) := fun m H hm => by
  obtain ⟨j, hf⟩ := hf
  simp [aLookup, mapTys71, keyOk3, hm, hf, resF, pairF]
theorem look_kind0 {k : Int} (hf : findA Try.prog 3 (iv .i64 k) kindsL 0 = some none) : Hide (∀ m H, H m = some (.map kindsL) → aLookup Try.prog 71 (.map m) (iv .i64 k) true H = some (.tup [.agg [.c .nilFunc, .c .nilFunc], bv false])) := fun m H hm => by
  simp [aLookup, mapTys71, keyOk3, hm, hf, resF, pairF, zer69]
theorem do_spec {w : Wd} {N : Sl → Nat} {V : AV} {h : AHeap} (R : WRep w N V h) (hw : Wok w) (hk1 : w.last ≤ 100000000000) (s : Step) (n : Nat) (hown : ∀ k, own w.st N k → k < n) (K0 : AV → AHeap → Nat → Prop)
    (hK0 : ∀ h' n', WTurn w N h n (doW w s).1 h' n' → K0 (iv .i64 (doW w s).2) h' n') : ACalls Try.prog 12 [.ptr (N .p) 0, encStep s] h n K0 := by
  have hR : ∀ H : AHeap, (∀ k, k < n → H k = h k) → WRep w N V H := fun H hH => R.congr fun k hk => hH k (hown k hk)
  have ho : ∀ n1, n ≤ n1 → ∀ k, own w.st N k → k < n1 := fun n1 hn k hk => by have := hown k hk; omega
  have hempty : ByteArray.empty.toList = [] := by simp
  by_cases h1 : s.kind = 1
  · have hd : doW w s = if (s.n == 0) = true then sayW w s else (w, 1) := by
      simp only [doW, lean, h1]
      cases hn : (s.n == 0) <;> simp
    refine do_core (w2 := (sayW w s).1) (e := (sayW w s).2) R hown rfl rfl rfl rfl (look_kind ⟨0, by rw [h1]; simp [findA, keyEqA, kindsL]⟩) (.inr ⟨rfl, rfl, rfl⟩) (rest_say s) (s.n == 0) (by simp [hempty]) (fun _ H n1 K hH hn hK => say_spec (hR H hH) hw (by omega) s n1 (ho n1 hn) K hK) (fun h' n' => ⟨fun _ hok T => ?_, fun hok T => ?_⟩)
    · rw [hd, if_pos hok] at hK0; exact hK0 h' n' T
    · rcases hok with hok | hok
      · cases hok
      · rw [hd, if_neg (by rw [hok]; simp)] at hK0; exact hK0 h' n' T
  have hnum : ∀ k : Int, (k = 2 ∨ k = 3 ∨ k = 4 ∨ k = 5) → s.kind = k → lean s = (s.a == 0 && s.b == 0 && s.text.toList == []) := fun k hk hs => by
    rw [lean, hs]
    rcases hk with rfl | rfl | rfl | rfl <;> simp
  by_cases h2 : s.kind = 2
  · have hd : doW w s = if (s.a == 0 && s.b == 0 && s.text.toList == []) = true then timeW w s.n else (w, 1) := by
      rw [doW, hnum 2 (by simp) h2, h2]
      cases (s.a == 0 && s.b == 0 && s.text.toList == []) <;> simp
    refine do_core (w2 := (timeW w s.n).1) (e := (timeW w s.n).2) R hown rfl rfl rfl rfl (look_kind ⟨1, by rw [h2]; simp [findA, keyEqA, kindsL]⟩) (.inr ⟨rfl, rfl, rfl⟩) (rest_num s) (s.a == 0 && s.b == 0 && s.text.toList == []) (by simp) (fun _ H n1 K hH hn hK => time_spec (hR H hH) hw hk1 s n1 (ho n1 hn) K hK) (fun h' n' => ⟨fun _ hok T => ?_, fun hok T => ?_⟩)
    · rw [hd, if_pos hok] at hK0; exact hK0 h' n' T
    · rcases hok with hok | hok
      · cases hok
      · rw [hd, if_neg (by rw [hok]; simp)] at hK0; exact hK0 h' n' T
  by_cases h3 : s.kind = 3
  · have hd : doW w s = if (s.a == 0 && s.b == 0 && s.text.toList == []) = true then deliverW w s.n else (w, 1) := by
      rw [doW, hnum 3 (by simp) h3, h3]
      cases (s.a == 0 && s.b == 0 && s.text.toList == []) <;> simp
    refine do_core (w2 := (deliverW w s.n).1) (e := (deliverW w s.n).2) R hown rfl rfl rfl rfl (look_kind ⟨2, by rw [h3]; simp [findA, keyEqA, kindsL]⟩) (.inr ⟨rfl, rfl, rfl⟩) (rest_num s) (s.a == 0 && s.b == 0 && s.text.toList == []) (by simp) (fun _ H n1 K hH hn hK => deliver_spec (hR H hH) hw (by omega) s n1 (ho n1 hn) K hK) (fun h' n' => ⟨fun _ hok T => ?_, fun hok T => ?_⟩)
    · rw [hd, if_pos hok] at hK0; exact hK0 h' n' T
    · rcases hok with hok | hok
      · cases hok
      · rw [hd, if_neg (by rw [hok]; simp)] at hK0; exact hK0 h' n' T
  by_cases h4 : s.kind = 4
  · have hd : doW w s = if (s.a == 0 && s.b == 0 && s.text.toList == []) = true then loseW w s.n else (w, 1) := by
      rw [doW, hnum 4 (by simp) h4, h4]
      cases (s.a == 0 && s.b == 0 && s.text.toList == []) <;> simp
    refine do_core (w2 := (loseW w s.n).1) (e := (loseW w s.n).2) R hown rfl rfl rfl rfl (look_kind ⟨3, by rw [h4]; simp [findA, keyEqA, kindsL]⟩) (.inr ⟨rfl, rfl, rfl⟩) (rest_num s) (s.a == 0 && s.b == 0 && s.text.toList == []) (by simp) (fun _ H n1 K hH hn hK => lose_spec (hR H hH) hw.ml s n1 (ho n1 hn) K hK) (fun h' n' => ⟨fun _ hok T => ?_, fun hok T => ?_⟩)
    · rw [hd, if_pos hok] at hK0; exact hK0 h' n' T
    · rcases hok with hok | hok
      · cases hok
      · rw [hd, if_neg (by rw [hok]; simp)] at hK0; exact hK0 h' n' T
  by_cases h5 : s.kind = 5
  · have hd : doW w s = if (s.a == 0 && s.b == 0 && s.text.toList == []) = true then doubleW w s.n else (w, 1) := by
      rw [doW, hnum 5 (by simp) h5, h5]
      cases (s.a == 0 && s.b == 0 && s.text.toList == []) <;> simp
    refine do_core (w2 := (doubleW w s.n).1) (e := (doubleW w s.n).2) R hown rfl rfl rfl rfl (look_kind ⟨4, by rw [h5]; simp [findA, keyEqA, kindsL]⟩) (.inr ⟨rfl, rfl, rfl⟩) (rest_num s) (s.a == 0 && s.b == 0 && s.text.toList == []) (by simp) (fun _ H n1 K hH hn hK => double_spec (hR H hH) hw.ml hw.l0 (by omega) s n1 (ho n1 hn) K hK) (fun h' n' => ⟨fun _ hok T => ?_, fun hok T => ?_⟩)
    · rw [hd, if_pos hok] at hK0; exact hK0 h' n' T
    · rcases hok with hok | hok
      · cases hok
      · rw [hd, if_neg (by rw [hok]; simp)] at hK0; exact hK0 h' n' T
  by_cases h6 : s.kind = 6
  · have hd : doW w s = if (s.b == 0 && s.n == 0 && s.text.toList == []) = true then crashW w s.a else (w, 1) := by
      simp only [doW, lean, h6]
      cases hn : (s.b == 0 && s.n == 0 && s.text.toList == []) <;> simp_all
    refine do_core (w2 := (crashW w s.a).1) (e := (crashW w s.a).2) R hown rfl rfl rfl rfl (look_kind ⟨5, by rw [h6]; simp [findA, keyEqA, kindsL]⟩) (.inr ⟨rfl, rfl, rfl⟩) (rest_crash s) (s.b == 0 && s.n == 0 && s.text.toList == []) (by simp) (fun _ H n1 K hH hn hK => crash_spec (hR H hH) hw s n1 (ho n1 hn) K hK) (fun h' n' => ⟨fun _ hok T => ?_, fun hok T => ?_⟩)
    · rw [hd, if_pos hok] at hK0; exact hK0 h' n' T
    · rcases hok with hok | hok
      · cases hok
      · rw [hd, if_neg (by rw [hok]; simp)] at hK0; exact hK0 h' n' T
  have hd : doW w s = (w, 1) := by
    have : lean s = false := by simp [lean, h1, h2, h3, h4, h5, h6]
    rw [doW, if_pos this]
  refine do_core (w2 := w) (e := 0) (f := 48) (g := 49) R hown rfl rfl rfl rfl (look_kind0 (k := s.kind) ?_) (.inl rfl) (rest_say s) _ rfl (fun e => by cases e) (fun h' n' => ⟨fun hok _ _ => ?_, fun _ T => ?_⟩)
  · have e1 : (s.kind == 1) = false := by simpa using h1
    have e2 : (s.kind == 2) = false := by simpa using h2
    have e3 : (s.kind == 3) = false := by simpa using h3
    have e4 : (s.kind == 4) = false := by simpa using h4
    have e5 : (s.kind == 5) = false := by simpa using h5
    have e6 : (s.kind == 6) = false := by simpa using h6
    simp [findA, keyEqA, kindsL, e1, e2, e3, e4, e5, e6]
  · cases hok
  · rw [hd] at hK0; exact hK0 h' n' T
end Go.AM
