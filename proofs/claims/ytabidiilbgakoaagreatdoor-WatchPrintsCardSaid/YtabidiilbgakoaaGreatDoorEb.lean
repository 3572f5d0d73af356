/- Words that are reserved; names. Conditions: as each theorem says. -/
import Derived.Laws.Strings
import Derived.Test.YtabidiilbgakoaaGreatDoorEa
namespace Go.AM
open Go.Proofs Cw
set_option maxRecDepth 10000
set_option maxHeartbeats 4000000
/-- the reserved words -/
def resl : List ByteArray := (match Go.Proofs.SAN.resv with | .fslc _ _ _ l => l | _ => []).map fun (x : AV) => match x with | AV.c (Value.string s) => s | _ => ByteArray.empty
theorem resl_eq : Go.Proofs.SAN.resv = .fslc false false 1 (resl.map sv) := by kernel_rfl
theorem resl_len : resl.length = 21 := by kernel_rfl
theorem fields211 : APure Tryz.prog 216 [Go.Proofs.SAN.words] (.fslc false false 1 (resl.map sv)) := by
  intro h n
  rw [← resl_eq]
  exact Go.Proofs.SAN.tab1_ok _ (List.mem_singleton.2 rfl) h n _ fun x hx => by
    rw [List.mem_singleton.1 hx]; exact ⟨rfl, rfl, rfl⟩
theorem reserved174 (w : ByteArray) : APure Tryz.prog 189 [sv w] (bv (inS w resl)) := by
  intro h n
  have k1 := fields211
  have k2 := contains84 false false resl w (by rw [resl_len]; omega)
  refine ACalls.pure (ACalls.entry (by kernel_rfl) fun hb _ => calls_of Tryz.func189 rfl (by kernel_rfl) (by simp [Tryz.ntmps189]) ?_)
  simp only [Go.Proofs.SAN.words] at k1
  generalize inS w resl = y at *
  generalize List.map sv resl = L at *
  repeat' (first | (refine ac_seq_h fun K hK => ?_) | (refine ac_region_h fun K hK => ?_; simp (disch := omega) [go_sem, *, Tryz.ntmps189 ]) | (apply Hide.out hK; clear hK K; try with_reducible dsimp only [thenA]) | (with_reducible refine APure.gcall (k1) ?_; try simp (disch := omega) [go_sem, * ]) | (with_reducible refine APure.gcall (k2) ?_; try simp (disch := omega) [go_sem, * ]))
  (refine ac_ret ?_; try dsimp only [thenA, blockA]; refine ⟨by simp, _, (by first | rfl | (simp (disch := omega) [go_sem, upd_ne] <;> rfl)), ?_⟩; refine ret_id ⟨fun k hk => (by first | rfl | (repeat rw [upd_ne _ _ _ _ (by omega)])), (by simp [go_sem, below]), (by simp [go_sem] <;> omega), by simp, by simp⟩)
theorem word138 (w : ByteArray) : APure Tryz.prog 144 [sv w] (iv .i64 (if 24 < w.size then 0 else if inS w resl then 3 else 1)) := by
  intro h n
  have k1 := reserved174 w
  refine ACalls.pure (ACalls.entry (by kernel_rfl) fun hb _ => calls_of Tryz.func144 rfl (by kernel_rfl) (by simp [Tryz.ntmps144]) ?_)
  by_cases h1 : 24 < w.size
  · rw [if_pos h1]
    repeat' (first | (refine ac_seq_h fun K hK => ?_) | (refine ac_region_h fun K hK => ?_; simp (disch := omega) [go_sem, *, ilt_true, Tryz.ntmps144 ]) | (apply Hide.out hK; clear hK K; try with_reducible dsimp only [thenA]) | (apply Hide.out ht; clear ht hf Kt Kf) | (refine ac_block ?_) | (refine ac_cond_h fun Kt Kf ht hf => ?_; simp (disch := omega) [go_sem, * ]; try (refine ⟨fun hc => ?_, fun hc => ?_⟩ <;> try (exfalso; omega))))
    (refine ac_ret ?_; try dsimp only [thenA, blockA]; refine ⟨by simp, _, (by first | rfl | (simp (disch := omega) [go_sem, upd_ne] <;> rfl)), ?_⟩; refine ret_id ⟨fun k hk => (by first | rfl | (repeat rw [upd_ne _ _ _ _ (by omega)])), (by simp [go_sem, below]), (by simp [go_sem] <;> omega), by simp, by simp⟩)
  · rw [if_neg h1]
    generalize inS w resl = y at *
    cases y
    · simp only [Bool.false_eq_true, if_false]
      repeat' (first | (refine ac_seq_h fun K hK => ?_) | (refine ac_region_h fun K hK => ?_; simp (disch := omega) [go_sem, *, ilt_false, Tryz.ntmps144 ]) | (apply Hide.out hK; clear hK K; try with_reducible dsimp only [thenA]) | (apply Hide.out hf; clear ht hf Kt Kf) | (with_reducible refine APure.gcall (k1) ?_; try simp (disch := omega) [go_sem, * ]) | (refine ac_block ?_) | (refine ac_skip ?_; simp only [thenA, blockA]) | (refine ac_cond_h fun Kt Kf ht hf => ?_; simp (disch := omega) [go_sem, * ]; try (refine ⟨fun hc => ?_, fun hc => ?_⟩ <;> try (exfalso; omega))))
      (refine ac_ret ?_; try dsimp only [thenA, blockA]; refine ⟨by simp, _, (by first | rfl | (simp (disch := omega) [go_sem, upd_ne] <;> rfl)), ?_⟩; refine ret_id ⟨fun k hk => (by first | rfl | (repeat rw [upd_ne _ _ _ _ (by omega)])), (by simp [go_sem, below]), (by simp [go_sem] <;> omega), by simp, by simp⟩)
    · simp only [if_true]
      repeat' (first | (refine ac_seq_h fun K hK => ?_) | (refine ac_region_h fun K hK => ?_; simp (disch := omega) [go_sem, *, ilt_false, Tryz.ntmps144 ]) | (apply Hide.out hK; clear hK K; try with_reducible dsimp only [thenA]) | (apply Hide.out ht; clear ht hf Kt Kf) | (apply Hide.out hf; clear ht hf Kt Kf) | (with_reducible refine APure.gcall (k1) ?_; try simp (disch := omega) [go_sem, * ]) | (refine ac_block ?_) | (refine ac_cond_h fun Kt Kf ht hf => ?_; simp (disch := omega) [go_sem, * ]; try (refine ⟨fun hc => ?_, fun hc => ?_⟩ <;> try (exfalso; omega))))
      (refine ac_ret ?_; try dsimp only [thenA, blockA]; refine ⟨by simp, _, (by first | rfl | (simp (disch := omega) [go_sem, upd_ne] <;> rfl)), ?_⟩; refine ret_id ⟨fun k hk => (by first | rfl | (repeat rw [upd_ne _ _ _ _ (by omega)])), (by simp [go_sem, below]), (by simp [go_sem] <;> omega), by simp, by simp⟩)
theorem beq_sym (a b : List UInt8) : (a == b) = (b == a) := by rw [Bool.eq_iff_iff, beq_iff_eq, beq_iff_eq]; exact ⟨Eq.symm, Eq.symm⟩
theorem inS_drop (w : ByteArray) (l : List ByteArray) (i : Nat) (h : i < l.length) : inS w (l.drop i) = ((w.toList == l[i].toList) || inS w (l.drop (i + 1))) := by
  rw [List.drop_eq_getElem_cons h]; rfl
theorem reserved182 (w : ByteArray) : APure Tryz.prog 118 [sv w] (bv (inS w resl)) := by
  intro h n
  refine ACalls.pure (ACalls.entry (by kernel_rfl) fun hb _ => calls_of Tryz.func118 rfl (by kernel_rfl) (by simp [Tryz.ntmps118]) ?_)
  obtain ⟨T, hT⟩ : ∃ T, Hide (T = inS w resl) := ⟨_, rfl⟩
  rw [← hT.out]
  obtain ⟨L, hL⟩ : ∃ L, Hide (L = resl) := ⟨_, rfl⟩
  have hll : L.length = 21 := by rw [hL.out]; exact resl_len
  have hlit : AV.fslc false false 1 (List.map sv L) = Go.Proofs.SAN.resv := by rw [hL.out, ← resl_eq]
  simp only [Go.Proofs.SAN.resv] at hlit
  repeat' (first | (refine ac_seq_h fun K hK => ?_) | (refine ac_region_h fun K hK => ?_; simp (disch := omega) [go_sem, *, Tryz.ntmps118]) | (apply Hide.out hK; clear hK K; try with_reducible dsimp only [thenA]) | (refine ac_block ?_))
  refine ac_loop_wk (fun s' => ∃ (i : Nat) (n' : Nat), n ≤ n' ∧ i ≤ L.length ∧ inS w (L.drop i) = T ∧ s' = ⟨18, [(0, sv w), (3, .fslc false false 1 (L.map sv)), (4, iv .i64 i)], h, n'⟩)
      (fun s' => 21 - (intAt s' 4).toNat) ?_ ?_
  · refine loop_start ?_ (Sub.refl _) ⟨0, _, by omega, by omega, by rw [hT.out, hL.out]; rfl, rfl⟩
    rw [hlit]
    simp [go_sem]
  · rintro s' ⟨i, n', hn', hi, hc, rfl⟩
    clear hlit
    by_cases hlt : i < L.length
    · rw [inS_drop w L i hlt] at hc
      obtain ⟨x, hx⟩ : ∃ x, L[i] = x := ⟨_, rfl⟩
      rw [hx] at hc
      have hsy := beq_sym x.toList w.toList
      cases he : (w.toList == x.toList) with
      | true =>
        rw [he, Bool.true_or] at hc
        rw [he] at hsy
        subst hc
        clear he
        repeat' (first | (refine ac_seq_h fun K hK => ?_) | (refine ac_region_h fun K hK => ?_; simp (disch := omega) [go_sem, *, ilt_true, ile_true]) | (apply Hide.out hK; clear hK K; try with_reducible dsimp only [thenA]) | (apply Hide.out ht; clear ht hf Kt Kf) | (refine ac_block ?_) | (refine ac_skip ?_; simp only [thenA]) | (refine ac_cond_h fun Kt Kf ht hf => ?_; simp (disch := omega) [go_sem, *]; try (refine ⟨fun hc => ?_, fun hc => ?_⟩ <;> try (exfalso; omega))))
        (refine ac_ret ?_; try dsimp only [thenA, blockA]; refine ⟨by simp, _, (by first | rfl | (simp (disch := omega) [go_sem, upd_ne] <;> rfl)), ?_⟩; refine ret_id ⟨fun k hk => (by first | rfl | (repeat rw [upd_ne _ _ _ _ (by omega)])), (by simp [go_sem, below]), (by simp [go_sem] <;> omega), by simp, by simp⟩)
      | false =>
        rw [he, Bool.false_or] at hc
        rw [he] at hsy
        replace hc : Hide _ := hc
        clear he
        repeat' (first | (refine ac_seq_h fun K hK => ?_) | (refine ac_region_h fun K hK => ?_; simp (disch := omega) [go_sem, *, wrap64_id, ilt_true, ile_true]) | (apply Hide.out hK; clear hK K; try with_reducible dsimp only [thenA]) | (apply Hide.out ht; clear ht hf Kt Kf) | (apply Hide.out hf; clear ht hf Kt Kf) | (refine ac_block ?_) | (refine ac_skip ?_; simp only [thenA, blockA]) | (refine ac_cond_h fun Kt Kf ht hf => ?_; simp (disch := omega) [go_sem, *]; try (refine ⟨fun hc => ?_, fun hc => ?_⟩ <;> try (exfalso; omega))))
        exact round_end (by simp (disch := omega) [go_sem]) (Sub.refl _) ⟨i + 1, _, by omega, by omega, hc.out, rfl⟩ (by simp [intAt, go_sem]; omega)
    · rw [List.drop_eq_nil_of_le (by omega)] at hc
      have hc2 : T = false := by rw [← hc]; rfl
      subst hc2
      clear hc
      repeat' (first | (refine ac_seq_h fun K hK => ?_) | (refine ac_region_h fun K hK => ?_; simp (disch := omega) [go_sem, *, ilt_false]) | (apply Hide.out hK; clear hK K; try with_reducible dsimp only [thenA]) | (apply Hide.out hf; clear ht hf Kt Kf) | (clear hK K; apply Hide.out hK; clear hK K; try with_reducible dsimp only [thenA]) | (refine ac_exit ?_; simp only [thenA, blockA, if_true]) | (refine ac_cond_h fun Kt Kf ht hf => ?_; simp (disch := omega) [go_sem, *]; try (refine ⟨fun hc => ?_, fun hc => ?_⟩ <;> try (exfalso; omega))))
      (refine ac_ret ?_; try dsimp only [thenA, blockA]; refine ⟨by simp, _, (by first | rfl | (simp (disch := omega) [go_sem, upd_ne] <;> rfl)), ?_⟩; refine ret_id ⟨fun k hk => (by first | rfl | (repeat rw [upd_ne _ _ _ _ (by omega)])), (by simp [go_sem, below]), (by simp [go_sem] <;> omega), by simp, by simp⟩)
/-- what a name is -/
def nameOk (s : ByteArray) : Bool := decide (1 ≤ s.size) && decide (s.size ≤ 24) && (match s.data.toList with | x :: _ => lowr x.toNat | [] => false) && !inS s resl && decide (runE s = s.size)
end Go.AM

namespace Go.AM
open Go.Proofs Cw
set_option maxRecDepth 10000
set_option maxHeartbeats 4000000
theorem nameOk_cons (s : ByteArray) (x : UInt8) (hz : 0 < s.size) (hx : s[0] = x) : nameOk s = (decide (s.size ≤ 24) && lowr x.toNat && !inS s resl && decide (runE s = s.size)) := by
  have h0 : 0 < s.data.toList.length := by rw [Array.length_toList]; exact hz
  have e : ∃ r, s.data.toList = x :: r := by
    match hd : s.data.toList, h0 with
    | y :: r, _ =>
      refine ⟨r, ?_⟩
      have : s.data.toList[0]? = some x := by rw [List.getElem?_eq_getElem h0, ← hx]; rfl
      rw [hd] at this; simp at this; rw [this]
  obtain ⟨r, hr⟩ := e
  unfold nameOk
  rw [hr]
  simp only [show (1 ≤ s.size) = True by simp; omega, decide_true, Bool.true_and]
theorem named83 (s : ByteArray) (hl : s.size ≤ 1000000) : APure Tryz.prog 75 [sv s] (bv (nameOk s)) := by
  intro h n
  have k2 := run136 s hl
  have k3 := word138 s
  refine ACalls.pure (ACalls.entry (by kernel_rfl) fun hb _ => calls_of Tryz.func75 rfl (by kernel_rfl) (by simp [Tryz.ntmps75]) ?_)
  by_cases hz : 0 < s.size
  · obtain ⟨x, hx⟩ : ∃ x, s[0] = x := ⟨_, rfl⟩
    have k1 := letter135 x.toNat
    rw [nameOk_cons s x hz hx]
    have hne : s.toList.isEmpty = false := by
      rw [ByteArray.toList_eq]
      have h0 : 0 < s.data.toList.length := by rw [Array.length_toList]; exact hz
      cases hs : s.data.toList with
      | nil => rw [hs] at h0; simp at h0
      | cons a r => rfl
    have hrl : ((runE s : Int) == (s.size : Int)) = decide (runE s = s.size) := by rw [Bool.eq_iff_iff]; simp; omega
    generalize runE s = e at *
    generalize inS s resl = y at *
    cases hlo : lowr x.toNat with
    | false =>
      rw [hlo] at k1
      simp only [Bool.and_false, Bool.false_and]
      clear hlo
      repeat' (first | (refine ac_seq_h fun K hK => ?_) | (refine ac_region_h fun K hK => ?_; simp (disch := omega) [go_sem, *, Tryz.ntmps75 ]) | (apply Hide.out hK; clear hK K; try with_reducible dsimp only [thenA]) | (with_reducible refine APure.gcall (k1) ?_; try simp (disch := omega) [go_sem, * ]))
      (refine ac_ret ?_; try dsimp only [thenA, blockA]; refine ⟨by simp, _, (by first | rfl | (simp (disch := omega) [go_sem, upd_ne] <;> rfl)), ?_⟩; refine ret_id ⟨fun k hk => (by first | rfl | (repeat rw [upd_ne _ _ _ _ (by omega)])), (by simp [go_sem, below]), (by simp [go_sem] <;> omega), by simp, by simp⟩)
    | true =>
      rw [hlo] at k1
      simp only [Bool.and_true]
      clear hlo
      by_cases he : e = s.size
      · rw [decide_eq_true he] at hrl ⊢
        clear he
        by_cases h24 : 24 < s.size
        · rw [if_pos h24] at k3
          rw [decide_eq_false (by omega)]
          simp only [Bool.false_and]
          repeat' (first | (refine ac_seq_h fun K hK => ?_) | (refine ac_region_h fun K hK => ?_; simp (disch := omega) [go_sem, *, Tryz.ntmps75 ]) | (apply Hide.out hK; clear hK K; try with_reducible dsimp only [thenA]) | (with_reducible refine APure.gcall (k1) ?_; try simp (disch := omega) [go_sem, * ]) | (with_reducible refine APure.gcall (k2) ?_; try simp (disch := omega) [go_sem, * ]) | (with_reducible refine APure.gcall (k3) ?_; try simp (disch := omega) [go_sem, * ]))
          (refine ac_ret ?_; try dsimp only [thenA, blockA]; refine ⟨by simp, _, (by first | rfl | (simp (disch := omega) [go_sem, upd_ne] <;> rfl)), ?_⟩; refine ret_id ⟨fun k hk => (by first | rfl | (repeat rw [upd_ne _ _ _ _ (by omega)])), (by simp [go_sem, below]), (by simp [go_sem] <;> omega), by simp, by simp⟩)
        · rw [if_neg h24] at k3
          rw [decide_eq_true (by omega)]
          cases y
          · simp only [Bool.false_eq_true, if_false] at k3
            simp only [Bool.not_false, Bool.and_true]
            repeat' (first | (refine ac_seq_h fun K hK => ?_) | (refine ac_region_h fun K hK => ?_; simp (disch := omega) [go_sem, *, Tryz.ntmps75 ]) | (apply Hide.out hK; clear hK K; try with_reducible dsimp only [thenA]) | (with_reducible refine APure.gcall (k1) ?_; try simp (disch := omega) [go_sem, * ]) | (with_reducible refine APure.gcall (k2) ?_; try simp (disch := omega) [go_sem, * ]) | (with_reducible refine APure.gcall (k3) ?_; try simp (disch := omega) [go_sem, * ]))
            (refine ac_ret ?_; try dsimp only [thenA, blockA]; refine ⟨by simp, _, (by first | rfl | (simp (disch := omega) [go_sem, upd_ne] <;> rfl)), ?_⟩; refine ret_id ⟨fun k hk => (by first | rfl | (repeat rw [upd_ne _ _ _ _ (by omega)])), (by simp [go_sem, below]), (by simp [go_sem] <;> omega), by simp, by simp⟩)
          · simp only [if_true] at k3
            simp only [Bool.not_true, Bool.and_false, Bool.false_and]
            repeat' (first | (refine ac_seq_h fun K hK => ?_) | (refine ac_region_h fun K hK => ?_; simp (disch := omega) [go_sem, *, Tryz.ntmps75 ]) | (apply Hide.out hK; clear hK K; try with_reducible dsimp only [thenA]) | (with_reducible refine APure.gcall (k1) ?_; try simp (disch := omega) [go_sem, * ]) | (with_reducible refine APure.gcall (k2) ?_; try simp (disch := omega) [go_sem, * ]) | (with_reducible refine APure.gcall (k3) ?_; try simp (disch := omega) [go_sem, * ]))
            (refine ac_ret ?_; try dsimp only [thenA, blockA]; refine ⟨by simp, _, (by first | rfl | (simp (disch := omega) [go_sem, upd_ne] <;> rfl)), ?_⟩; refine ret_id ⟨fun k hk => (by first | rfl | (repeat rw [upd_ne _ _ _ _ (by omega)])), (by simp [go_sem, below]), (by simp [go_sem] <;> omega), by simp, by simp⟩)
      · rw [decide_eq_false he] at hrl ⊢
        simp only [Bool.and_false]
        clear he
        repeat' (first | (refine ac_seq_h fun K hK => ?_) | (refine ac_region_h fun K hK => ?_; simp (disch := omega) [go_sem, *, Tryz.ntmps75 ]) | (apply Hide.out hK; clear hK K; try with_reducible dsimp only [thenA]) | (with_reducible refine APure.gcall (k1) ?_; try simp (disch := omega) [go_sem, * ]) | (with_reducible refine APure.gcall (k2) ?_; try simp (disch := omega) [go_sem, * ]))
        (refine ac_ret ?_; try dsimp only [thenA, blockA]; refine ⟨by simp, _, (by first | rfl | (simp (disch := omega) [go_sem, upd_ne] <;> rfl)), ?_⟩; refine ret_id ⟨fun k hk => (by first | rfl | (repeat rw [upd_ne _ _ _ _ (by omega)])), (by simp [go_sem, below]), (by simp [go_sem] <;> omega), by simp, by simp⟩)
  · have hs : s = ⟨#[]⟩ := by
      have h1 : s.data.size = 0 := by show s.size = 0; omega
      cases s; simp at h1; rw [h1]
    subst hs
    have hn : nameOk ⟨#[]⟩ = false := by kernel_rfl
    rw [hn]
    clear hl hz hn k2 k3
    repeat' (first | (refine ac_seq_h fun K hK => ?_) | (refine ac_region_h fun K hK => ?_; simp (disch := omega) [go_sem, *, Tryz.ntmps75]) | (apply Hide.out hK; clear hK K; try with_reducible dsimp only [thenA]))
    (refine ac_ret ?_; try dsimp only [thenA, blockA]; refine ⟨by simp, _, (by first | rfl | (simp (disch := omega) [go_sem, upd_ne] <;> rfl)), ?_⟩; refine ret_id ⟨fun k hk => (by first | rfl | (repeat rw [upd_ne _ _ _ _ (by omega)])), (by simp [go_sem, below]), (by simp [go_sem] <;> omega), by simp, by simp⟩)
theorem name152 (s : ByteArray) (hl : s.size ≤ 1000000) : APure Tryz.prog 145 [sv s] (bv (nameOk s)) := by
  intro h n
  have k2 := end183 s hl
  have k3 := reserved182 s
  refine ACalls.pure (ACalls.entry (by kernel_rfl) fun hb _ => calls_of Tryz.func145 rfl (by kernel_rfl) (by simp [Tryz.ntmps145]) ?_)
  by_cases hz : 0 < s.size
  · obtain ⟨x, hx⟩ : ∃ x, s[0] = x := ⟨_, rfl⟩
    have k1 := letter181 x.toNat
    rw [nameOk_cons s x hz hx]
    have hrl : ((runE s : Int) == (s.size : Int)) = decide (runE s = s.size) := by rw [Bool.eq_iff_iff]; simp; omega
    generalize runE s = e at *
    generalize inS s resl = y at *
    by_cases h24 : 24 < s.size
    · rw [decide_eq_false (show ¬ s.size ≤ 24 by omega)]
      simp only [Bool.false_and]
      repeat' (first | (refine ac_seq_h fun K hK => ?_) | (refine ac_region_h fun K hK => ?_; simp (disch := omega) [go_sem, *, ilt_true, ilt_false, Tryz.ntmps145]) | (apply Hide.out hK; clear hK K; try with_reducible dsimp only [thenA]) | (apply Hide.out ht; clear ht hf Kt Kf) | (refine ac_cond_h fun Kt Kf ht hf => ?_; simp (disch := omega) [go_sem, *]; try (refine ⟨fun hc => ?_, fun hc => ?_⟩ <;> try (exfalso; omega))))
      (refine ac_ret ?_; try dsimp only [thenA, blockA]; refine ⟨by simp, _, (by first | rfl | (simp (disch := omega) [go_sem, upd_ne] <;> rfl)), ?_⟩; refine ret_id ⟨fun k hk => (by first | rfl | (repeat rw [upd_ne _ _ _ _ (by omega)])), (by simp [go_sem, below]), (by simp [go_sem] <;> omega), by simp, by simp⟩)
    · rw [decide_eq_true (show s.size ≤ 24 by omega)]
      simp only [Bool.true_and]
      cases hlo : lowr x.toNat with
      | false =>
        rw [hlo] at k1
        simp only [Bool.false_and]
        clear hlo
        repeat' (first | (refine ac_seq_h fun K hK => ?_) | (refine ac_region_h fun K hK => ?_; simp (disch := omega) [go_sem, *, ilt_false, Tryz.ntmps145 ]) | (apply Hide.out hK; clear hK K; try with_reducible dsimp only [thenA]) | (apply Hide.out ht; clear ht hf Kt Kf) | (with_reducible refine APure.gcall (k1) ?_; try simp (disch := omega) [go_sem, * ]) | (refine ac_cond_h fun Kt Kf ht hf => ?_; simp (disch := omega) [go_sem, * ]; try (refine ⟨fun hc => ?_, fun hc => ?_⟩ <;> try (exfalso; omega))))
        (refine ac_ret ?_; try dsimp only [thenA, blockA]; refine ⟨by simp, _, (by first | rfl | (simp (disch := omega) [go_sem, upd_ne] <;> rfl)), ?_⟩; refine ret_id ⟨fun k hk => (by first | rfl | (repeat rw [upd_ne _ _ _ _ (by omega)])), (by simp [go_sem, below]), (by simp [go_sem] <;> omega), by simp, by simp⟩)
      | true =>
        rw [hlo] at k1
        simp only [Bool.true_and]
        clear hlo
        cases y
        · by_cases he : e = s.size
          · rw [decide_eq_true he] at hrl ⊢
            clear he
            simp only [Bool.not_false, Bool.and_true]
            repeat' (first | (refine ac_seq_h fun K hK => ?_) | (refine ac_region_h fun K hK => ?_; simp (disch := omega) [go_sem, *, ilt_false, Tryz.ntmps145 ]) | (apply Hide.out hK; clear hK K; try with_reducible dsimp only [thenA]) | (apply Hide.out hf; clear ht hf Kt Kf) | (with_reducible refine APure.gcall (k1) ?_; try simp (disch := omega) [go_sem, * ]) | (with_reducible refine APure.gcall (k2) ?_; try simp (disch := omega) [go_sem, * ]) | (with_reducible refine APure.gcall (k3) ?_; try simp (disch := omega) [go_sem, * ]) | (refine ac_skip ?_; simp only [thenA]) | (refine ac_cond_h fun Kt Kf ht hf => ?_; simp (disch := omega) [go_sem, * ]; try (refine ⟨fun hc => ?_, fun hc => ?_⟩ <;> try (exfalso; omega))))
            (refine ac_ret ?_; try dsimp only [thenA, blockA]; refine ⟨by simp, _, (by first | rfl | (simp (disch := omega) [go_sem, upd_ne] <;> rfl)), ?_⟩; refine ret_id ⟨fun k hk => (by first | rfl | (repeat rw [upd_ne _ _ _ _ (by omega)])), (by simp [go_sem, below]), (by simp [go_sem] <;> omega), by simp, by simp⟩)
          · rw [decide_eq_false he] at hrl ⊢
            clear he
            simp only [Bool.and_false]
            repeat' (first | (refine ac_seq_h fun K hK => ?_) | (refine ac_region_h fun K hK => ?_; simp (disch := omega) [go_sem, *, ilt_false, Tryz.ntmps145 ]) | (apply Hide.out hK; clear hK K; try with_reducible dsimp only [thenA]) | (apply Hide.out hf; clear ht hf Kt Kf) | (with_reducible refine APure.gcall (k1) ?_; try simp (disch := omega) [go_sem, * ]) | (with_reducible refine APure.gcall (k2) ?_; try simp (disch := omega) [go_sem, * ]) | (with_reducible refine APure.gcall (k3) ?_; try simp (disch := omega) [go_sem, * ]) | (refine ac_skip ?_; simp only [thenA]) | (refine ac_cond_h fun Kt Kf ht hf => ?_; simp (disch := omega) [go_sem, * ]; try (refine ⟨fun hc => ?_, fun hc => ?_⟩ <;> try (exfalso; omega))))
            (refine ac_ret ?_; try dsimp only [thenA, blockA]; refine ⟨by simp, _, (by first | rfl | (simp (disch := omega) [go_sem, upd_ne] <;> rfl)), ?_⟩; refine ret_id ⟨fun k hk => (by first | rfl | (repeat rw [upd_ne _ _ _ _ (by omega)])), (by simp [go_sem, below]), (by simp [go_sem] <;> omega), by simp, by simp⟩)
        · simp only [Bool.not_true, Bool.false_and]
          repeat' (first | (refine ac_seq_h fun K hK => ?_) | (refine ac_region_h fun K hK => ?_; simp (disch := omega) [go_sem, *, ilt_false, Tryz.ntmps145 ]) | (apply Hide.out hK; clear hK K; try with_reducible dsimp only [thenA]) | (apply Hide.out hf; clear ht hf Kt Kf) | (with_reducible refine APure.gcall (k1) ?_; try simp (disch := omega) [go_sem, * ]) | (with_reducible refine APure.gcall (k3) ?_; try simp (disch := omega) [go_sem, * ]) | (refine ac_skip ?_; simp only [thenA]) | (refine ac_cond_h fun Kt Kf ht hf => ?_; simp (disch := omega) [go_sem, * ]; try (refine ⟨fun hc => ?_, fun hc => ?_⟩ <;> try (exfalso; omega))))
          (refine ac_ret ?_; try dsimp only [thenA, blockA]; refine ⟨by simp, _, (by first | rfl | (simp (disch := omega) [go_sem, upd_ne] <;> rfl)), ?_⟩; refine ret_id ⟨fun k hk => (by first | rfl | (repeat rw [upd_ne _ _ _ _ (by omega)])), (by simp [go_sem, below]), (by simp [go_sem] <;> omega), by simp, by simp⟩)
  · have hn : nameOk s = false := by unfold nameOk; rw [decide_eq_false (show ¬ 1 ≤ s.size by omega)]; simp
    rw [hn]
    have hz2 : s.size = 0 := by omega
    repeat' (first | (refine ac_seq_h fun K hK => ?_) | (refine ac_region_h fun K hK => ?_; simp (disch := omega) [go_sem, *, ilt_true, Tryz.ntmps145]) | (apply Hide.out hK; clear hK K; try with_reducible dsimp only [thenA]) | (apply Hide.out ht; clear ht hf Kt Kf) | (refine ac_cond_h fun Kt Kf ht hf => ?_; simp (disch := omega) [go_sem, *]; try (refine ⟨fun hc => ?_, fun hc => ?_⟩ <;> try (exfalso; omega))))
    (refine ac_ret ?_; try dsimp only [thenA, blockA]; refine ⟨by simp, _, (by first | rfl | (simp (disch := omega) [go_sem, upd_ne] <;> rfl)), ?_⟩; refine ret_id ⟨fun k hk => (by first | rfl | (repeat rw [upd_ne _ _ _ _ (by omega)])), (by simp [go_sem, below]), (by simp [go_sem] <;> omega), by simp, by simp⟩)
end Go.AM
