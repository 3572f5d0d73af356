/- Letters, digits, words. Conditions: as each theorem says. -/
import Derived.Test.YtabidiilbgakoaaGreatDoorTa
namespace Go.AM
open Go.Proofs Cw
set_option maxRecDepth 10000
set_option maxHeartbeats 4000000
def lowr (u : Nat) : Bool := decide (97 ≤ u) && decide (u ≤ 122)
def digt (u : Nat) : Bool := decide (48 ≤ u) && decide (u ≤ 57)
def plnb (u : Nat) : Bool := lowr u || digt u
theorem letter135 (u : Nat) : APure Tryz.prog 141 [iv .u8 u] (bv (lowr u)) := by
  intro h n
  refine ACalls.pure (ACalls.entry (by kernel_rfl) fun hb _ => calls_of Tryz.func141 rfl (by kernel_rfl) (by simp [Tryz.ntmps141]) ?_)
  by_cases h1 : 97 ≤ u <;> by_cases h2 : u ≤ 122
  · have : lowr u = true := by simp [lowr, h1, h2]
    rw [this]; clear this
    repeat' (first | (refine ac_seq_h fun K hK => ?_) | (refine ac_region_h fun K hK => ?_; simp (disch := omega) [go_sem, *, ile_true, Tryz.ntmps141]) | (apply Hide.out hK; clear hK K; try with_reducible dsimp only [thenA]))
    (refine ac_ret ?_; try dsimp only [thenA, blockA]; refine ⟨by simp, _, (by first | rfl | (simp (disch := omega) [go_sem, upd_ne] <;> rfl)), ?_⟩; refine ret_id ⟨fun k hk => (by first | rfl | (repeat rw [upd_ne _ _ _ _ (by omega)])), (by simp [go_sem, below]), (by simp [go_sem] <;> omega), by simp, by simp⟩)
  · have : lowr u = false := by simp [lowr, h1, h2]
    rw [this]; clear this
    repeat' (first | (refine ac_seq_h fun K hK => ?_) | (refine ac_region_h fun K hK => ?_; simp (disch := omega) [go_sem, *, ile_true, ile_false, Tryz.ntmps141]) | (apply Hide.out hK; clear hK K; try with_reducible dsimp only [thenA]))
    (refine ac_ret ?_; try dsimp only [thenA, blockA]; refine ⟨by simp, _, (by first | rfl | (simp (disch := omega) [go_sem, upd_ne] <;> rfl)), ?_⟩; refine ret_id ⟨fun k hk => (by first | rfl | (repeat rw [upd_ne _ _ _ _ (by omega)])), (by simp [go_sem, below]), (by simp [go_sem] <;> omega), by simp, by simp⟩)
  · have : lowr u = false := by simp [lowr, h1, h2]
    rw [this]; clear this
    repeat' (first | (refine ac_seq_h fun K hK => ?_) | (refine ac_region_h fun K hK => ?_; simp (disch := omega) [go_sem, *, ile_false, Tryz.ntmps141]) | (apply Hide.out hK; clear hK K; try with_reducible dsimp only [thenA]))
    (refine ac_ret ?_; try dsimp only [thenA, blockA]; refine ⟨by simp, _, (by first | rfl | (simp (disch := omega) [go_sem, upd_ne] <;> rfl)), ?_⟩; refine ret_id ⟨fun k hk => (by first | rfl | (repeat rw [upd_ne _ _ _ _ (by omega)])), (by simp [go_sem, below]), (by simp [go_sem] <;> omega), by simp, by simp⟩)
  · have : lowr u = false := by simp [lowr, h1, h2]
    rw [this]; clear this
    repeat' (first | (refine ac_seq_h fun K hK => ?_) | (refine ac_region_h fun K hK => ?_; simp (disch := omega) [go_sem, *, ile_true, Tryz.ntmps141]) | (apply Hide.out hK; clear hK K; try with_reducible dsimp only [thenA]))
    (refine ac_ret ?_; try dsimp only [thenA, blockA]; refine ⟨by simp, _, (by first | rfl | (simp (disch := omega) [go_sem, upd_ne] <;> rfl)), ?_⟩; refine ret_id ⟨fun k hk => (by first | rfl | (repeat rw [upd_ne _ _ _ _ (by omega)])), (by simp [go_sem, below]), (by simp [go_sem] <;> omega), by simp, by simp⟩)
theorem digit158 (u : Nat) : APure Tryz.prog 174 [iv .u8 u] (bv (digt u)) := by
  intro h n
  refine ACalls.pure (ACalls.entry (by kernel_rfl) fun hb _ => calls_of Tryz.func174 rfl (by kernel_rfl) (by simp [Tryz.ntmps174]) ?_)
  by_cases h1 : 48 ≤ u <;> by_cases h2 : u ≤ 57
  · have : digt u = true := by simp [digt, h1, h2]
    rw [this]; clear this
    repeat' (first | (refine ac_seq_h fun K hK => ?_) | (refine ac_region_h fun K hK => ?_; simp (disch := omega) [go_sem, *, ile_true, Tryz.ntmps174]) | (apply Hide.out hK; clear hK K; try with_reducible dsimp only [thenA]))
    (refine ac_ret ?_; try dsimp only [thenA, blockA]; refine ⟨by simp, _, (by first | rfl | (simp (disch := omega) [go_sem, upd_ne] <;> rfl)), ?_⟩; refine ret_id ⟨fun k hk => (by first | rfl | (repeat rw [upd_ne _ _ _ _ (by omega)])), (by simp [go_sem, below]), (by simp [go_sem] <;> omega), by simp, by simp⟩)
  · have : digt u = false := by simp [digt, h1, h2]
    rw [this]; clear this
    repeat' (first | (refine ac_seq_h fun K hK => ?_) | (refine ac_region_h fun K hK => ?_; simp (disch := omega) [go_sem, *, ile_true, ile_false, Tryz.ntmps174]) | (apply Hide.out hK; clear hK K; try with_reducible dsimp only [thenA]))
    (refine ac_ret ?_; try dsimp only [thenA, blockA]; refine ⟨by simp, _, (by first | rfl | (simp (disch := omega) [go_sem, upd_ne] <;> rfl)), ?_⟩; refine ret_id ⟨fun k hk => (by first | rfl | (repeat rw [upd_ne _ _ _ _ (by omega)])), (by simp [go_sem, below]), (by simp [go_sem] <;> omega), by simp, by simp⟩)
  · have : digt u = false := by simp [digt, h1, h2]
    rw [this]; clear this
    repeat' (first | (refine ac_seq_h fun K hK => ?_) | (refine ac_region_h fun K hK => ?_; simp (disch := omega) [go_sem, *, ile_false, Tryz.ntmps174]) | (apply Hide.out hK; clear hK K; try with_reducible dsimp only [thenA]))
    (refine ac_ret ?_; try dsimp only [thenA, blockA]; refine ⟨by simp, _, (by first | rfl | (simp (disch := omega) [go_sem, upd_ne] <;> rfl)), ?_⟩; refine ret_id ⟨fun k hk => (by first | rfl | (repeat rw [upd_ne _ _ _ _ (by omega)])), (by simp [go_sem, below]), (by simp [go_sem] <;> omega), by simp, by simp⟩)
  · have : digt u = false := by simp [digt, h1, h2]
    rw [this]; clear this
    repeat' (first | (refine ac_seq_h fun K hK => ?_) | (refine ac_region_h fun K hK => ?_; simp (disch := omega) [go_sem, *, ile_true, Tryz.ntmps174]) | (apply Hide.out hK; clear hK K; try with_reducible dsimp only [thenA]))
    (refine ac_ret ?_; try dsimp only [thenA, blockA]; refine ⟨by simp, _, (by first | rfl | (simp (disch := omega) [go_sem, upd_ne] <;> rfl)), ?_⟩; refine ret_id ⟨fun k hk => (by first | rfl | (repeat rw [upd_ne _ _ _ _ (by omega)])), (by simp [go_sem, below]), (by simp [go_sem] <;> omega), by simp, by simp⟩)
theorem letter181 (u : Nat) : APure Tryz.prog 115 [iv .u8 u] (bv (lowr u)) := by
  intro h n
  refine ACalls.pure (ACalls.entry (by kernel_rfl) fun hb _ => calls_of Tryz.func115 rfl (by kernel_rfl) (by simp [Tryz.ntmps115]) ?_)
  by_cases h1 : 97 ≤ u <;> by_cases h2 : u ≤ 122
  · have : lowr u = true := by simp [lowr, h1, h2]
    rw [this]; clear this
    repeat' (first | (refine ac_seq_h fun K hK => ?_) | (refine ac_region_h fun K hK => ?_; simp (disch := omega) [go_sem, *, ile_true, Tryz.ntmps115]) | (apply Hide.out hK; clear hK K; try with_reducible dsimp only [thenA]))
    (refine ac_ret ?_; try dsimp only [thenA, blockA]; refine ⟨by simp, _, (by first | rfl | (simp (disch := omega) [go_sem, upd_ne] <;> rfl)), ?_⟩; refine ret_id ⟨fun k hk => (by first | rfl | (repeat rw [upd_ne _ _ _ _ (by omega)])), (by simp [go_sem, below]), (by simp [go_sem] <;> omega), by simp, by simp⟩)
  · have : lowr u = false := by simp [lowr, h1, h2]
    rw [this]; clear this
    repeat' (first | (refine ac_seq_h fun K hK => ?_) | (refine ac_region_h fun K hK => ?_; simp (disch := omega) [go_sem, *, ile_true, ile_false, Tryz.ntmps115]) | (apply Hide.out hK; clear hK K; try with_reducible dsimp only [thenA]))
    (refine ac_ret ?_; try dsimp only [thenA, blockA]; refine ⟨by simp, _, (by first | rfl | (simp (disch := omega) [go_sem, upd_ne] <;> rfl)), ?_⟩; refine ret_id ⟨fun k hk => (by first | rfl | (repeat rw [upd_ne _ _ _ _ (by omega)])), (by simp [go_sem, below]), (by simp [go_sem] <;> omega), by simp, by simp⟩)
  · have : lowr u = false := by simp [lowr, h1, h2]
    rw [this]; clear this
    repeat' (first | (refine ac_seq_h fun K hK => ?_) | (refine ac_region_h fun K hK => ?_; simp (disch := omega) [go_sem, *, ile_false, Tryz.ntmps115]) | (apply Hide.out hK; clear hK K; try with_reducible dsimp only [thenA]))
    (refine ac_ret ?_; try dsimp only [thenA, blockA]; refine ⟨by simp, _, (by first | rfl | (simp (disch := omega) [go_sem, upd_ne] <;> rfl)), ?_⟩; refine ret_id ⟨fun k hk => (by first | rfl | (repeat rw [upd_ne _ _ _ _ (by omega)])), (by simp [go_sem, below]), (by simp [go_sem] <;> omega), by simp, by simp⟩)
  · have : lowr u = false := by simp [lowr, h1, h2]
    rw [this]; clear this
    repeat' (first | (refine ac_seq_h fun K hK => ?_) | (refine ac_region_h fun K hK => ?_; simp (disch := omega) [go_sem, *, ile_true, Tryz.ntmps115]) | (apply Hide.out hK; clear hK K; try with_reducible dsimp only [thenA]))
    (refine ac_ret ?_; try dsimp only [thenA, blockA]; refine ⟨by simp, _, (by first | rfl | (simp (disch := omega) [go_sem, upd_ne] <;> rfl)), ?_⟩; refine ret_id ⟨fun k hk => (by first | rfl | (repeat rw [upd_ne _ _ _ _ (by omega)])), (by simp [go_sem, below]), (by simp [go_sem] <;> omega), by simp, by simp⟩)
theorem digit230 (u : Nat) : APure Tryz.prog 119 [iv .u8 u] (bv (digt u)) := by
  intro h n
  refine ACalls.pure (ACalls.entry (by kernel_rfl) fun hb _ => calls_of Tryz.func119 rfl (by kernel_rfl) (by simp [Tryz.ntmps119]) ?_)
  by_cases h1 : 48 ≤ u <;> by_cases h2 : u ≤ 57
  · have : digt u = true := by simp [digt, h1, h2]
    rw [this]; clear this
    repeat' (first | (refine ac_seq_h fun K hK => ?_) | (refine ac_region_h fun K hK => ?_; simp (disch := omega) [go_sem, *, ile_true, Tryz.ntmps119]) | (apply Hide.out hK; clear hK K; try with_reducible dsimp only [thenA]))
    (refine ac_ret ?_; try dsimp only [thenA, blockA]; refine ⟨by simp, _, (by first | rfl | (simp (disch := omega) [go_sem, upd_ne] <;> rfl)), ?_⟩; refine ret_id ⟨fun k hk => (by first | rfl | (repeat rw [upd_ne _ _ _ _ (by omega)])), (by simp [go_sem, below]), (by simp [go_sem] <;> omega), by simp, by simp⟩)
  · have : digt u = false := by simp [digt, h1, h2]
    rw [this]; clear this
    repeat' (first | (refine ac_seq_h fun K hK => ?_) | (refine ac_region_h fun K hK => ?_; simp (disch := omega) [go_sem, *, ile_true, ile_false, Tryz.ntmps119]) | (apply Hide.out hK; clear hK K; try with_reducible dsimp only [thenA]))
    (refine ac_ret ?_; try dsimp only [thenA, blockA]; refine ⟨by simp, _, (by first | rfl | (simp (disch := omega) [go_sem, upd_ne] <;> rfl)), ?_⟩; refine ret_id ⟨fun k hk => (by first | rfl | (repeat rw [upd_ne _ _ _ _ (by omega)])), (by simp [go_sem, below]), (by simp [go_sem] <;> omega), by simp, by simp⟩)
  · have : digt u = false := by simp [digt, h1, h2]
    rw [this]; clear this
    repeat' (first | (refine ac_seq_h fun K hK => ?_) | (refine ac_region_h fun K hK => ?_; simp (disch := omega) [go_sem, *, ile_false, Tryz.ntmps119]) | (apply Hide.out hK; clear hK K; try with_reducible dsimp only [thenA]))
    (refine ac_ret ?_; try dsimp only [thenA, blockA]; refine ⟨by simp, _, (by first | rfl | (simp (disch := omega) [go_sem, upd_ne] <;> rfl)), ?_⟩; refine ret_id ⟨fun k hk => (by first | rfl | (repeat rw [upd_ne _ _ _ _ (by omega)])), (by simp [go_sem, below]), (by simp [go_sem] <;> omega), by simp, by simp⟩)
  · have : digt u = false := by simp [digt, h1, h2]
    rw [this]; clear this
    repeat' (first | (refine ac_seq_h fun K hK => ?_) | (refine ac_region_h fun K hK => ?_; simp (disch := omega) [go_sem, *, ile_true, Tryz.ntmps119]) | (apply Hide.out hK; clear hK K; try with_reducible dsimp only [thenA]))
    (refine ac_ret ?_; try dsimp only [thenA, blockA]; refine ⟨by simp, _, (by first | rfl | (simp (disch := omega) [go_sem, upd_ne] <;> rfl)), ?_⟩; refine ret_id ⟨fun k hk => (by first | rfl | (repeat rw [upd_ne _ _ _ _ (by omega)])), (by simp [go_sem, below]), (by simp [go_sem] <;> omega), by simp, by simp⟩)
theorem plain137 (u : Nat) : APure Tryz.prog 143 [iv .u8 u] (bv (plnb u)) := by
  intro h n
  have k1 := letter135 u
  have k2 := digit158 u
  refine ACalls.pure (ACalls.entry (by kernel_rfl) fun hb _ => calls_of Tryz.func143 rfl (by kernel_rfl) (by simp [Tryz.ntmps143]) ?_)
  unfold plnb
  generalize lowr u = x at *
  generalize digt u = y at *
  cases x <;> cases y
  all_goals simp only [Bool.or_true, Bool.or_false]
  all_goals repeat' (first | (refine ac_seq_h fun K hK => ?_) | (refine ac_region_h fun K hK => ?_; simp (disch := omega) [go_sem, *, Tryz.ntmps143 ]) | (apply Hide.out hK; clear hK K; try with_reducible dsimp only [thenA]) | (with_reducible refine APure.gcall (k1) ?_; try simp (disch := omega) [go_sem, * ]) | (with_reducible refine APure.gcall (k2) ?_; try simp (disch := omega) [go_sem, * ]))
  all_goals (refine ac_ret ?_; try dsimp only [thenA, blockA]; refine ⟨by simp, _, (by first | rfl | (simp (disch := omega) [go_sem, upd_ne] <;> rfl)), ?_⟩; refine ret_id ⟨fun k hk => (by first | rfl | (repeat rw [upd_ne _ _ _ _ (by omega)])), (by simp [go_sem, below]), (by simp [go_sem] <;> omega), by simp, by simp⟩)
end Go.AM

namespace Go.AM
open Go.Proofs Cw
set_option maxRecDepth 10000
set_option maxHeartbeats 4000000
/-- the end of the letters and digits from the start -/
def runE (s : ByteArray) : Nat := (s.data.toList.takeWhile fun u => plnb u.toNat).length
theorem takeWhile_at {α : Type} (p : α → Bool) : ∀ (l : List α) (i : Nat), i ≤ l.length → (∀ j x, j < i → l[j]? = some x → p x = true) → (∀ x, l[i]? = some x → p x = false) → (l.takeWhile p).length = i
  | [], i, h, _, _ => by simp at h; subst h; rfl
  | y :: r, 0, _, _, h2 => by
    have := h2 y (by simp)
    simp [List.takeWhile, this]
  | y :: r, i + 1, h, h1, h2 => by
    have := h1 0 y (by omega) (by simp)
    simp only [List.takeWhile, this, List.length_cons]
    rw [takeWhile_at p r i (by simpa using h) (fun j x hj hx => h1 (j + 1) x (by omega) (by simpa using hx)) (fun x hx => h2 x (by simpa using hx))]
theorem run136 (s : ByteArray) (hl : s.size ≤ 1000000) : APure Tryz.prog 142 [sv s, iv .i64 0, .func (.func 143) [] []] (iv .i64 (runE s)) := by
  intro h n
  refine ACalls.pure (ACalls.entry (by kernel_rfl) fun hb _ => calls_of Tryz.func142 rfl (by kernel_rfl) (by simp [Tryz.ntmps142]) ?_)
  obtain ⟨T, hT⟩ : ∃ T, Hide (T = runE s) := ⟨_, rfl⟩
  rw [← hT.out]
  repeat' (first | (refine ac_seq_h fun K hK => ?_) | (refine ac_region_h fun K hK => ?_; simp (disch := omega) [go_sem, *, Tryz.ntmps142]) | (apply Hide.out hK; clear hK K; try with_reducible dsimp only [thenA]) | (refine ac_block ?_))
  refine ac_loop_wk (fun s' => ∃ (i : Nat) (n' : Nat), n ≤ n' ∧ i ≤ s.size ∧ (∀ j (x : UInt8), j < i → s.data.toList[j]? = some x → plnb x.toNat = true) ∧ s' = ⟨21, [(0, sv s), (1, iv .i64 i), (2, .func (.func 143) [] [])], h, n'⟩)
      (fun s' => s.size - (intAt s' 1).toNat) ?_ ?_
  · exact loop_start (by simp [go_sem, *]) (Sub.refl _) ⟨0, _, by omega, by omega, fun j x hj => by omega, rfl⟩
  · rintro s' ⟨i, n', hn', hi, hall, rfl⟩
    replace hall : Hide _ := hall
    by_cases hlt : i < s.size
    · obtain ⟨x, hx⟩ : ∃ x, s[i] = x := ⟨_, rfl⟩
      have hxl : s.data.toList[i]? = some x := by
        have hz : i < s.data.toList.length := by rw [Array.length_toList]; exact hlt
        rw [List.getElem?_eq_getElem hz, ← hx]; rfl
      have k1 := plain137 x.toNat
      cases hp : plnb x.toNat with
      | true =>
        rw [hp] at k1
        replace hp : Hide _ := hp
        replace hxl : Hide _ := hxl
        repeat' (first | (refine ac_seq_h fun K hK => ?_) | (refine ac_region_h fun K hK => ?_; simp (disch := omega) [go_sem, *, wrap64_id, ilt_true, ile_true]) | (apply Hide.out hK; clear hK K; try with_reducible dsimp only [thenA]) | (apply Hide.out ht; clear ht hf Kt Kf) | (with_reducible refine APure.gcall (k1) ?_; try simp (disch := omega) [go_sem, *]) | (refine ac_block ?_) | (refine ac_skip ?_; simp only [thenA]) | (refine ac_cond_h fun Kt Kf ht hf => ?_; simp (disch := omega) [go_sem, *]; try (refine ⟨fun hc => ?_, fun hc => ?_⟩ <;> try (exfalso; omega))))
        exact round_end (by simp (disch := omega) [go_sem]) (Sub.refl _) ⟨i + 1, _, by omega, by omega, fun j y hj hy => by
          rcases Nat.lt_or_ge j i with h1 | h1
          · exact hall.out j y h1 hy
          · have : j = i := by omega
            subst this
            rw [hxl.out] at hy; cases hy; exact hp.out, rfl⟩ (by simp [intAt, go_sem]; omega)
      | false =>
        rw [hp] at k1
        have hTi : T = i := by
          rw [hT.out]
          exact takeWhile_at _ _ i (by rw [Array.length_toList]; exact hi) hall.out fun y hy => by rw [hxl] at hy; cases hy; exact hp
        subst hTi
        replace hp : Hide _ := hp
        replace hxl : Hide _ := hxl
        repeat' (first | (refine ac_seq_h fun K hK => ?_) | (refine ac_region_h fun K hK => ?_; simp (disch := omega) [go_sem, *, ilt_true, ile_true]) | (apply Hide.out hK; clear hK K; try with_reducible dsimp only [thenA]) | (apply Hide.out hf; clear ht hf Kt Kf) | (clear hK K; apply Hide.out hK; clear hK K; try with_reducible dsimp only [thenA]) | (with_reducible refine APure.gcall (k1) ?_; try simp (disch := omega) [go_sem, *]) | (refine ac_exit ?_; simp only [thenA, blockA, if_true]) | (refine ac_cond_h fun Kt Kf ht hf => ?_; simp (disch := omega) [go_sem, *]; try (refine ⟨fun hc => ?_, fun hc => ?_⟩ <;> try (exfalso; omega))))
        (refine ac_ret ?_; try dsimp only [thenA, blockA]; refine ⟨by simp, _, (by first | rfl | (simp (disch := omega) [go_sem, upd_ne] <;> rfl)), ?_⟩; refine ret_id ⟨fun k hk => (by first | rfl | (repeat rw [upd_ne _ _ _ _ (by omega)])), (by simp [go_sem, below]), (by simp [go_sem] <;> omega), by simp, by simp⟩)
    · have hii : i = s.size := by omega
      have hTi : T = i := by
        rw [hT.out]
        exact takeWhile_at _ _ i (by rw [Array.length_toList]; exact hi) hall.out fun y hy => by
          rw [List.getElem?_eq_none (by rw [Array.length_toList]; show s.size ≤ i; omega)] at hy; cases hy
      subst hTi
      repeat' (first | (refine ac_seq_h fun K hK => ?_) | (refine ac_region_h fun K hK => ?_; simp (disch := omega) [go_sem, *]) | (apply Hide.out hK; clear hK K; try with_reducible dsimp only [thenA]) | (apply Hide.out hf; clear ht hf Kt Kf) | (clear hK K; apply Hide.out hK; clear hK K; try with_reducible dsimp only [thenA]) | (refine ac_exit ?_; simp only [thenA, blockA, if_true]) | (refine ac_cond_h fun Kt Kf ht hf => ?_; simp (disch := omega) [go_sem, *]; try (refine ⟨fun hc => ?_, fun hc => ?_⟩ <;> try (exfalso; omega))))
      (refine ac_ret ?_; try dsimp only [thenA, blockA]; refine ⟨by simp, _, (by first | rfl | (simp (disch := omega) [go_sem, upd_ne] <;> rfl)), ?_⟩; refine ret_id ⟨fun k hk => (by first | rfl | (repeat rw [upd_ne _ _ _ _ (by omega)])), (by simp [go_sem, below]), (by simp [go_sem] <;> omega), by simp, by simp⟩)
theorem end183 (s : ByteArray) (hl : s.size ≤ 1000000) : APure Tryz.prog 116 [sv s, iv .i64 0] (iv .i64 (runE s)) := by
  intro h n
  refine ACalls.pure (ACalls.entry (by kernel_rfl) fun hb _ => calls_of Tryz.func116 rfl (by kernel_rfl) (by simp [Tryz.ntmps116]) ?_)
  obtain ⟨T, hT⟩ : ∃ T, Hide (T = runE s) := ⟨_, rfl⟩
  rw [← hT.out]
  repeat' (first | (refine ac_seq_h fun K hK => ?_) | (refine ac_region_h fun K hK => ?_; simp (disch := omega) [go_sem, *, Tryz.ntmps116]) | (apply Hide.out hK; clear hK K; try with_reducible dsimp only [thenA]) | (refine ac_block ?_))
  refine ac_loop_wk (fun s' => ∃ (i : Nat) (n' : Nat), n ≤ n' ∧ i ≤ s.size ∧ (∀ j (x : UInt8), j < i → s.data.toList[j]? = some x → plnb x.toNat = true) ∧ s' = ⟨24, [(0, sv s), (1, iv .i64 i)], h, n'⟩)
      (fun s' => s.size - (intAt s' 1).toNat) ?_ ?_
  · exact loop_start (by simp [go_sem, *]) (Sub.refl _) ⟨0, _, by omega, by omega, fun j x hj => by omega, rfl⟩
  · rintro s' ⟨i, n', hn', hi, hall, rfl⟩
    replace hall : Hide _ := hall
    by_cases hlt : i < s.size
    · obtain ⟨x, hx⟩ : ∃ x, s[i] = x := ⟨_, rfl⟩
      have hxl : s.data.toList[i]? = some x := by
        have hz : i < s.data.toList.length := by rw [Array.length_toList]; exact hlt
        rw [List.getElem?_eq_getElem hz, ← hx]; rfl
      have k1 := letter181 x.toNat
      have k2 := digit230 x.toNat
      have hpl : plnb x.toNat = (lowr x.toNat || digt x.toNat) := rfl
      cases h1 : lowr x.toNat <;> cases h2 : digt x.toNat
      all_goals rw [h1] at k1
      all_goals rw [h2] at k2
      all_goals rw [h1, h2] at hpl
      · have hTi : T = i := by
          rw [hT.out]
          exact takeWhile_at _ _ i (by rw [Array.length_toList]; exact hi) hall.out fun y hy => by rw [hxl] at hy; cases hy; exact hpl
        subst hTi
        clear hpl hxl h1 h2
        repeat' (first | (refine ac_seq_h fun K hK => ?_) | (refine ac_region_h fun K hK => ?_; simp (disch := omega) [go_sem, *, ilt_true, ile_true]) | (apply Hide.out hK; clear hK K; try with_reducible dsimp only [thenA]) | (apply Hide.out hf; clear ht hf Kt Kf) | (clear hK K; apply Hide.out hK; clear hK K; try with_reducible dsimp only [thenA]) | (with_reducible refine APure.gcall (k1) ?_; try simp (disch := omega) [go_sem, *, ile_true]) | (with_reducible refine APure.gcall (k2) ?_; try simp (disch := omega) [go_sem, *]) | (refine ac_exit ?_; simp only [thenA, blockA, if_true]) | (refine ac_cond_h fun Kt Kf ht hf => ?_; simp (disch := omega) [go_sem, *]; try (refine ⟨fun hc => ?_, fun hc => ?_⟩ <;> try (exfalso; omega))))
        (refine ac_ret ?_; try dsimp only [thenA, blockA]; refine ⟨by simp, _, (by first | rfl | (simp (disch := omega) [go_sem, upd_ne] <;> rfl)), ?_⟩; refine ret_id ⟨fun k hk => (by first | rfl | (repeat rw [upd_ne _ _ _ _ (by omega)])), (by simp [go_sem, below]), (by simp [go_sem] <;> omega), by simp, by simp⟩)
      all_goals replace hpl : Hide (plnb x.toNat = true) := hpl
      all_goals replace hxl : Hide _ := hxl
      all_goals clear h1 h2
      all_goals repeat' (first | (refine ac_seq_h fun K hK => ?_) | (refine ac_region_h fun K hK => ?_; simp (disch := omega) [go_sem, *, wrap64_id, ilt_true, ile_true]) | (apply Hide.out hK; clear hK K; try with_reducible dsimp only [thenA]) | (apply Hide.out ht; clear ht hf Kt Kf) | (with_reducible refine APure.gcall (k1) ?_; try simp (disch := omega) [go_sem, *, ile_true]) | (with_reducible refine APure.gcall (k2) ?_; try simp (disch := omega) [go_sem, *]) | (refine ac_block ?_) | (refine ac_skip ?_; simp only [thenA]) | (refine ac_cond_h fun Kt Kf ht hf => ?_; simp (disch := omega) [go_sem, *]; try (refine ⟨fun hc => ?_, fun hc => ?_⟩ <;> try (exfalso; omega))))
      all_goals exact round_end (by simp (disch := omega) [go_sem]) (Sub.refl _) ⟨i + 1, _, by omega, by omega, fun j y hj hy => by
          rcases Nat.lt_or_ge j i with h1 | h1
          · exact hall.out j y h1 hy
          · have : j = i := by omega
            subst this
            rw [hxl.out] at hy; cases hy; exact hpl.out, rfl⟩ (by simp [intAt, go_sem]; omega)
    · have hii : i = s.size := by omega
      have hTi : T = i := by
        rw [hT.out]
        exact takeWhile_at _ _ i (by rw [Array.length_toList]; exact hi) hall.out fun y hy => by
          rw [List.getElem?_eq_none (by rw [Array.length_toList]; show s.size ≤ i; omega)] at hy; cases hy
      subst hTi
      repeat' (first | (refine ac_seq_h fun K hK => ?_) | (refine ac_region_h fun K hK => ?_; simp (disch := omega) [go_sem, *]) | (apply Hide.out hK; clear hK K; try with_reducible dsimp only [thenA]) | (apply Hide.out hf; clear ht hf Kt Kf) | (clear hK K; apply Hide.out hK; clear hK K; try with_reducible dsimp only [thenA]) | (refine ac_exit ?_; simp only [thenA, blockA, if_true]) | (refine ac_cond_h fun Kt Kf ht hf => ?_; simp (disch := omega) [go_sem, *]; try (refine ⟨fun hc => ?_, fun hc => ?_⟩ <;> try (exfalso; omega))))
      (refine ac_ret ?_; try dsimp only [thenA, blockA]; refine ⟨by simp, _, (by first | rfl | (simp (disch := omega) [go_sem, upd_ne] <;> rfl)), ?_⟩; refine ret_id ⟨fun k hk => (by first | rfl | (repeat rw [upd_ne _ _ _ _ (by omega)])), (by simp [go_sem, below]), (by simp [go_sem] <;> omega), by simp, by simp⟩)
end Go.AM

namespace Go.AM
open Go.Proofs Cw
set_option maxRecDepth 10000
set_option maxHeartbeats 4000000
/-- the first place of a text in a list -/
def idxS (w : ByteArray) : List ByteArray → Nat → Int
  | [], _ => -1
  | x :: r, i => if (w.toList == x.toList) = true then i else idxS w r (i + 1)
def inS (w : ByteArray) (l : List ByteArray) : Bool := l.any fun x => w.toList == x.toList
theorem idxS_iff (w : ByteArray) : ∀ (l : List ByteArray) (i : Nat), 0 ≤ idxS w l i ↔ inS w l = true
  | [], _ => by simp [idxS, inS]
  | x :: r, i => by
    have ih := idxS_iff w r (i + 1)
    have e : inS w (x :: r) = ((w.toList == x.toList) || inS w r) := rfl
    rw [e]
    by_cases hx : (w.toList == x.toList) = true
    · have e1 : idxS w (x :: r) i = i := by rw [idxS, if_pos hx]
      rw [e1, hx]; simp
    · have e1 : idxS w (x :: r) i = idxS w r (i + 1) := by rw [idxS, if_neg hx]
      rw [e1, ih]; simp only [Bool.not_eq_true] at hx; rw [hx]; simp
theorem idxS_in (w : ByteArray) (l : List ByteArray) (i : Nat) : decide (idxS w l i ≥ 0) = inS w l := by
  rw [Bool.eq_iff_iff, decide_eq_true_eq]; exact idxS_iff w l i
theorem index139 (nl fu : Bool) (l : List ByteArray) (w : ByteArray) (hl : l.length ≤ 100000) : APure Tryz.prog 154 [.fslc nl fu 1 (l.map sv), sv w] (iv .i64 (idxS w l 0)) := by
  intro h n
  refine ACalls.pure (ACalls.entry (by kernel_rfl) fun hb _ => calls_of Tryz.func154 rfl (by kernel_rfl) (by simp [Tryz.ntmps154]) ?_)
  obtain ⟨T, hT⟩ : ∃ T, Hide (T = idxS w l 0) := ⟨_, rfl⟩
  rw [← hT.out]
  repeat' (first | (refine ac_seq_h fun K hK => ?_) | (refine ac_region_h fun K hK => ?_; simp (disch := omega) [go_sem, *, Tryz.ntmps154]) | (apply Hide.out hK; clear hK K; try with_reducible dsimp only [thenA]) | (refine ac_block ?_))
  refine ac_loop_wk (fun s' => ∃ (i : Nat) (n' : Nat), n ≤ n' ∧ i ≤ l.length ∧ idxS w (l.drop i) i = T ∧ s' = ⟨19, [(0, .fslc nl fu 1 (l.map sv)), (1, sv w), (7, iv .i64 l.length), (8, iv .i64 i)], h, n'⟩)
      (fun s' => l.length - (intAt s' 8).toNat) ?_ ?_
  · exact loop_start (by simp [go_sem, *]) (Sub.refl _) ⟨0, _, by omega, by omega, by rw [hT.out]; rfl, rfl⟩
  · rintro s' ⟨i, n', hn', hi, hc, rfl⟩
    by_cases hlt : i < l.length
    · obtain ⟨x, hx⟩ : ∃ x, l[i] = x := ⟨_, rfl⟩
      have hdr : l.drop i = x :: l.drop (i + 1) := by rw [List.drop_eq_getElem_cons hlt, hx]
      rw [hdr, idxS] at hc
      clear hdr
      cases he : (w.toList == x.toList) with
      | true =>
        rw [he, if_pos rfl] at hc
        subst hc
        repeat' (first | (refine ac_seq_h fun K hK => ?_) | (refine ac_region_h fun K hK => ?_; simp (disch := omega) [go_sem, *, ilt_true, ile_true]) | (apply Hide.out hK; clear hK K; try with_reducible dsimp only [thenA]) | (apply Hide.out ht; clear ht hf Kt Kf) | (refine ac_block ?_) | (refine ac_skip ?_; simp only [thenA]) | (refine ac_cond_h fun Kt Kf ht hf => ?_; simp (disch := omega) [go_sem, *]; try (refine ⟨fun hc => ?_, fun hc => ?_⟩ <;> try (exfalso; omega))))
        (refine ac_ret ?_; try dsimp only [thenA, blockA]; refine ⟨by simp, _, (by first | rfl | (simp (disch := omega) [go_sem, upd_ne] <;> rfl)), ?_⟩; refine ret_id ⟨fun k hk => (by first | rfl | (repeat rw [upd_ne _ _ _ _ (by omega)])), (by simp [go_sem, below]), (by simp [go_sem] <;> omega), by simp, by simp⟩)
      | false =>
        rw [he, if_neg (by simp)] at hc
        replace hc : Hide _ := hc
        repeat' (first | (refine ac_seq_h fun K hK => ?_) | (refine ac_region_h fun K hK => ?_; simp (disch := omega) [go_sem, *, wrap64_id, ilt_true, ile_true]) | (apply Hide.out hK; clear hK K; try with_reducible dsimp only [thenA]) | (apply Hide.out ht; clear ht hf Kt Kf) | (apply Hide.out hf; clear ht hf Kt Kf) | (refine ac_block ?_) | (refine ac_skip ?_; simp only [thenA, blockA]) | (refine ac_cond_h fun Kt Kf ht hf => ?_; simp (disch := omega) [go_sem, *]; try (refine ⟨fun hc => ?_, fun hc => ?_⟩ <;> try (exfalso; omega))))
        exact round_end (by simp (disch := omega) [go_sem]) (Sub.refl _) ⟨i + 1, _, by omega, by omega, hc.out, rfl⟩ (by simp [intAt, go_sem]; omega)
    · rw [List.drop_eq_nil_of_le (by omega), idxS] at hc
      subst hc
      repeat' (first | (refine ac_seq_h fun K hK => ?_) | (refine ac_region_h fun K hK => ?_; simp (disch := omega) [go_sem, *, ilt_false]) | (apply Hide.out hK; clear hK K; try with_reducible dsimp only [thenA]) | (apply Hide.out hf; clear ht hf Kt Kf) | (clear hK K; apply Hide.out hK; clear hK K; try with_reducible dsimp only [thenA]) | (refine ac_exit ?_; simp only [thenA, blockA, if_true]) | (refine ac_cond_h fun Kt Kf ht hf => ?_; simp (disch := omega) [go_sem, *]; try (refine ⟨fun hc => ?_, fun hc => ?_⟩ <;> try (exfalso; omega))))
      (refine ac_ret ?_; try dsimp only [thenA, blockA]; refine ⟨by simp, _, (by first | rfl | (simp (disch := omega) [go_sem, upd_ne] <;> rfl)), ?_⟩; refine ret_id ⟨fun k hk => (by first | rfl | (repeat rw [upd_ne _ _ _ _ (by omega)])), (by simp [go_sem, below]), (by simp [go_sem] <;> omega), by simp, by simp⟩)
theorem contains84 (nl fu : Bool) (l : List ByteArray) (w : ByteArray) (hl : l.length ≤ 100000) : APure Tryz.prog 82 [.fslc nl fu 1 (l.map sv), sv w] (bv (inS w l)) := by
  intro h n
  have k1 := index139 nl fu l w hl
  have e := idxS_in w l 0
  refine ACalls.pure (ACalls.entry (by kernel_rfl) fun hb _ => calls_of Tryz.func82 rfl (by kernel_rfl) (by simp [Tryz.ntmps82]) ?_)
  rw [← e]
  clear e
  generalize idxS w l 0 = j at *
  repeat' (first | (refine ac_seq_h fun K hK => ?_) | (refine ac_region_h fun K hK => ?_; simp (disch := omega) [go_sem, *, Tryz.ntmps82 ]) | (apply Hide.out hK; clear hK K; try with_reducible dsimp only [thenA]) | (with_reducible refine APure.gcall (k1) ?_; try simp (disch := omega) [go_sem, * ]))
  (refine ac_ret ?_; try dsimp only [thenA, blockA]; refine ⟨by simp, _, (by first | rfl | (simp (disch := omega) [go_sem, upd_ne] <;> rfl)), ?_⟩; refine ret_id ⟨fun k hk => (by first | rfl | (repeat rw [upd_ne _ _ _ _ (by omega)])), (by simp [go_sem, below]), (by simp [go_sem] <;> omega), by simp, by simp⟩)
end Go.AM
