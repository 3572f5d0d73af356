/- Walks: within to asked. Conditions: as each theorem says. -/
import Derived.KernelRfl
import Derived.Test.YtkhdnlojgoonkaaLaw
namespace Go.AM
open Go.Proofs Nets
abbrev encSpan (s : Span) : AV := .agg [iv .i64 s.lo, iv .i64 s.hi]
abbrev encOpen (nl : Bool) (l : List Span) : AV := .fslc nl false 2 (l.map encSpan)
abbrev encLink (l : Link) : AV := .agg [iv .i64 l.fr, iv .i64 l.to, iv .i64 l.delay, encOpen l.nl l.opn]
abbrev encLinks (nl : Bool) (l : List Link) : AV := .fslc nl false 4 (l.map encLink)
abbrev encNet (n : Net) : AV := .agg [iv .i64 n.st, encLinks n.nl n.links]
abbrev encHop (s : Hop) : AV := .agg [iv .i64 s.link, iv .i64 s.tick]
theorem mixed : Try.prog.follows .mixedOrders = true := by kernel_rfl

set_option maxRecDepth 10000
set_option maxHeartbeats 4000000
theorem within_spec (a lo hi : Int) : APure Try.prog 38 [iv .i64 a, iv .i64 lo, iv .i64 hi] (bv (within a lo hi)) := by
  intro h n
  refine ACalls.pure (calls_of Try.func38 rfl (by kernel_rfl) (by simp [Try.ntmps38]) ?_)
  by_cases h1 : lo ≤ a
  · skip
    repeat (first
      | (refine ac_seq_k fun K hK => ?_)
      | (refine ac_region ?_; simp [go_sem, Try.ntmps38, h1])
      | (refine ac_draw' mixed (by kernel_rfl) ?_; simp [go_sem, Try.ntmps38, h1])
      | (apply hK; clear hK K)
      | (clear hK K; apply hK; clear hK K)
      | (clear hK K; clear hK K; apply hK; clear hK K)
      | (refine ac_block ?_)
      | (refine ac_skip ?_; simp only [go_sem])
      | (refine ac_exit ?_; simp only [go_sem, if_true])
      | (refine ac_cond_k fun Kt Kf ht hf => ?_; simp [go_sem, Try.ntmps38, h1]; first | (apply ht; clear ht hf Kt Kf) | (apply hf; clear ht hf Kt Kf)))
    refine ac_ret ?_
    try dsimp only [thenA, blockA]
    refine ⟨by simp, _, rfl, ?_⟩
    refine ret_id ⟨fun k hk => ?_, ?_, ?_, rfl, rfl⟩
    · try dsimp only
      first | rfl | (repeat rw [upd_ne _ _ _ _ (by omega)])
    · simp [go_sem, below]
    · simp [go_sem, within, h1]
  · skip
    repeat (first
      | (refine ac_seq_k fun K hK => ?_)
      | (refine ac_region ?_; simp [go_sem, Try.ntmps38, h1])
      | (refine ac_draw' mixed (by kernel_rfl) ?_; simp [go_sem, Try.ntmps38, h1])
      | (apply hK; clear hK K)
      | (clear hK K; apply hK; clear hK K)
      | (clear hK K; clear hK K; apply hK; clear hK K)
      | (refine ac_block ?_)
      | (refine ac_skip ?_; simp only [go_sem])
      | (refine ac_exit ?_; simp only [go_sem, if_true])
      | (refine ac_cond_k fun Kt Kf ht hf => ?_; simp [go_sem, Try.ntmps38, h1]; first | (apply ht; clear ht hf Kt Kf) | (apply hf; clear ht hf Kt Kf)))
    refine ac_ret ?_
    try dsimp only [thenA, blockA]
    refine ⟨by simp, _, rfl, ?_⟩
    refine ret_id ⟨fun k hk => ?_, ?_, ?_, rfl, rfl⟩
    · try dsimp only
      first | rfl | (repeat rw [upd_ne _ _ _ _ (by omega)])
    · simp [go_sem, below]
    · simp [go_sem, within, h1]
theorem spans_spec (nl : Bool) (l : List Span) : APure Try.prog 40 [encOpen nl l] (iv .i64 (spansE l)) := by
  intro h n
  refine ACalls.pure (ACalls.entry (by kernel_rfl) fun hb _ => calls_of Try.func40 rfl (by kernel_rfl) (by simp [Try.ntmps40]) ?_)
  by_cases h12 : 12 < l.length
  · have hi : 12 < (l.length : Int) := by omega
    repeat (first
      | (refine ac_seq_k fun K hK => ?_)
      | (refine ac_region ?_; simp [go_sem, Try.ntmps40, encOpen, hi])
      | (refine ac_draw' mixed (by kernel_rfl) ?_; simp [go_sem, Try.ntmps40, encOpen, hi])
      | (apply hK; clear hK K)
      | (clear hK K; apply hK; clear hK K)
      | (clear hK K; clear hK K; apply hK; clear hK K)
      | (refine ac_block ?_)
      | (refine ac_skip ?_; simp only [go_sem])
      | (refine ac_exit ?_; simp only [go_sem, if_true])
      | (refine ac_cond_k fun Kt Kf ht hf => ?_; simp [go_sem]; first | (apply ht; clear ht hf Kt Kf) | (apply hf; clear ht hf Kt Kf)))
    refine ac_ret ?_
    try dsimp only [thenA, blockA]
    refine ⟨by simp, _, rfl, ?_⟩
    refine ret_id ⟨fun k hk => ?_, ?_, ?_, rfl, rfl⟩
    · try dsimp only
      first | rfl | (repeat rw [upd_ne _ _ _ _ (by omega)])
    · simp [go_sem, below]
    · simp [go_sem, spansE, h12]
  · have hi : ¬ 12 < (l.length : Int) := by omega
    repeat (first
      | (refine ac_seq_k fun K hK => ?_)
      | (refine ac_region ?_; simp [go_sem, Try.ntmps40, encOpen, hi])
      | (refine ac_draw' mixed (by kernel_rfl) ?_; simp [go_sem, Try.ntmps40, encOpen, hi])
      | (apply hK; clear hK K)
      | (clear hK K; apply hK; clear hK K)
      | (clear hK K; clear hK K; apply hK; clear hK K)
      | (refine ac_block ?_)
      | (refine ac_skip ?_; simp only [go_sem])
      | (refine ac_exit ?_; simp only [go_sem, if_true])
      | (refine ac_cond_k fun Kt Kf ht hf => ?_; simp [go_sem]; first | (apply ht; clear ht hf Kt Kf) | (apply hf; clear ht hf Kt Kf)))
    refine ac_loop_wk (fun s => ∃ k n' : Nat, n ≤ n' ∧ k ≤ l.length ∧ (∀ j, j < k → badAt l j = false) ∧ s = ⟨46, [(0, encOpen nl l), (8, encOpen nl l), (9, iv .i64 l.length), (10, iv .i64 k)], h, n'⟩)
      (fun s => l.length - (intAt s 10).toNat) ?_ ?_
    · exact loop_start (by simp [go_sem, encOpen]) (Sub.refl h) ⟨0, _, by omega, by omega, by simp, rfl⟩
    · rintro s ⟨k, n', hn', hk, hgood, rfl⟩
      by_cases hlt : k < l.length
      · have hltI : (k : Int) < (l.length : Int) := by omega
        obtain ⟨x, hx⟩ : ∃ x, l[k]? = some x := ⟨l[k], List.getElem?_eq_getElem hlt⟩
        have hw : IntKind.i64.wrap ((k : Int) + 1) = ((k + 1 : Nat) : Int) := by rw [wrap64_id] <;> omega
        have hbad : ∀ b, badAt l k = b → (b = true → spansE l = 1) := by
          intro b hb1 hb2
          simp only [spansE, if_neg h12]
          rw [if_pos]
          exact List.any_eq_true.2 ⟨k, by simpa using hlt, by rw [hb1, hb2]⟩
        have next : badAt l k = false → ∀ j, j < k + 1 → badAt l j = false := fun hb1 j hj => by
          rcases Nat.lt_or_ge j k with h1 | h1
          · exact hgood j h1
          · have : j = k := by omega
            rw [this]; exact hb1
        by_cases c1 : x.lo < 0
        · have e := hbad true (by simp [badAt, hx, c1]) rfl
          clear hbad next
          repeat (first
            | (refine ac_seq_k fun K hK => ?_)
            | (refine ac_region ?_; simp [go_sem, encOpen, hltI, hx, encSpan])
            | (refine ac_draw' mixed (by kernel_rfl) ?_; simp [go_sem, encOpen, c1])
            | (apply hK; clear hK K)
            | (clear hK K; apply hK; clear hK K)
            | (clear hK K; clear hK K; apply hK; clear hK K)
            | (refine ac_block ?_)
            | (refine ac_skip ?_; simp only [go_sem])
            | (refine ac_exit ?_; simp only [go_sem, if_true])
            | (refine ac_cond_k fun Kt Kf ht hf => ?_; simp [go_sem]; first | (apply ht; clear ht hf Kt Kf) | (apply hf; clear ht hf Kt Kf)))
          refine ac_ret ?_
          try dsimp only [thenA, blockA]
          refine ⟨by simp, _, rfl, ?_⟩
          refine ret_id ⟨fun k hk => ?_, ?_, ?_, rfl, rfl⟩
          · try dsimp only
            first | rfl | (repeat rw [upd_ne _ _ _ _ (by omega)])
          · simp [go_sem, below]
          · simp [go_sem, e]
        by_cases c2 : x.hi < x.lo
        · have e := hbad true (by simp [badAt, hx, c2]) rfl
          clear hbad next
          repeat (first
            | (refine ac_seq_k fun K hK => ?_)
            | (refine ac_region ?_; simp [go_sem, encOpen, hltI, hx, encSpan])
            | (refine ac_draw' mixed (by kernel_rfl) ?_; simp [go_sem, encOpen, c1, c2])
            | (apply hK; clear hK K)
            | (clear hK K; apply hK; clear hK K)
            | (clear hK K; clear hK K; apply hK; clear hK K)
            | (refine ac_block ?_)
            | (refine ac_skip ?_; simp only [go_sem])
            | (refine ac_exit ?_; simp only [go_sem, if_true])
            | (refine ac_cond_k fun Kt Kf ht hf => ?_; simp [go_sem]; first | (apply ht; clear ht hf Kt Kf) | (apply hf; clear ht hf Kt Kf)))
          refine ac_ret ?_
          try dsimp only [thenA, blockA]
          refine ⟨by simp, _, rfl, ?_⟩
          refine ret_id ⟨fun k hk => ?_, ?_, ?_, rfl, rfl⟩
          · try dsimp only
            first | rfl | (repeat rw [upd_ne _ _ _ _ (by omega)])
          · simp [go_sem, below]
          · simp [go_sem, e]
        by_cases c3 : 1048576 < x.hi
        · have e := hbad true (by simp [badAt, hx, c3]) rfl
          clear hbad next
          repeat (first
            | (refine ac_seq_k fun K hK => ?_)
            | (refine ac_region ?_; simp [go_sem, encOpen, hltI, hx, encSpan])
            | (refine ac_draw' mixed (by kernel_rfl) ?_; simp [go_sem, encOpen, c1, c2, c3])
            | (apply hK; clear hK K)
            | (clear hK K; apply hK; clear hK K)
            | (clear hK K; clear hK K; apply hK; clear hK K)
            | (refine ac_block ?_)
            | (refine ac_skip ?_; simp only [go_sem])
            | (refine ac_exit ?_; simp only [go_sem, if_true])
            | (refine ac_cond_k fun Kt Kf ht hf => ?_; simp [go_sem]; first | (apply ht; clear ht hf Kt Kf) | (apply hf; clear ht hf Kt Kf)))
          refine ac_ret ?_
          try dsimp only [thenA, blockA]
          refine ⟨by simp, _, rfl, ?_⟩
          refine ret_id ⟨fun k hk => ?_, ?_, ?_, rfl, rfl⟩
          · try dsimp only
            first | rfl | (repeat rw [upd_ne _ _ _ _ (by omega)])
          · simp [go_sem, below]
          · simp [go_sem, e]
        by_cases c4 : 0 < k
        · have hw4 : IntKind.i64.wrap ((k : Int) - 1) = ((k - 1 : Nat) : Int) := by rw [wrap64_id] <;> omega
          obtain ⟨p, hp⟩ : ∃ p, l[k - 1]? = some p := ⟨l[k - 1], List.getElem?_eq_getElem (by omega)⟩
          by_cases c5 : x.lo ≤ p.hi
          · have e := hbad true (by simp [badAt, hx, hp, c4, c5]) rfl
            clear hbad next
            repeat (first
              | (refine ac_seq_k fun K hK => ?_)
              | (refine ac_region ?_; simp [go_sem, encOpen, hltI, hx, encSpan])
              | (refine ac_draw' mixed (by kernel_rfl) ?_; simp [go_sem, encOpen, encSpan, c1, c2, c3, c4, hw4, hp, c5])
              | (apply hK; clear hK K)
              | (clear hK K; apply hK; clear hK K)
              | (clear hK K; clear hK K; apply hK; clear hK K)
              | (refine ac_block ?_)
              | (refine ac_skip ?_; simp only [go_sem])
              | (refine ac_exit ?_; simp only [go_sem, if_true])
              | (refine ac_cond_k fun Kt Kf ht hf => ?_; simp [go_sem]; first | (apply ht; clear ht hf Kt Kf) | (apply hf; clear ht hf Kt Kf)))
            refine ac_ret ?_
            try dsimp only [thenA, blockA]
            refine ⟨by simp, _, rfl, ?_⟩
            refine ret_id ⟨fun k hk => ?_, ?_, ?_, rfl, rfl⟩
            · try dsimp only
              first | rfl | (repeat rw [upd_ne _ _ _ _ (by omega)])
            · simp [go_sem, below]
            · simp [go_sem, e]
          · have e := next (by simp [badAt, hx, hp, c1, c2, c3, c5])
            clear hbad next
            repeat (first
              | (refine ac_seq_k fun K hK => ?_)
              | (refine ac_region ?_; simp [go_sem, encOpen, hltI, hx, encSpan, hw])
              | (refine ac_draw' mixed (by kernel_rfl) ?_; simp [go_sem, encOpen, encSpan, c1, c2, c3, c4, hw4, hp, c5])
              | (apply hK; clear hK K)
              | (clear hK K; apply hK; clear hK K)
              | (clear hK K; clear hK K; apply hK; clear hK K)
              | (refine ac_block ?_)
              | (refine ac_skip ?_; simp only [go_sem])
              | (refine ac_exit ?_; simp only [go_sem, if_true])
              | (refine ac_cond_k fun Kt Kf ht hf => ?_; simp [go_sem]; first | (apply ht; clear ht hf Kt Kf) | (apply hf; clear ht hf Kt Kf)))
            refine round_end (by simp [go_sem]) (((Sub.refl h).upd (hb.none (by omega)) _).upd (hb.none (by omega)) _) ⟨k + 1, _, by omega, by omega, e, rfl⟩ (by simp [intAt, go_sem]; omega)
        · have e := next (by simp [badAt, hx, c1, c2, c3, c4])
          clear hbad next
          repeat (first
            | (refine ac_seq_k fun K hK => ?_)
            | (refine ac_region ?_; simp [go_sem, encOpen, hltI, hx, encSpan, hw])
            | (refine ac_draw' mixed (by kernel_rfl) ?_; simp [go_sem, encOpen, c1, c2, c3, c4])
            | (apply hK; clear hK K)
            | (clear hK K; apply hK; clear hK K)
            | (clear hK K; clear hK K; apply hK; clear hK K)
            | (refine ac_block ?_)
            | (refine ac_skip ?_; simp only [go_sem])
            | (refine ac_exit ?_; simp only [go_sem, if_true])
            | (refine ac_cond_k fun Kt Kf ht hf => ?_; simp [go_sem]; first | (apply ht; clear ht hf Kt Kf) | (apply hf; clear ht hf Kt Kf)))
          refine round_end (by simp [go_sem]) (((Sub.refl h).upd (hb.none (by omega)) _).upd (hb.none (by omega)) _) ⟨k + 1, _, by omega, by omega, e, rfl⟩ (by simp [intAt, go_sem]; omega)
      · have hltI : ¬ (k : Int) < (l.length : Int) := by omega
        have hkl : k = l.length := by omega
        have e : spansE l = 0 := by
          simp only [spansE, if_neg h12]
          rw [if_neg]
          intro hany
          obtain ⟨j, h1, h2⟩ := List.any_eq_true.1 hany
          rw [hgood j (by simp at h1; omega)] at h2
          cases h2
        repeat (first
          | (refine ac_seq_k fun K hK => ?_)
          | (refine ac_region ?_; simp [go_sem, encOpen, hltI])
          | (refine ac_draw' mixed (by kernel_rfl) ?_; simp [go_sem, encOpen, hltI])
          | (apply hK; clear hK K)
          | (clear hK K; apply hK; clear hK K)
          | (clear hK K; clear hK K; apply hK; clear hK K)
          | (refine ac_block ?_)
          | (refine ac_skip ?_; simp only [go_sem])
          | (refine ac_exit ?_; simp only [go_sem, if_true])
          | (refine ac_cond_k fun Kt Kf ht hf => ?_; simp [go_sem]; first | (apply ht; clear ht hf Kt Kf) | (apply hf; clear ht hf Kt Kf)))
        refine ac_ret ?_
        try dsimp only [thenA, blockA]
        refine ⟨by simp, _, rfl, ?_⟩
        refine ret_id ⟨fun k hk => ?_, ?_, ?_, rfl, rfl⟩
        · try dsimp only
          first | rfl | (repeat rw [upd_ne _ _ _ _ (by omega)])
        · simp [go_sem, below]
        · simp [go_sem, e]
theorem right_spec (l : Link) : APure Try.prog 35 [encLink l] (bv (right l)) := by
  intro h n
  refine ACalls.pure (ACalls.entry (by kernel_rfl) fun hb _ => calls_of Try.func35 rfl (by kernel_rfl) (by simp [Try.ntmps35]) ?_)
  cases hw : within l.delay 1 1440
  · skip
    repeat (first
      | (refine ac_seq_k fun K hK => ?_)
      | (refine ac_region ?_; simp [go_sem, Try.ntmps35 ])
      | (refine ac_draw' mixed (by kernel_rfl) ?_; simp [go_sem, Try.ntmps35, hw ])
      | (apply hK; clear hK K)
      | (clear hK K; apply hK; clear hK K)
      | (clear hK K; clear hK K; apply hK; clear hK K)
      | (with_reducible refine APure.call (within_spec _ _ _) ?_; try simp [go_sem, hw ])
      | (with_reducible refine APure.call (spans_spec _ _) ?_; try simp [go_sem, Try.ntmps35, hw ])
      | (refine ac_block ?_)
      | (refine ac_skip ?_; simp only [go_sem])
      | (refine ac_exit ?_; simp only [go_sem, if_true])
      | (refine ac_cond_k fun Kt Kf ht hf => ?_; simp [go_sem, Try.ntmps35, hw ]; first | (apply ht; clear ht hf Kt Kf) | (apply hf; clear ht hf Kt Kf)))
    refine ac_ret ?_
    try dsimp only [thenA, blockA]
    refine ⟨by simp, _, rfl, ?_⟩
    refine ret_id ⟨fun k hk => ?_, ?_, ?_, rfl, rfl⟩
    · try dsimp only
      first | rfl | (repeat rw [upd_ne _ _ _ _ (by omega)])
    · simp [go_sem, below]
    · simp [go_sem, right, hw]
  · skip
    repeat (first
      | (refine ac_seq_k fun K hK => ?_)
      | (refine ac_region ?_; simp [go_sem, Try.ntmps35 ])
      | (refine ac_draw' mixed (by kernel_rfl) ?_; simp [go_sem, Try.ntmps35, hw ])
      | (apply hK; clear hK K)
      | (clear hK K; apply hK; clear hK K)
      | (clear hK K; clear hK K; apply hK; clear hK K)
      | (with_reducible refine APure.call (within_spec _ _ _) ?_; try simp [go_sem, hw ])
      | (with_reducible refine APure.call (spans_spec _ _) ?_; try simp [go_sem ])
      | (refine ac_block ?_)
      | (refine ac_skip ?_; simp only [go_sem])
      | (refine ac_exit ?_; simp only [go_sem, if_true])
      | (refine ac_cond_k fun Kt Kf ht hf => ?_; simp [go_sem, Try.ntmps35, hw ]; first | (apply ht; clear ht hf Kt Kf) | (apply hf; clear ht hf Kt Kf)))
    refine ac_ret ?_
    try dsimp only [thenA, blockA]
    refine ⟨by simp, _, rfl, ?_⟩
    refine ret_id ⟨fun k hk => ?_, ?_, ?_, rfl, rfl⟩
    · try dsimp only
      first | rfl | (repeat rw [upd_ne _ _ _ _ (by omega)])
    · simp [go_sem, below]
    · simp [go_sem, right, hw]
end Go.AM

namespace Go.AM
open Go.Proofs Nets
set_option maxRecDepth 10000
set_option maxHeartbeats 4000000
theorem station_spec (n : Net) (s : Int) (h1 : 1 ≤ n.st) (h2 : n.st ≤ 10) : APure Try.prog 39 [encNet n, iv .i64 s] (bv (within s 0 (n.st - 1))) := by
  intro h m
  refine ACalls.pure (ACalls.entry (by kernel_rfl) fun hb _ => calls_of Try.func39 rfl (by kernel_rfl) (by simp [Try.ntmps39]) ?_)
  have hw : IntKind.i64.wrap (n.st - 1) = n.st - 1 := by rw [wrap64_id] <;> omega
  repeat (first
    | (refine ac_seq_k fun K hK => ?_)
    | (refine ac_region ?_; simp [go_sem, Try.ntmps39, hw ])
    | (refine ac_draw' mixed (by kernel_rfl) ?_; simp [go_sem, Try.ntmps39, hw ])
    | (apply hK; clear hK K)
    | (clear hK K; apply hK; clear hK K)
    | (clear hK K; clear hK K; apply hK; clear hK K)
    | (with_reducible refine APure.call (within_spec _ _ _) ?_; try simp [go_sem ])
    | (refine ac_block ?_)
    | (refine ac_skip ?_; simp only [go_sem])
    | (refine ac_exit ?_; simp only [go_sem, if_true])
    | (refine ac_cond_k fun Kt Kf ht hf => ?_; simp [go_sem, Try.ntmps39, hw ]; first | (apply ht; clear ht hf Kt Kf) | (apply hf; clear ht hf Kt Kf)))
  refine ac_ret ?_
  try dsimp only [thenA, blockA]
  refine ⟨by simp, _, rfl, ?_⟩
  refine ret_id ⟨fun k hk => ?_, ?_, ?_, rfl, rfl⟩
  · try dsimp only
    first | rfl | (repeat rw [upd_ne _ _ _ _ (by omega)])
  · simp [go_sem, below]
  · simp [go_sem]
theorem check_spec (N : Net) : APure Try.prog 16 [encNet N] (iv .i64 (checkE N)) := by
  intro h n
  refine ACalls.pure (ACalls.entry (by kernel_rfl) fun hb _ => calls_of Try.func16 rfl (by kernel_rfl) (by simp [Try.ntmps16]) ?_)
  cases hst : within N.st 1 10
  · skip
    repeat (first
      | (refine ac_seq_k fun K hK => ?_)
      | (refine ac_region ?_; simp [go_sem, Try.ntmps16 ])
      | (refine ac_draw' mixed (by kernel_rfl) ?_; simp [go_sem, Try.ntmps16, hst ])
      | (apply hK; clear hK K)
      | (clear hK K; apply hK; clear hK K)
      | (clear hK K; clear hK K; apply hK; clear hK K)
      | (with_reducible refine APure.call (within_spec _ _ _) ?_; try simp [go_sem, hst ])
      | (refine ac_block ?_)
      | (refine ac_skip ?_; simp only [go_sem])
      | (refine ac_exit ?_; simp only [go_sem, if_true])
      | (refine ac_cond_k fun Kt Kf ht hf => ?_; simp [go_sem ]; first | (apply ht; clear ht hf Kt Kf) | (apply hf; clear ht hf Kt Kf)))
    refine ac_ret ?_
    try dsimp only [thenA, blockA]
    refine ⟨by simp, _, rfl, ?_⟩
    refine ret_id ⟨fun k hk => ?_, ?_, ?_, rfl, rfl⟩
    · try dsimp only
      first | rfl | (repeat rw [upd_ne _ _ _ _ (by omega)])
    · simp [go_sem, below]
    · simp [go_sem, checkE, hst]
  have hst' : 1 ≤ N.st ∧ N.st ≤ 10 := by simpa [within] using hst
  by_cases h40 : 40 < N.links.length
  · have hi : 40 < (N.links.length : Int) := by omega
    repeat (first
      | (refine ac_seq_k fun K hK => ?_)
      | (refine ac_region ?_; simp [go_sem, Try.ntmps16, hi ])
      | (refine ac_draw' mixed (by kernel_rfl) ?_; simp [go_sem, Try.ntmps16, hst, hi ])
      | (apply hK; clear hK K)
      | (clear hK K; apply hK; clear hK K)
      | (clear hK K; clear hK K; apply hK; clear hK K)
      | (with_reducible refine APure.call (within_spec _ _ _) ?_; try simp [go_sem, hst ])
      | (refine ac_block ?_)
      | (refine ac_skip ?_; simp only [go_sem])
      | (refine ac_exit ?_; simp only [go_sem, if_true])
      | (refine ac_cond_k fun Kt Kf ht hf => ?_; simp [go_sem ]; first | (apply ht; clear ht hf Kt Kf) | (apply hf; clear ht hf Kt Kf)))
    refine ac_ret ?_
    try dsimp only [thenA, blockA]
    refine ⟨by simp, _, rfl, ?_⟩
    refine ret_id ⟨fun k hk => ?_, ?_, ?_, rfl, rfl⟩
    · try dsimp only
      first | rfl | (repeat rw [upd_ne _ _ _ _ (by omega)])
    · simp [go_sem, below]
    · simp [go_sem, checkE, hst, h40]
  have hi : ¬ 40 < (N.links.length : Int) := by omega
  have hE : checkE N = linksE N.st N.links := by simp [checkE, hst, h40]
  repeat (first
    | (refine ac_seq_k fun K hK => ?_)
    | (refine ac_region ?_; simp [go_sem, Try.ntmps16, hi ])
    | (refine ac_draw' mixed (by kernel_rfl) ?_; simp [go_sem, Try.ntmps16, hst, hi ])
    | (apply hK; clear hK K)
    | (clear hK K; apply hK; clear hK K)
    | (clear hK K; clear hK K; apply hK; clear hK K)
    | (with_reducible refine APure.call (within_spec _ _ _) ?_; try simp [go_sem, hst ])
    | (refine ac_block ?_)
    | (refine ac_skip ?_; simp only [go_sem])
    | (refine ac_exit ?_; simp only [go_sem, if_true])
    | (refine ac_cond_k fun Kt Kf ht hf => ?_; simp [go_sem ]; first | (apply ht; clear ht hf Kt Kf) | (apply hf; clear ht hf Kt Kf)))
  refine ac_loop_wk (fun s => ∃ k n' : Nat, n < n' ∧ k ≤ N.links.length ∧ linksE N.st (N.links.drop k) = linksE N.st N.links ∧ s = ⟨55, [(1, .ptr n 0), (17, encLinks N.nl N.links), (18, iv .i64 N.links.length), (19, iv .i64 k)], h.upd n (some (.cells [iv .i64 N.st, encLinks N.nl N.links])), n'⟩)
      (fun s => N.links.length - (intAt s 19).toNat) ?_ ?_
  · skip
    exact loop_start (by simp [go_sem]) (Sub.refl _) ⟨0, _, by omega, by omega, by simp, rfl⟩
  · rintro s ⟨k, n', hn', hk, hgo, rfl⟩
    have fr := far hn'
    have hb' : NB (h.upd n (some (.cells [iv .i64 N.st, encLinks N.nl N.links]))) n' := hb.nb.upd hn' (by omega)
    by_cases hlt : k < N.links.length
    · have hltI : (k : Int) < (N.links.length : Int) := by omega
      obtain ⟨x, hx⟩ : ∃ x, N.links[k]? = some x := ⟨N.links[k], List.getElem?_eq_getElem hlt⟩
      have hw : IntKind.i64.wrap ((k : Int) + 1) = ((k + 1 : Nat) : Int) := by rw [wrap64_id] <;> omega
      rw [drop_at hx, linksE, linkIn, linkE] at hgo
      cases w1 : within x.fr 0 (N.st - 1)
      · simp [w1] at hgo
        repeat (first
          | (refine ac_seq_k fun K hK => ?_)
          | (refine ac_region ?_; simp [go_sem, hltI, fr, hx, encLink ])
          | (refine ac_draw' mixed (by kernel_rfl) ?_; simp [go_sem, hltI, fr, hx, encLink, w1 ])
          | (apply hK; clear hK K)
          | (clear hK K; apply hK; clear hK K)
          | (clear hK K; clear hK K; apply hK; clear hK K)
          | (with_reducible refine APure.call (station_spec _ _ hst'.1 hst'.2) ?_; try simp [go_sem, w1 ])
          | (with_reducible refine APure.call (within_spec _ _ _) ?_; try simp [go_sem, hltI, fr, hx, encLink, w1 ])
          | (with_reducible refine APure.call (spans_spec _ _) ?_; try simp [go_sem, hltI, fr, hx, encLink, w1 ])
          | (refine ac_block ?_)
          | (refine ac_skip ?_; simp only [go_sem])
          | (refine ac_exit ?_; simp only [go_sem, if_true])
          | (refine ac_cond_k fun Kt Kf ht hf => ?_; simp [go_sem ]; first | (apply ht; clear ht hf Kt Kf) | (apply hf; clear ht hf Kt Kf)))
        refine ac_ret ?_
        try dsimp only [thenA, blockA]
        refine ⟨by simp, _, rfl, ?_⟩
        refine ret_id ⟨fun k hk => ?_, ?_, ?_, rfl, rfl⟩
        · try dsimp only
          first | rfl | (repeat rw [upd_ne _ _ _ _ (by omega)])
        · simp [go_sem, below]
        · simp [go_sem, hE, ← hgo]
      cases w2 : within x.to 0 (N.st - 1)
      · simp [w1, w2] at hgo
        repeat (first
          | (refine ac_seq_k fun K hK => ?_)
          | (refine ac_region ?_; simp [go_sem, hltI, fr, hx, encLink ])
          | (refine ac_draw' mixed (by kernel_rfl) ?_; simp [go_sem, hltI, fr, hx, encLink, w1, w2 ])
          | (apply hK; clear hK K)
          | (clear hK K; apply hK; clear hK K)
          | (clear hK K; clear hK K; apply hK; clear hK K)
          | (with_reducible refine APure.call (station_spec _ _ hst'.1 hst'.2) ?_; try simp [go_sem, fr, w1, w2 ])
          | (with_reducible refine APure.call (within_spec _ _ _) ?_; try simp [go_sem, hltI, fr, hx, encLink, w1, w2 ])
          | (with_reducible refine APure.call (spans_spec _ _) ?_; try simp [go_sem, hltI, fr, hx, encLink, w1, w2 ])
          | (refine ac_block ?_)
          | (refine ac_skip ?_; simp only [go_sem])
          | (refine ac_exit ?_; simp only [go_sem, if_true])
          | (refine ac_cond_k fun Kt Kf ht hf => ?_; simp [go_sem ]; first | (apply ht; clear ht hf Kt Kf) | (apply hf; clear ht hf Kt Kf)))
        refine ac_ret ?_
        try dsimp only [thenA, blockA]
        refine ⟨by simp, _, rfl, ?_⟩
        refine ret_id ⟨fun k hk => ?_, ?_, ?_, rfl, rfl⟩
        · try dsimp only
          first | rfl | (repeat rw [upd_ne _ _ _ _ (by omega)])
        · simp [go_sem, below]
        · simp [go_sem, hE, ← hgo]
      by_cases w3 : x.fr = x.to
      · simp [w2, w3] at hgo
        rw [w3] at w1
        repeat (first
          | (refine ac_seq_k fun K hK => ?_)
          | (refine ac_region ?_; simp [go_sem, hltI, fr, hx, encLink, w3 ])
          | (refine ac_draw' mixed (by kernel_rfl) ?_; simp [go_sem, hltI, fr, hx, encLink, w1, w2, w3 ])
          | (apply hK; clear hK K)
          | (clear hK K; apply hK; clear hK K)
          | (clear hK K; clear hK K; apply hK; clear hK K)
          | (with_reducible refine APure.call (station_spec _ _ hst'.1 hst'.2) ?_; try simp [go_sem, fr, w1 ])
          | (with_reducible refine APure.call (within_spec _ _ _) ?_; try simp [go_sem, hltI, fr, hx, encLink, w1, w2, w3 ])
          | (with_reducible refine APure.call (spans_spec _ _) ?_; try simp [go_sem, hltI, fr, hx, encLink, w1, w2, w3 ])
          | (refine ac_block ?_)
          | (refine ac_skip ?_; simp only [go_sem])
          | (refine ac_exit ?_; simp only [go_sem, if_true])
          | (refine ac_cond_k fun Kt Kf ht hf => ?_; simp [go_sem ]; first | (apply ht; clear ht hf Kt Kf) | (apply hf; clear ht hf Kt Kf)))
        refine ac_ret ?_
        try dsimp only [thenA, blockA]
        refine ⟨by simp, _, rfl, ?_⟩
        refine ret_id ⟨fun k hk => ?_, ?_, ?_, rfl, rfl⟩
        · try dsimp only
          first | rfl | (repeat rw [upd_ne _ _ _ _ (by omega)])
        · simp [go_sem, below]
        · simp [go_sem, hE, ← hgo]
      have w3' : (x.fr == x.to) = false := by simpa using w3
      cases w4 : within x.delay 1 1440
      · simp [w1, w2, w3, w4] at hgo
        repeat (first
          | (refine ac_seq_k fun K hK => ?_)
          | (refine ac_region ?_; simp [go_sem, hltI, fr, hx, encLink ])
          | (refine ac_draw' mixed (by kernel_rfl) ?_; simp [go_sem, hltI, fr, hx, encLink, w1, w2, w3', w4 ])
          | (apply hK; clear hK K)
          | (clear hK K; apply hK; clear hK K)
          | (clear hK K; clear hK K; apply hK; clear hK K)
          | (with_reducible refine APure.call (station_spec _ _ hst'.1 hst'.2) ?_; try simp [go_sem, fr, w1, w2, w3' ])
          | (with_reducible refine APure.call (within_spec _ _ _) ?_; try simp [go_sem, w4 ])
          | (with_reducible refine APure.call (spans_spec _ _) ?_; try simp [go_sem, hltI, fr, hx, encLink, w1, w2, w3', w4 ])
          | (refine ac_block ?_)
          | (refine ac_skip ?_; simp only [go_sem])
          | (refine ac_exit ?_; simp only [go_sem, if_true])
          | (refine ac_cond_k fun Kt Kf ht hf => ?_; simp [go_sem ]; first | (apply ht; clear ht hf Kt Kf) | (apply hf; clear ht hf Kt Kf)))
        refine ac_ret ?_
        try dsimp only [thenA, blockA]
        refine ⟨by simp, _, rfl, ?_⟩
        refine ret_id ⟨fun k hk => ?_, ?_, ?_, rfl, rfl⟩
        · try dsimp only
          first | rfl | (repeat rw [upd_ne _ _ _ _ (by omega)])
        · simp [go_sem, below]
        · simp [go_sem, hE, ← hgo]
      by_cases w5 : spansE x.opn = 0
      · simp [w1, w2, w3, w4, w5] at hgo
        repeat (first
          | (refine ac_seq_k fun K hK => ?_)
          | (refine ac_region ?_; simp [go_sem, hltI, fr, hx, encLink, hw ])
          | (refine ac_draw' mixed (by kernel_rfl) ?_; simp [go_sem, hltI, fr, hx, encLink, w1, w2, w3', w4, w5, hw ])
          | (apply hK; clear hK K)
          | (clear hK K; apply hK; clear hK K)
          | (clear hK K; clear hK K; apply hK; clear hK K)
          | (with_reducible refine APure.call (station_spec _ _ hst'.1 hst'.2) ?_; try simp [go_sem, fr, w1, w2, w3' ])
          | (with_reducible refine APure.call (within_spec _ _ _) ?_; try simp [go_sem, w4 ])
          | (with_reducible refine APure.call (spans_spec _ _) ?_; try simp [go_sem, w5 ])
          | (refine ac_block ?_)
          | (refine ac_skip ?_; simp only [go_sem])
          | (refine ac_exit ?_; simp only [go_sem, if_true])
          | (refine ac_cond_k fun Kt Kf ht hf => ?_; simp [go_sem ]; first | (apply ht; clear ht hf Kt Kf) | (apply hf; clear ht hf Kt Kf)))
        refine round_end (by simp [go_sem]) (((Sub.refl _).upd (hb' _ (by omega)) _).upd (hb' _ (by omega)) _) ⟨k + 1, _, by omega, by omega, hgo, rfl⟩ (by simp [intAt, go_sem]; omega)
      · simp [w1, w2, w3, w4, w5] at hgo
        repeat (first
          | (refine ac_seq_k fun K hK => ?_)
          | (refine ac_region ?_; simp [go_sem, hltI, fr, hx, encLink ])
          | (refine ac_draw' mixed (by kernel_rfl) ?_; simp [go_sem, hltI, fr, hx, encLink, w1, w2, w3', w4, w5 ])
          | (apply hK; clear hK K)
          | (clear hK K; apply hK; clear hK K)
          | (clear hK K; clear hK K; apply hK; clear hK K)
          | (with_reducible refine APure.call (station_spec _ _ hst'.1 hst'.2) ?_; try simp [go_sem, fr, w1, w2, w3' ])
          | (with_reducible refine APure.call (within_spec _ _ _) ?_; try simp [go_sem, w4 ])
          | (with_reducible refine APure.call (spans_spec _ _) ?_; try simp [go_sem ])
          | (refine ac_block ?_)
          | (refine ac_skip ?_; simp only [go_sem])
          | (refine ac_exit ?_; simp only [go_sem, if_true])
          | (refine ac_cond_k fun Kt Kf ht hf => ?_; simp [go_sem, w5 ]; first | (apply ht; clear ht hf Kt Kf) | (apply hf; clear ht hf Kt Kf)))
        refine ac_ret ?_
        try dsimp only [thenA, blockA]
        refine ⟨by simp, _, rfl, ?_⟩
        refine ret_id ⟨fun k hk => ?_, ?_, ?_, rfl, rfl⟩
        · try dsimp only
          first | rfl | (repeat rw [upd_ne _ _ _ _ (by omega)])
        · simp [go_sem, below]
        · simp [go_sem, hE, ← hgo]
    · have hltI : ¬ (k : Int) < (N.links.length : Int) := by omega
      have hkl : k = N.links.length := by omega
      rw [hkl] at hgo
      simp [linksE] at hgo
      repeat (first
        | (refine ac_seq_k fun K hK => ?_)
        | (refine ac_region ?_; simp [go_sem, hltI])
        | (refine ac_draw' mixed (by kernel_rfl) ?_; simp [go_sem, hltI])
        | (apply hK; clear hK K)
        | (clear hK K; apply hK; clear hK K)
        | (clear hK K; clear hK K; apply hK; clear hK K)
        | (refine ac_block ?_)
        | (refine ac_skip ?_; simp only [go_sem])
        | (refine ac_exit ?_; simp only [go_sem, if_true])
        | (refine ac_cond_k fun Kt Kf ht hf => ?_; simp [go_sem]; first | (apply ht; clear ht hf Kt Kf) | (apply hf; clear ht hf Kt Kf)))
      refine ac_ret ?_
      try dsimp only [thenA, blockA]
      refine ⟨by simp, _, rfl, ?_⟩
      refine ret_id ⟨fun k hk => ?_, ?_, ?_, rfl, rfl⟩
      · try dsimp only
        first | rfl | (repeat rw [upd_ne _ _ _ _ (by omega)])
      · simp [go_sem, below]
      · simp [go_sem, hE, ← hgo]
end Go.AM

namespace Go.AM
open Go.Proofs Nets
set_option maxRecDepth 10000
set_option maxHeartbeats 4000000
abbrev cellsLink (l : Link) : AObj := .cells [iv .i64 l.fr, iv .i64 l.to, iv .i64 l.delay, encOpen l.nl l.opn]
abbrev cellsNet (n : Net) : AObj := .cells [iv .i64 n.st, encLinks n.nl n.links]
theorem leave_spec (l : Link) (tick : Int) : APure Try.prog 12 [encLink l, iv .i64 tick] (.tup [iv .i64 (leave l tick).1, bv (leave l tick).2]) := by
  intro h n
  refine ACalls.pure (ACalls.entry (by kernel_rfl) fun hb _ => calls_of Try.func12 rfl (by kernel_rfl) (by simp [Try.ntmps12]) ?_)
  cases hr : right l
  · skip
    repeat (first
      | (refine ac_seq_k fun K hK => ?_)
      | (refine ac_region ?_; simp [go_sem, Try.ntmps12 ])
      | (refine ac_draw' mixed (by kernel_rfl) ?_; simp [go_sem, Try.ntmps12, hr ])
      | (apply hK; clear hK K)
      | (clear hK K; apply hK; clear hK K)
      | (clear hK K; clear hK K; apply hK; clear hK K)
      | (with_reducible refine APure.call (right_spec _) ?_; try simp [go_sem, hr ])
      | (refine ac_block ?_)
      | (refine ac_skip ?_; simp only [go_sem])
      | (refine ac_exit ?_; simp only [go_sem, if_true])
      | (refine ac_cond_k fun Kt Kf ht hf => ?_; simp [go_sem ]; first | (apply ht; clear ht hf Kt Kf) | (apply hf; clear ht hf Kt Kf)))
    refine ac_ret ?_
    try dsimp only [thenA, blockA]
    refine ⟨by simp, _, rfl, ?_⟩
    refine ret_id ⟨fun k hk => ?_, ?_, ?_, rfl, rfl⟩
    · try dsimp only
      first | rfl | (repeat rw [upd_ne _ _ _ _ (by omega)])
    · simp [go_sem, below, belowL]
    · simp [go_sem, leave, hr]
  have hL : leave l tick = leaveGo l.delay tick l.opn := by simp [leave, hr]
  obtain ⟨d1, d2, o1, o2⟩ := right_spans hr
  repeat (first
    | (refine ac_seq_k fun K hK => ?_)
    | (refine ac_region ?_; simp [go_sem, Try.ntmps12 ])
    | (refine ac_draw' mixed (by kernel_rfl) ?_; simp [go_sem, Try.ntmps12, hr ])
    | (apply hK; clear hK K)
    | (clear hK K; apply hK; clear hK K)
    | (clear hK K; clear hK K; apply hK; clear hK K)
    | (with_reducible refine APure.call (right_spec _) ?_; try simp [go_sem, hr ])
    | (refine ac_block ?_)
    | (refine ac_skip ?_; simp only [go_sem])
    | (refine ac_exit ?_; simp only [go_sem, if_true])
    | (refine ac_cond_k fun Kt Kf ht hf => ?_; simp [go_sem ]; first | (apply ht; clear ht hf Kt Kf) | (apply hf; clear ht hf Kt Kf)))
  refine ac_loop_wk (fun s => ∃ k n' : Nat, n < n' ∧ k ≤ l.opn.length ∧ leaveGo l.delay tick (l.opn.drop k) = leaveGo l.delay tick l.opn ∧ s = ⟨32, [(1, iv .i64 tick), (2, .ptr n 0), (13, encOpen l.nl l.opn), (14, iv .i64 l.opn.length), (15, iv .i64 k)], h.upd n (some (cellsLink l)), n'⟩)
      (fun s => l.opn.length - (intAt s 15).toNat) ?_ ?_
  · skip
    exact loop_start (by simp [go_sem]) (Sub.refl _) ⟨0, _, by omega, by omega, by simp, rfl⟩
  · rintro s ⟨k, n', hn', hk, hgo, rfl⟩
    have fr := far hn'
    have hb' : NB (h.upd n (some (cellsLink l))) n' := hb.nb.upd hn' (by omega)
    by_cases hlt : k < l.opn.length
    · have hltI : (k : Int) < (l.opn.length : Int) := by omega
      obtain ⟨x, hx⟩ : ∃ x, l.opn[k]? = some x := ⟨l.opn[k], List.getElem?_eq_getElem hlt⟩
      have hw : IntKind.i64.wrap ((k : Int) + 1) = ((k + 1 : Nat) : Int) := by rw [wrap64_id] <;> omega
      have hx2 := o2 k x hx
      have hw2 : IntKind.i64.wrap (x.hi - l.delay) = x.hi - l.delay := by rw [wrap64_id] <;> omega
      obtain ⟨M, hM⟩ : ∃ M, M = max x.lo tick := ⟨_, rfl⟩
      have hmx : (if x.lo < tick then tick else x.lo) = M := by split <;> omega
      rw [drop_at hx, leaveGo, ← hM] at hgo
      by_cases c : M ≤ x.hi - l.delay
      · rw [if_pos c] at hgo
        repeat (first
          | (refine ac_seq_k fun K hK => ?_)
          | (refine ac_region ?_; simp [go_sem, hltI, fr, hx, hw2, hmx, encSpan, c])
          | (refine ac_draw' mixed (by kernel_rfl) ?_; simp [go_sem, hltI, fr, hx, hw, hw2, hmx, encSpan, c])
          | (apply hK; clear hK K)
          | (clear hK K; apply hK; clear hK K)
          | (clear hK K; clear hK K; apply hK; clear hK K)
          | (refine ac_block ?_)
          | (refine ac_skip ?_; simp only [go_sem])
          | (refine ac_exit ?_; simp only [go_sem, if_true])
          | (refine ac_cond_k fun Kt Kf ht hf => ?_; simp [go_sem]; first | (apply ht; clear ht hf Kt Kf) | (apply hf; clear ht hf Kt Kf)))
        refine ac_ret ?_
        try dsimp only [thenA, blockA]
        refine ⟨by simp, _, rfl, ?_⟩
        refine ret_id ⟨fun k hk => ?_, ?_, ?_, rfl, rfl⟩
        · try dsimp only
          first | rfl | (repeat rw [upd_ne _ _ _ _ (by omega)])
        · simp [go_sem, below, belowL]
        · simp [go_sem, hL, ← hgo]
      · rw [if_neg c] at hgo
        repeat (first
          | (refine ac_seq_k fun K hK => ?_)
          | (refine ac_region ?_; simp [go_sem, hltI, fr, hx, hw, hw2, hmx, encSpan, c])
          | (refine ac_draw' mixed (by kernel_rfl) ?_; simp [go_sem, hltI, fr, hx, hw, hw2, hmx, encSpan, c])
          | (apply hK; clear hK K)
          | (clear hK K; apply hK; clear hK K)
          | (clear hK K; clear hK K; apply hK; clear hK K)
          | (refine ac_block ?_)
          | (refine ac_skip ?_; simp only [go_sem])
          | (refine ac_exit ?_; simp only [go_sem, if_true])
          | (refine ac_cond_k fun Kt Kf ht hf => ?_; simp [go_sem]; first | (apply ht; clear ht hf Kt Kf) | (apply hf; clear ht hf Kt Kf)))
        refine round_end (by simp [go_sem]) ((((Sub.refl _).upd (hb' _ (by omega)) _).upd (hb' _ (by omega)) _)) ⟨k + 1, _, by omega, by omega, hgo, rfl⟩ (by simp [intAt, go_sem]; omega)
    · have hltI : ¬ (k : Int) < (l.opn.length : Int) := by omega
      have hkl : k = l.opn.length := by omega
      rw [hkl] at hgo
      simp [leaveGo] at hgo
      repeat (first
        | (refine ac_seq_k fun K hK => ?_)
        | (refine ac_region ?_; simp [go_sem, hltI])
        | (refine ac_draw' mixed (by kernel_rfl) ?_; simp [go_sem, hltI])
        | (apply hK; clear hK K)
        | (clear hK K; apply hK; clear hK K)
        | (clear hK K; clear hK K; apply hK; clear hK K)
        | (refine ac_block ?_)
        | (refine ac_skip ?_; simp only [go_sem])
        | (refine ac_exit ?_; simp only [go_sem, if_true])
        | (refine ac_cond_k fun Kt Kf ht hf => ?_; simp [go_sem]; first | (apply ht; clear ht hf Kt Kf) | (apply hf; clear ht hf Kt Kf)))
      refine ac_ret ?_
      try dsimp only [thenA, blockA]
      refine ⟨by simp, _, rfl, ?_⟩
      refine ret_id ⟨fun k hk => ?_, ?_, ?_, rfl, rfl⟩
      · try dsimp only
        first | rfl | (repeat rw [upd_ne _ _ _ _ (by omega)])
      · simp [go_sem, below, belowL]
      · simp [go_sem, hL, ← hgo]
theorem within_ref (a lo hi : Int) : APure Try.prog 41 [iv .i64 a, iv .i64 lo, iv .i64 hi] (bv (within a lo hi)) := by
  intro h n
  refine ACalls.pure (ACalls.entry (by kernel_rfl) fun hb _ => calls_of Try.func41 rfl (by kernel_rfl) (by simp [Try.ntmps41]) ?_)
  by_cases h1 : lo ≤ a
  · skip
    repeat (first
      | (refine ac_seq_k fun K hK => ?_)
      | (refine ac_region ?_; simp [go_sem, Try.ntmps41, h1])
      | (refine ac_draw' mixed (by kernel_rfl) ?_; simp [go_sem, Try.ntmps41, h1])
      | (apply hK; clear hK K)
      | (clear hK K; apply hK; clear hK K)
      | (clear hK K; clear hK K; apply hK; clear hK K)
      | (refine ac_block ?_)
      | (refine ac_skip ?_; simp only [go_sem])
      | (refine ac_exit ?_; simp only [go_sem, if_true])
      | (refine ac_cond_k fun Kt Kf ht hf => ?_; simp [go_sem, Try.ntmps41, h1]; first | (apply ht; clear ht hf Kt Kf) | (apply hf; clear ht hf Kt Kf)))
    refine ac_ret ?_
    try dsimp only [thenA, blockA]
    refine ⟨by simp, _, rfl, ?_⟩
    refine ret_id ⟨fun k hk => ?_, ?_, ?_, rfl, rfl⟩
    · try dsimp only
      first | rfl | (repeat rw [upd_ne _ _ _ _ (by omega)])
    · simp [go_sem, below]
    · simp [go_sem, within, h1]
  · skip
    repeat (first
      | (refine ac_seq_k fun K hK => ?_)
      | (refine ac_region ?_; simp [go_sem, Try.ntmps41, h1])
      | (refine ac_draw' mixed (by kernel_rfl) ?_; simp [go_sem, Try.ntmps41, h1])
      | (apply hK; clear hK K)
      | (clear hK K; apply hK; clear hK K)
      | (clear hK K; clear hK K; apply hK; clear hK K)
      | (refine ac_block ?_)
      | (refine ac_skip ?_; simp only [go_sem])
      | (refine ac_exit ?_; simp only [go_sem, if_true])
      | (refine ac_cond_k fun Kt Kf ht hf => ?_; simp [go_sem, Try.ntmps41, h1]; first | (apply ht; clear ht hf Kt Kf) | (apply hf; clear ht hf Kt Kf)))
    refine ac_ret ?_
    try dsimp only [thenA, blockA]
    refine ⟨by simp, _, rfl, ?_⟩
    refine ret_id ⟨fun k hk => ?_, ?_, ?_, rfl, rfl⟩
    · try dsimp only
      first | rfl | (repeat rw [upd_ne _ _ _ _ (by omega)])
    · simp [go_sem, below]
    · simp [go_sem, within, h1]
theorem opened_ref (nl : Bool) (l : List Span) : APure Try.prog 55 [encOpen nl l] (iv .i64 (spansE l)) := by
  intro h n
  refine ACalls.pure (ACalls.entry (by kernel_rfl) fun hb _ => calls_of Try.func55 rfl (by kernel_rfl) (by simp [Try.ntmps55]) ?_)
  by_cases h12 : 12 < l.length
  · have hi : 12 < (l.length : Int) := by omega
    repeat (first
      | (refine ac_seq_k fun K hK => ?_)
      | (refine ac_region ?_; simp [go_sem, Try.ntmps55, encOpen, hi])
      | (refine ac_draw' mixed (by kernel_rfl) ?_; simp [go_sem, Try.ntmps55, encOpen, hi])
      | (apply hK; clear hK K)
      | (clear hK K; apply hK; clear hK K)
      | (clear hK K; clear hK K; apply hK; clear hK K)
      | (refine ac_block ?_)
      | (refine ac_skip ?_; simp only [go_sem])
      | (refine ac_exit ?_; simp only [go_sem, if_true])
      | (refine ac_cond_k fun Kt Kf ht hf => ?_; simp [go_sem]; first | (apply ht; clear ht hf Kt Kf) | (apply hf; clear ht hf Kt Kf)))
    refine ac_ret ?_
    try dsimp only [thenA, blockA]
    refine ⟨by simp, _, rfl, ?_⟩
    refine ret_id ⟨fun k hk => ?_, ?_, ?_, rfl, rfl⟩
    · try dsimp only
      first | rfl | (repeat rw [upd_ne _ _ _ _ (by omega)])
    · simp [go_sem, below]
    · simp [go_sem, spansE, h12]
  · have hi : ¬ 12 < (l.length : Int) := by omega
    repeat (first
      | (refine ac_seq_k fun K hK => ?_)
      | (refine ac_region ?_; simp [go_sem, Try.ntmps55, encOpen, hi])
      | (refine ac_draw' mixed (by kernel_rfl) ?_; simp [go_sem, Try.ntmps55, encOpen, hi])
      | (apply hK; clear hK K)
      | (clear hK K; apply hK; clear hK K)
      | (clear hK K; clear hK K; apply hK; clear hK K)
      | (refine ac_block ?_)
      | (refine ac_skip ?_; simp only [go_sem])
      | (refine ac_exit ?_; simp only [go_sem, if_true])
      | (refine ac_cond_k fun Kt Kf ht hf => ?_; simp [go_sem]; first | (apply ht; clear ht hf Kt Kf) | (apply hf; clear ht hf Kt Kf)))
    refine ac_loop_wk (fun s => ∃ k n' : Nat, n ≤ n' ∧ k ≤ l.length ∧ (∀ j, j < k → badAt l j = false) ∧ s = ⟨59, [(0, encOpen nl l), (3, iv .i64 k)], h, n'⟩)
      (fun s => l.length - (intAt s 3).toNat) ?_ ?_
    · exact loop_start (by simp [go_sem, encOpen]) (Sub.refl h) ⟨0, _, by omega, by omega, by simp, rfl⟩
    · rintro s ⟨k, n', hn', hk, hgood, rfl⟩
      by_cases hlt : k < l.length
      · have hltI : (k : Int) < (l.length : Int) := by omega
        obtain ⟨x, hx⟩ : ∃ x, l[k]? = some x := ⟨l[k], List.getElem?_eq_getElem hlt⟩
        have hw : IntKind.i64.wrap ((k : Int) + 1) = ((k + 1 : Nat) : Int) := by rw [wrap64_id] <;> omega
        have hbad : ∀ b, badAt l k = b → (b = true → spansE l = 1) := by
          intro b hb1 hb2
          simp only [spansE, if_neg h12]
          rw [if_pos]
          exact List.any_eq_true.2 ⟨k, by simpa using hlt, by rw [hb1, hb2]⟩
        have next : badAt l k = false → ∀ j, j < k + 1 → badAt l j = false := fun hb1 j hj => by
          rcases Nat.lt_or_ge j k with h1 | h1
          · exact hgood j h1
          · have : j = k := by omega
            rw [this]; exact hb1
        by_cases c1 : x.lo < 0
        · have e := hbad true (by simp [badAt, hx, c1]) rfl
          clear hbad next
          repeat (first
            | (refine ac_seq_k fun K hK => ?_)
            | (refine ac_region ?_; simp [go_sem, encOpen, hltI])
            | (refine ac_draw' mixed (by kernel_rfl) ?_; simp [go_sem, encOpen, hx, encSpan, c1])
            | (apply hK; clear hK K)
            | (clear hK K; apply hK; clear hK K)
            | (clear hK K; clear hK K; apply hK; clear hK K)
            | (refine ac_block ?_)
            | (refine ac_skip ?_; simp only [go_sem])
            | (refine ac_exit ?_; simp only [go_sem, if_true])
            | (refine ac_cond_k fun Kt Kf ht hf => ?_; simp [go_sem]; first | (apply ht; clear ht hf Kt Kf) | (apply hf; clear ht hf Kt Kf)))
          refine ac_ret ?_
          try dsimp only [thenA, blockA]
          refine ⟨by simp, _, rfl, ?_⟩
          refine ret_id ⟨fun k hk => ?_, ?_, ?_, rfl, rfl⟩
          · try dsimp only
            first | rfl | (repeat rw [upd_ne _ _ _ _ (by omega)])
          · simp [go_sem, below]
          · simp [go_sem, e]
        by_cases c2 : x.hi < x.lo
        · have e := hbad true (by simp [badAt, hx, c2]) rfl
          clear hbad next
          repeat (first
            | (refine ac_seq_k fun K hK => ?_)
            | (refine ac_region ?_; simp [go_sem, encOpen, hltI])
            | (refine ac_draw' mixed (by kernel_rfl) ?_; simp [go_sem, encOpen, hx, encSpan, c1, c2])
            | (apply hK; clear hK K)
            | (clear hK K; apply hK; clear hK K)
            | (clear hK K; clear hK K; apply hK; clear hK K)
            | (refine ac_block ?_)
            | (refine ac_skip ?_; simp only [go_sem])
            | (refine ac_exit ?_; simp only [go_sem, if_true])
            | (refine ac_cond_k fun Kt Kf ht hf => ?_; simp [go_sem]; first | (apply ht; clear ht hf Kt Kf) | (apply hf; clear ht hf Kt Kf)))
          refine ac_ret ?_
          try dsimp only [thenA, blockA]
          refine ⟨by simp, _, rfl, ?_⟩
          refine ret_id ⟨fun k hk => ?_, ?_, ?_, rfl, rfl⟩
          · try dsimp only
            first | rfl | (repeat rw [upd_ne _ _ _ _ (by omega)])
          · simp [go_sem, below]
          · simp [go_sem, e]
        by_cases c3 : 1048576 < x.hi
        · have e := hbad true (by simp [badAt, hx, c3]) rfl
          clear hbad next
          repeat (first
            | (refine ac_seq_k fun K hK => ?_)
            | (refine ac_region ?_; simp [go_sem, encOpen, hltI])
            | (refine ac_draw' mixed (by kernel_rfl) ?_; simp [go_sem, encOpen, hx, encSpan, c1, c2, c3])
            | (apply hK; clear hK K)
            | (clear hK K; apply hK; clear hK K)
            | (clear hK K; clear hK K; apply hK; clear hK K)
            | (refine ac_block ?_)
            | (refine ac_skip ?_; simp only [go_sem])
            | (refine ac_exit ?_; simp only [go_sem, if_true])
            | (refine ac_cond_k fun Kt Kf ht hf => ?_; simp [go_sem]; first | (apply ht; clear ht hf Kt Kf) | (apply hf; clear ht hf Kt Kf)))
          refine ac_ret ?_
          try dsimp only [thenA, blockA]
          refine ⟨by simp, _, rfl, ?_⟩
          refine ret_id ⟨fun k hk => ?_, ?_, ?_, rfl, rfl⟩
          · try dsimp only
            first | rfl | (repeat rw [upd_ne _ _ _ _ (by omega)])
          · simp [go_sem, below]
          · simp [go_sem, e]
        by_cases c4 : 0 < k
        · have hw4 : IntKind.i64.wrap ((k : Int) - 1) = ((k - 1 : Nat) : Int) := by rw [wrap64_id] <;> omega
          have hm4 : (if 0 < k - 1 then ((k - 1 : Nat) : Int) else 0) = ((k - 1 : Nat) : Int) := by split <;> omega
          obtain ⟨p, hp⟩ : ∃ p, l[k - 1]? = some p := ⟨l[k - 1], List.getElem?_eq_getElem (by omega)⟩
          by_cases c5 : x.lo ≤ p.hi
          · have e := hbad true (by simp [badAt, hx, hp, c4, c5]) rfl
            clear hbad next
            repeat (first
              | (refine ac_seq_k fun K hK => ?_)
              | (refine ac_region ?_; simp [go_sem, encOpen, hltI])
              | (refine ac_draw' mixed (by kernel_rfl) ?_; simp [go_sem, encOpen, hx, encSpan, c1, c2, c3, c4, hw4, hm4, hp, c5])
              | (apply hK; clear hK K)
              | (clear hK K; apply hK; clear hK K)
              | (clear hK K; clear hK K; apply hK; clear hK K)
              | (refine ac_block ?_)
              | (refine ac_skip ?_; simp only [go_sem])
              | (refine ac_exit ?_; simp only [go_sem, if_true])
              | (refine ac_cond_k fun Kt Kf ht hf => ?_; simp [go_sem]; first | (apply ht; clear ht hf Kt Kf) | (apply hf; clear ht hf Kt Kf)))
            refine ac_ret ?_
            try dsimp only [thenA, blockA]
            refine ⟨by simp, _, rfl, ?_⟩
            refine ret_id ⟨fun k hk => ?_, ?_, ?_, rfl, rfl⟩
            · try dsimp only
              first | rfl | (repeat rw [upd_ne _ _ _ _ (by omega)])
            · simp [go_sem, below]
            · simp [go_sem, e]
          · have e := next (by simp [badAt, hx, hp, c1, c2, c3, c5])
            clear hbad next
            repeat (first
              | (refine ac_seq_k fun K hK => ?_)
              | (refine ac_region ?_; simp [go_sem, encOpen, hltI, hw])
              | (refine ac_draw' mixed (by kernel_rfl) ?_; simp [go_sem, encOpen, hx, encSpan, c1, c2, c3, c4, hw4, hm4, hp, c5])
              | (apply hK; clear hK K)
              | (clear hK K; apply hK; clear hK K)
              | (clear hK K; clear hK K; apply hK; clear hK K)
              | (refine ac_block ?_)
              | (refine ac_skip ?_; simp only [go_sem])
              | (refine ac_exit ?_; simp only [go_sem, if_true])
              | (refine ac_cond_k fun Kt Kf ht hf => ?_; simp [go_sem]; first | (apply ht; clear ht hf Kt Kf) | (apply hf; clear ht hf Kt Kf)))
            exact round_end (by simp [go_sem]) (Sub.refl h) ⟨k + 1, _, by omega, by omega, e, rfl⟩ (by simp [intAt, go_sem]; omega)
        · have e := next (by simp [badAt, hx, c1, c2, c3, c4])
          clear hbad next
          repeat (first
            | (refine ac_seq_k fun K hK => ?_)
            | (refine ac_region ?_; simp [go_sem, encOpen, hltI, hw])
            | (refine ac_draw' mixed (by kernel_rfl) ?_; simp [go_sem, encOpen, hx, encSpan, c1, c2, c3, c4])
            | (apply hK; clear hK K)
            | (clear hK K; apply hK; clear hK K)
            | (clear hK K; clear hK K; apply hK; clear hK K)
            | (refine ac_block ?_)
            | (refine ac_skip ?_; simp only [go_sem])
            | (refine ac_exit ?_; simp only [go_sem, if_true])
            | (refine ac_cond_k fun Kt Kf ht hf => ?_; simp [go_sem]; first | (apply ht; clear ht hf Kt Kf) | (apply hf; clear ht hf Kt Kf)))
          exact round_end (by simp [go_sem]) (Sub.refl h) ⟨k + 1, _, by omega, by omega, e, rfl⟩ (by simp [intAt, go_sem]; omega)
      · have hltI : ¬ (k : Int) < (l.length : Int) := by omega
        have hkl : k = l.length := by omega
        have e : spansE l = 0 := by
          simp only [spansE, if_neg h12]
          rw [if_neg]
          intro hany
          obtain ⟨j, h1, h2⟩ := List.any_eq_true.1 hany
          rw [hgood j (by simp at h1; omega)] at h2
          cases h2
        repeat (first
          | (refine ac_seq_k fun K hK => ?_)
          | (refine ac_region ?_; simp [go_sem, encOpen, hltI])
          | (refine ac_draw' mixed (by kernel_rfl) ?_; simp [go_sem, encOpen, hltI])
          | (apply hK; clear hK K)
          | (clear hK K; apply hK; clear hK K)
          | (clear hK K; clear hK K; apply hK; clear hK K)
          | (refine ac_block ?_)
          | (refine ac_skip ?_; simp only [go_sem])
          | (refine ac_exit ?_; simp only [go_sem, if_true])
          | (refine ac_cond_k fun Kt Kf ht hf => ?_; simp [go_sem]; first | (apply ht; clear ht hf Kt Kf) | (apply hf; clear ht hf Kt Kf)))
        refine ac_ret ?_
        try dsimp only [thenA, blockA]
        refine ⟨by simp, _, rfl, ?_⟩
        refine ret_id ⟨fun k hk => ?_, ?_, ?_, rfl, rfl⟩
        · try dsimp only
          first | rfl | (repeat rw [upd_ne _ _ _ _ (by omega)])
        · simp [go_sem, below]
        · simp [go_sem, e]
theorem linked_ref (l : Link) : APure Try.prog 36 [encLink l] (iv .i64 (linkE l)) := by
  intro h n
  refine ACalls.pure (ACalls.entry (by kernel_rfl) fun hb _ => calls_of Try.func36 rfl (by kernel_rfl) (by simp [Try.ntmps36]) ?_)
  cases hw : within l.delay 1 1440
  · skip
    repeat (first
      | (refine ac_seq_k fun K hK => ?_)
      | (refine ac_region ?_; simp [go_sem, Try.ntmps36 ])
      | (refine ac_draw' mixed (by kernel_rfl) ?_; simp [go_sem, Try.ntmps36, hw ])
      | (apply hK; clear hK K)
      | (clear hK K; apply hK; clear hK K)
      | (clear hK K; clear hK K; apply hK; clear hK K)
      | (with_reducible refine APure.call (within_ref _ _ _) ?_; try simp [go_sem, hw ])
      | (with_reducible refine APure.call (opened_ref _ _) ?_; try simp [go_sem, Try.ntmps36, hw ])
      | (refine ac_block ?_)
      | (refine ac_skip ?_; simp only [go_sem])
      | (refine ac_exit ?_; simp only [go_sem, if_true])
      | (refine ac_cond_k fun Kt Kf ht hf => ?_; simp [go_sem ]; first | (apply ht; clear ht hf Kt Kf) | (apply hf; clear ht hf Kt Kf)))
    refine ac_ret ?_
    try dsimp only [thenA, blockA]
    refine ⟨by simp, _, rfl, ?_⟩
    refine ret_id ⟨fun k hk => ?_, ?_, ?_, rfl, rfl⟩
    · try dsimp only
      first | rfl | (repeat rw [upd_ne _ _ _ _ (by omega)])
    · simp [go_sem, below]
    · simp [go_sem, linkE, hw]
  · skip
    repeat (first
      | (refine ac_seq_k fun K hK => ?_)
      | (refine ac_region ?_; simp [go_sem, Try.ntmps36 ])
      | (refine ac_draw' mixed (by kernel_rfl) ?_; simp [go_sem, Try.ntmps36, hw ])
      | (apply hK; clear hK K)
      | (clear hK K; apply hK; clear hK K)
      | (clear hK K; clear hK K; apply hK; clear hK K)
      | (with_reducible refine APure.call (within_ref _ _ _) ?_; try simp [go_sem, hw ])
      | (with_reducible refine APure.call (opened_ref _ _) ?_; try simp [go_sem ])
      | (refine ac_block ?_)
      | (refine ac_skip ?_; simp only [go_sem])
      | (refine ac_exit ?_; simp only [go_sem, if_true])
      | (refine ac_cond_k fun Kt Kf ht hf => ?_; simp [go_sem ]; first | (apply ht; clear ht hf Kt Kf) | (apply hf; clear ht hf Kt Kf)))
    refine ac_ret ?_
    try dsimp only [thenA, blockA]
    refine ⟨by simp, _, rfl, ?_⟩
    refine ret_id ⟨fun k hk => ?_, ?_, ?_, rfl, rfl⟩
    · try dsimp only
      first | rfl | (repeat rw [upd_ne _ _ _ _ (by omega)])
    · simp [go_sem, below]
    · simp [go_sem, linkE, hw]
end Go.AM

namespace Go.AM
open Go.Proofs Nets
set_option maxRecDepth 10000
set_option maxHeartbeats 4000000
theorem check_ref (N : Net) : APure Try.prog 17 [encNet N] (iv .i64 (checkE N)) := by
  intro h n
  refine ACalls.pure (ACalls.entry (by kernel_rfl) fun hb _ => calls_of Try.func17 rfl (by kernel_rfl) (by simp [Try.ntmps17]) ?_)
  cases hst : within N.st 1 10
  · skip
    repeat (first
      | (refine ac_seq_k fun K hK => ?_)
      | (refine ac_region ?_; simp [go_sem, Try.ntmps17 ])
      | (refine ac_draw' mixed (by kernel_rfl) ?_; simp [go_sem, Try.ntmps17, hst ])
      | (apply hK; clear hK K)
      | (clear hK K; apply hK; clear hK K)
      | (clear hK K; clear hK K; apply hK; clear hK K)
      | (with_reducible refine APure.call (within_ref _ _ _) ?_; try simp [go_sem, hst ])
      | (refine ac_block ?_)
      | (refine ac_skip ?_; simp only [go_sem])
      | (refine ac_exit ?_; simp only [go_sem, if_true])
      | (refine ac_cond_k fun Kt Kf ht hf => ?_; simp [go_sem ]; first | (apply ht; clear ht hf Kt Kf) | (apply hf; clear ht hf Kt Kf)))
    refine ac_ret ?_
    try dsimp only [thenA, blockA]
    refine ⟨by simp, _, rfl, ?_⟩
    refine ret_id ⟨fun k hk => ?_, ?_, ?_, rfl, rfl⟩
    · try dsimp only
      first | rfl | (repeat rw [upd_ne _ _ _ _ (by omega)])
    · simp [go_sem, below]
    · simp [go_sem, checkE, hst]
  have hst' : 1 ≤ N.st ∧ N.st ≤ 10 := by simpa [within] using hst
  by_cases h40 : 40 < N.links.length
  · have hi : 40 < (N.links.length : Int) := by omega
    repeat (first
      | (refine ac_seq_k fun K hK => ?_)
      | (refine ac_region ?_; simp [go_sem, Try.ntmps17, hi ])
      | (refine ac_draw' mixed (by kernel_rfl) ?_; simp [go_sem, Try.ntmps17, hst, hi ])
      | (apply hK; clear hK K)
      | (clear hK K; apply hK; clear hK K)
      | (clear hK K; clear hK K; apply hK; clear hK K)
      | (with_reducible refine APure.call (within_ref _ _ _) ?_; try simp [go_sem, hst ])
      | (refine ac_block ?_)
      | (refine ac_skip ?_; simp only [go_sem])
      | (refine ac_exit ?_; simp only [go_sem, if_true])
      | (refine ac_cond_k fun Kt Kf ht hf => ?_; simp [go_sem ]; first | (apply ht; clear ht hf Kt Kf) | (apply hf; clear ht hf Kt Kf)))
    refine ac_ret ?_
    try dsimp only [thenA, blockA]
    refine ⟨by simp, _, rfl, ?_⟩
    refine ret_id ⟨fun k hk => ?_, ?_, ?_, rfl, rfl⟩
    · try dsimp only
      first | rfl | (repeat rw [upd_ne _ _ _ _ (by omega)])
    · simp [go_sem, below]
    · simp [go_sem, checkE, hst, h40]
  have hi : ¬ 40 < (N.links.length : Int) := by omega
  have hE : checkE N = linksE N.st N.links := by simp [checkE, hst, h40]
  have hws : IntKind.i64.wrap (N.st - 1) = N.st - 1 := by rw [wrap64_id] <;> omega
  repeat (first
    | (refine ac_seq_k fun K hK => ?_)
    | (refine ac_region ?_; simp [go_sem, Try.ntmps17, hi ])
    | (refine ac_draw' mixed (by kernel_rfl) ?_; simp [go_sem, Try.ntmps17, hst, hi ])
    | (apply hK; clear hK K)
    | (clear hK K; apply hK; clear hK K)
    | (clear hK K; clear hK K; apply hK; clear hK K)
    | (with_reducible refine APure.call (within_ref _ _ _) ?_; try simp [go_sem, hst ])
    | (refine ac_block ?_)
    | (refine ac_skip ?_; simp only [go_sem])
    | (refine ac_exit ?_; simp only [go_sem, if_true])
    | (refine ac_cond_k fun Kt Kf ht hf => ?_; simp [go_sem ]; first | (apply ht; clear ht hf Kt Kf) | (apply hf; clear ht hf Kt Kf)))
  refine ac_loop_wk (fun s => ∃ k n' : Nat, n < n' ∧ k ≤ N.links.length ∧ linksE N.st (N.links.drop k) = linksE N.st N.links ∧ s = ⟨60, [(1, .ptr n 0), (4, iv .i64 k)], h.upd n (some (cellsNet N)), n'⟩)
      (fun s => N.links.length - (intAt s 4).toNat) ?_ ?_
  · skip
    exact loop_start (by simp [go_sem]) (Sub.refl _) ⟨0, _, by omega, by omega, by simp, rfl⟩
  · rintro s ⟨k, n', hn', hk, hgo, rfl⟩
    have fr := far hn'
    have hb' : NB (h.upd n (some (cellsNet N))) n' := hb.nb.upd hn' (by omega)
    by_cases hlt : k < N.links.length
    · have hltI : (k : Int) < (N.links.length : Int) := by omega
      obtain ⟨x, hx⟩ : ∃ x, N.links[k]? = some x := ⟨N.links[k], List.getElem?_eq_getElem hlt⟩
      have hw : IntKind.i64.wrap ((k : Int) + 1) = ((k + 1 : Nat) : Int) := by rw [wrap64_id] <;> omega
      rw [drop_at hx, linksE, linkIn] at hgo
      cases w1 : within x.fr 0 (N.st - 1)
      · simp [w1] at hgo
        cases w2 : within x.to 0 (N.st - 1)
        · skip
          repeat (first
            | (refine ac_seq_k fun K hK => ?_)
            | (refine ac_region ?_; simp [go_sem, hltI, fr, hx, hws, encLink ])
            | (refine ac_draw' mixed (by kernel_rfl) ?_; simp [go_sem, hltI, fr, hx, hws, encLink, w1, w2 ])
            | (apply hK; clear hK K)
            | (clear hK K; apply hK; clear hK K)
            | (clear hK K; clear hK K; apply hK; clear hK K)
            | (with_reducible refine APure.call (within_ref _ _ _) ?_; try simp [go_sem, w1, w2 ])
            | (with_reducible refine APure.call (linked_ref _) ?_; try simp [go_sem, hltI, fr, hx, hws, encLink, w1, w2 ])
            | (refine ac_block ?_)
            | (refine ac_skip ?_; simp only [go_sem])
            | (refine ac_exit ?_; simp only [go_sem, if_true])
            | (refine ac_cond_k fun Kt Kf ht hf => ?_; simp [go_sem ]; first | (apply ht; clear ht hf Kt Kf) | (apply hf; clear ht hf Kt Kf)))
          refine ac_ret ?_
          try dsimp only [thenA, blockA]
          refine ⟨by simp, _, rfl, ?_⟩
          refine ret_id ⟨fun k hk => ?_, ?_, ?_, rfl, rfl⟩
          · try dsimp only
            first | rfl | (repeat rw [upd_ne _ _ _ _ (by omega)])
          · simp [go_sem, below]
          · simp [go_sem, hE, ← hgo]
        · skip
          repeat (first
            | (refine ac_seq_k fun K hK => ?_)
            | (refine ac_region ?_; simp [go_sem, hltI, fr, hx, hws, encLink ])
            | (refine ac_draw' mixed (by kernel_rfl) ?_; simp [go_sem, hltI, fr, hx, hws, encLink, w1, w2 ])
            | (apply hK; clear hK K)
            | (clear hK K; apply hK; clear hK K)
            | (clear hK K; clear hK K; apply hK; clear hK K)
            | (with_reducible refine APure.call (within_ref _ _ _) ?_; try simp [go_sem, w1, w2 ])
            | (with_reducible refine APure.call (linked_ref _) ?_; try simp [go_sem, hltI, fr, hx, hws, encLink, w1, w2 ])
            | (refine ac_block ?_)
            | (refine ac_skip ?_; simp only [go_sem])
            | (refine ac_exit ?_; simp only [go_sem, if_true])
            | (refine ac_cond_k fun Kt Kf ht hf => ?_; simp [go_sem ]; first | (apply ht; clear ht hf Kt Kf) | (apply hf; clear ht hf Kt Kf)))
          refine ac_ret ?_
          try dsimp only [thenA, blockA]
          refine ⟨by simp, _, rfl, ?_⟩
          refine ret_id ⟨fun k hk => ?_, ?_, ?_, rfl, rfl⟩
          · try dsimp only
            first | rfl | (repeat rw [upd_ne _ _ _ _ (by omega)])
          · simp [go_sem, below]
          · simp [go_sem, hE, ← hgo]
      cases w2 : within x.to 0 (N.st - 1)
      · simp [w1, w2] at hgo
        repeat (first
          | (refine ac_seq_k fun K hK => ?_)
          | (refine ac_region ?_; simp [go_sem, hltI, fr, hx, hws, encLink ])
          | (refine ac_draw' mixed (by kernel_rfl) ?_; simp [go_sem, hltI, fr, hx, hws, encLink, w1, w2 ])
          | (apply hK; clear hK K)
          | (clear hK K; apply hK; clear hK K)
          | (clear hK K; clear hK K; apply hK; clear hK K)
          | (with_reducible refine APure.call (within_ref _ _ _) ?_; try simp [go_sem, w1, w2 ])
          | (with_reducible refine APure.call (linked_ref _) ?_; try simp [go_sem, hltI, fr, hx, hws, encLink, w1, w2 ])
          | (refine ac_block ?_)
          | (refine ac_skip ?_; simp only [go_sem])
          | (refine ac_exit ?_; simp only [go_sem, if_true])
          | (refine ac_cond_k fun Kt Kf ht hf => ?_; simp [go_sem ]; first | (apply ht; clear ht hf Kt Kf) | (apply hf; clear ht hf Kt Kf)))
        refine ac_ret ?_
        try dsimp only [thenA, blockA]
        refine ⟨by simp, _, rfl, ?_⟩
        refine ret_id ⟨fun k hk => ?_, ?_, ?_, rfl, rfl⟩
        · try dsimp only
          first | rfl | (repeat rw [upd_ne _ _ _ _ (by omega)])
        · simp [go_sem, below]
        · simp [go_sem, hE, ← hgo]
      by_cases w3 : x.fr = x.to
      · simp [w2, w3] at hgo
        rw [w3] at w1
        repeat (first
          | (refine ac_seq_k fun K hK => ?_)
          | (refine ac_region ?_; simp [go_sem, hltI, fr, hx, hws, encLink, w3 ])
          | (refine ac_draw' mixed (by kernel_rfl) ?_; simp [go_sem, hltI, fr, hx, hws, encLink, w1, w2, w3 ])
          | (apply hK; clear hK K)
          | (clear hK K; apply hK; clear hK K)
          | (clear hK K; clear hK K; apply hK; clear hK K)
          | (with_reducible refine APure.call (within_ref _ _ _) ?_; try simp [go_sem, w1 ])
          | (with_reducible refine APure.call (linked_ref _) ?_; try simp [go_sem, hltI, fr, hx, hws, encLink, w1, w2, w3 ])
          | (refine ac_block ?_)
          | (refine ac_skip ?_; simp only [go_sem])
          | (refine ac_exit ?_; simp only [go_sem, if_true])
          | (refine ac_cond_k fun Kt Kf ht hf => ?_; simp [go_sem ]; first | (apply ht; clear ht hf Kt Kf) | (apply hf; clear ht hf Kt Kf)))
        refine ac_ret ?_
        try dsimp only [thenA, blockA]
        refine ⟨by simp, _, rfl, ?_⟩
        refine ret_id ⟨fun k hk => ?_, ?_, ?_, rfl, rfl⟩
        · try dsimp only
          first | rfl | (repeat rw [upd_ne _ _ _ _ (by omega)])
        · simp [go_sem, below]
        · simp [go_sem, hE, ← hgo]
      have w3' : (x.fr == x.to) = false := by simpa using w3
      by_cases w4 : linkE x = 0
      · simp [w1, w2, w3, w4] at hgo
        repeat (first
          | (refine ac_seq_k fun K hK => ?_)
          | (refine ac_region ?_; simp [go_sem, hltI, fr, hx, hws, encLink, w3', hw ])
          | (refine ac_draw' mixed (by kernel_rfl) ?_; simp [go_sem, hltI, fr, hx, hws, encLink, w1, w2, w3', w4, hw ])
          | (apply hK; clear hK K)
          | (clear hK K; apply hK; clear hK K)
          | (clear hK K; clear hK K; apply hK; clear hK K)
          | (with_reducible refine APure.call (within_ref _ _ _) ?_; try simp [go_sem, w1, w2 ])
          | (with_reducible refine APure.call (linked_ref _) ?_; try simp [go_sem, w4 ])
          | (refine ac_block ?_)
          | (refine ac_skip ?_; simp only [go_sem])
          | (refine ac_exit ?_; simp only [go_sem, if_true])
          | (refine ac_cond_k fun Kt Kf ht hf => ?_; simp [go_sem ]; first | (apply ht; clear ht hf Kt Kf) | (apply hf; clear ht hf Kt Kf)))
        refine round_end (by simp [go_sem]) ((((Sub.refl _).upd (hb' _ (by omega)) _).upd (hb' _ (by omega)) _)) ⟨k + 1, _, by omega, by omega, hgo, rfl⟩ (by simp [intAt, go_sem]; omega)
      · simp [w1, w2, w3, w4] at hgo
        repeat (first
          | (refine ac_seq_k fun K hK => ?_)
          | (refine ac_region ?_; simp [go_sem, hltI, fr, hx, hws, encLink, w3' ])
          | (refine ac_draw' mixed (by kernel_rfl) ?_; simp [go_sem, hltI, fr, hx, hws, encLink, w1, w2, w3', w4, hw ])
          | (apply hK; clear hK K)
          | (clear hK K; apply hK; clear hK K)
          | (clear hK K; clear hK K; apply hK; clear hK K)
          | (with_reducible refine APure.call (within_ref _ _ _) ?_; try simp [go_sem, w1, w2 ])
          | (with_reducible refine APure.call (linked_ref _) ?_; try simp [go_sem ])
          | (refine ac_block ?_)
          | (refine ac_skip ?_; simp only [go_sem])
          | (refine ac_exit ?_; simp only [go_sem, if_true])
          | (refine ac_cond_k fun Kt Kf ht hf => ?_; simp [go_sem, w4 ]; first | (apply ht; clear ht hf Kt Kf) | (apply hf; clear ht hf Kt Kf)))
        refine ac_ret ?_
        try dsimp only [thenA, blockA]
        refine ⟨by simp, _, rfl, ?_⟩
        refine ret_id ⟨fun k hk => ?_, ?_, ?_, rfl, rfl⟩
        · try dsimp only
          first | rfl | (repeat rw [upd_ne _ _ _ _ (by omega)])
        · simp [go_sem, below]
        · simp [go_sem, hE, ← hgo]
    · have hltI : ¬ (k : Int) < (N.links.length : Int) := by omega
      have hkl : k = N.links.length := by omega
      rw [hkl] at hgo
      simp [linksE] at hgo
      repeat (first
        | (refine ac_seq_k fun K hK => ?_)
        | (refine ac_region ?_; simp [go_sem, hltI])
        | (refine ac_draw' mixed (by kernel_rfl) ?_; simp [go_sem, hltI])
        | (apply hK; clear hK K)
        | (clear hK K; apply hK; clear hK K)
        | (clear hK K; clear hK K; apply hK; clear hK K)
        | (refine ac_block ?_)
        | (refine ac_skip ?_; simp only [go_sem])
        | (refine ac_exit ?_; simp only [go_sem, if_true])
        | (refine ac_cond_k fun Kt Kf ht hf => ?_; simp [go_sem]; first | (apply ht; clear ht hf Kt Kf) | (apply hf; clear ht hf Kt Kf)))
      refine ac_ret ?_
      try dsimp only [thenA, blockA]
      refine ⟨by simp, _, rfl, ?_⟩
      refine ret_id ⟨fun k hk => ?_, ?_, ?_, rfl, rfl⟩
      · try dsimp only
        first | rfl | (repeat rw [upd_ne _ _ _ _ (by omega)])
      · simp [go_sem, below]
      · simp [go_sem, hE, ← hgo]
theorem leave_ref (l : Link) (tick : Int) : APure Try.prog 13 [encLink l, iv .i64 tick] (.tup [iv .i64 (leave l tick).1, bv (leave l tick).2]) := by
  intro h n
  refine ACalls.pure (ACalls.entry (by kernel_rfl) fun hb _ => calls_of Try.func13 rfl (by kernel_rfl) (by simp [Try.ntmps13]) ?_)
  cases hr : right l
  · have hr0 : ¬ linkE l = 0 := by rw [linkE_of, hr]; simp
    repeat (first
      | (refine ac_seq_k fun K hK => ?_)
      | (refine ac_region ?_; simp [go_sem, Try.ntmps13 ])
      | (refine ac_draw' mixed (by kernel_rfl) ?_; simp [go_sem, Try.ntmps13, hr0 ])
      | (apply hK; clear hK K)
      | (clear hK K; apply hK; clear hK K)
      | (clear hK K; clear hK K; apply hK; clear hK K)
      | (with_reducible refine APure.call (linked_ref _) ?_; try simp [go_sem ])
      | (refine ac_block ?_)
      | (refine ac_skip ?_; simp only [go_sem])
      | (refine ac_exit ?_; simp only [go_sem, if_true])
      | (refine ac_cond_k fun Kt Kf ht hf => ?_; simp [go_sem, hr0 ]; first | (apply ht; clear ht hf Kt Kf) | (apply hf; clear ht hf Kt Kf)))
    refine ac_ret ?_
    try dsimp only [thenA, blockA]
    refine ⟨by simp, _, rfl, ?_⟩
    refine ret_id ⟨fun k hk => ?_, ?_, ?_, rfl, rfl⟩
    · try dsimp only
      first | rfl | (repeat rw [upd_ne _ _ _ _ (by omega)])
    · simp [go_sem, below, belowL]
    · simp [go_sem, leave, hr]
  have hr0 : linkE l = 0 := linkE_of.2 hr
  have hL : leave l tick = leaveGo l.delay tick l.opn := by simp [leave, hr]
  obtain ⟨d1, d2, o1, o2⟩ := right_spans hr
  repeat (first
    | (refine ac_seq_k fun K hK => ?_)
    | (refine ac_region ?_; simp [go_sem, Try.ntmps13 ])
    | (refine ac_draw' mixed (by kernel_rfl) ?_; simp [go_sem, Try.ntmps13, hr0 ])
    | (apply hK; clear hK K)
    | (clear hK K; apply hK; clear hK K)
    | (clear hK K; clear hK K; apply hK; clear hK K)
    | (with_reducible refine APure.call (linked_ref _) ?_; try simp [go_sem, hr0 ])
    | (refine ac_block ?_)
    | (refine ac_skip ?_; simp only [go_sem])
    | (refine ac_exit ?_; simp only [go_sem, if_true])
    | (refine ac_cond_k fun Kt Kf ht hf => ?_; simp [go_sem ]; first | (apply ht; clear ht hf Kt Kf) | (apply hf; clear ht hf Kt Kf)))
  refine ac_loop_wk (fun s => ∃ k n' : Nat, n < n' ∧ k ≤ l.opn.length ∧ leaveGo l.delay tick (l.opn.drop k) = leaveGo l.delay tick l.opn ∧ s = ⟨38, [(1, iv .i64 tick), (2, .ptr n 0), (6, iv .i64 k)], h.upd n (some (cellsLink l)), n'⟩)
      (fun s => l.opn.length - (intAt s 6).toNat) ?_ ?_
  · skip
    exact loop_start (by simp [go_sem]) (Sub.refl _) ⟨0, _, by omega, by omega, by simp, rfl⟩
  · rintro s ⟨k, n', hn', hk, hgo, rfl⟩
    have fr := far hn'
    have hb' : NB (h.upd n (some (cellsLink l))) n' := hb.nb.upd hn' (by omega)
    by_cases hlt : k < l.opn.length
    · have hltI : (k : Int) < (l.opn.length : Int) := by omega
      obtain ⟨x, hx⟩ : ∃ x, l.opn[k]? = some x := ⟨l.opn[k], List.getElem?_eq_getElem hlt⟩
      have hw : IntKind.i64.wrap ((k : Int) + 1) = ((k + 1 : Nat) : Int) := by rw [wrap64_id] <;> omega
      have hx2 := o2 k x hx
      have hw2 : IntKind.i64.wrap (x.hi - l.delay) = x.hi - l.delay := by rw [wrap64_id] <;> omega
      obtain ⟨M, hM⟩ : ∃ M, M = max x.lo tick := ⟨_, rfl⟩
      have hmx : (if tick < x.lo then x.lo else tick) = M := by split <;> omega
      rw [drop_at hx, leaveGo, ← hM] at hgo
      by_cases c : M ≤ x.hi - l.delay
      · rw [if_pos c] at hgo
        repeat (first
          | (refine ac_seq_k fun K hK => ?_)
          | (refine ac_region ?_; simp [go_sem, hltI, hx, hmx, encSpan])
          | (refine ac_draw' mixed (by kernel_rfl) ?_; simp [go_sem, hx, hw2, encSpan, c])
          | (apply hK; clear hK K)
          | (clear hK K; apply hK; clear hK K)
          | (clear hK K; clear hK K; apply hK; clear hK K)
          | (refine ac_block ?_)
          | (refine ac_skip ?_; simp only [go_sem])
          | (refine ac_exit ?_; simp only [go_sem, if_true])
          | (refine ac_cond_k fun Kt Kf ht hf => ?_; simp [go_sem]; first | (apply ht; clear ht hf Kt Kf) | (apply hf; clear ht hf Kt Kf)))
        refine ac_ret ?_
        try dsimp only [thenA, blockA]
        refine ⟨by simp, _, rfl, ?_⟩
        refine ret_id ⟨fun k hk => ?_, ?_, ?_, rfl, rfl⟩
        · try dsimp only
          first | rfl | (repeat rw [upd_ne _ _ _ _ (by omega)])
        · simp [go_sem, below, belowL]
        · simp [go_sem, hL, ← hgo]
      · rw [if_neg c] at hgo
        repeat (first
          | (refine ac_seq_k fun K hK => ?_)
          | (refine ac_region ?_; simp [go_sem, hltI, hx, hw, hmx, encSpan])
          | (refine ac_draw' mixed (by kernel_rfl) ?_; simp [go_sem, hx, hw2, encSpan, c])
          | (apply hK; clear hK K)
          | (clear hK K; apply hK; clear hK K)
          | (clear hK K; clear hK K; apply hK; clear hK K)
          | (refine ac_block ?_)
          | (refine ac_skip ?_; simp only [go_sem])
          | (refine ac_exit ?_; simp only [go_sem, if_true])
          | (refine ac_cond_k fun Kt Kf ht hf => ?_; simp [go_sem]; first | (apply ht; clear ht hf Kt Kf) | (apply hf; clear ht hf Kt Kf)))
        refine round_end (by simp [go_sem]) (Sub.refl _) ⟨k + 1, _, by omega, by omega, hgo, rfl⟩ (by simp [intAt, go_sem]; omega)
    · have hltI : ¬ (k : Int) < (l.opn.length : Int) := by omega
      have hkl : k = l.opn.length := by omega
      rw [hkl] at hgo
      simp [leaveGo] at hgo
      repeat (first
        | (refine ac_seq_k fun K hK => ?_)
        | (refine ac_region ?_; simp [go_sem, hltI])
        | (refine ac_draw' mixed (by kernel_rfl) ?_; simp [go_sem, hltI])
        | (apply hK; clear hK K)
        | (clear hK K; apply hK; clear hK K)
        | (clear hK K; clear hK K; apply hK; clear hK K)
        | (refine ac_block ?_)
        | (refine ac_skip ?_; simp only [go_sem])
        | (refine ac_exit ?_; simp only [go_sem, if_true])
        | (refine ac_cond_k fun Kt Kf ht hf => ?_; simp [go_sem]; first | (apply ht; clear ht hf Kt Kf) | (apply hf; clear ht hf Kt Kf)))
      refine ac_ret ?_
      try dsimp only [thenA, blockA]
      refine ⟨by simp, _, rfl, ?_⟩
      refine ret_id ⟨fun k hk => ?_, ?_, ?_, rfl, rfl⟩
      · try dsimp only
        first | rfl | (repeat rw [upd_ne _ _ _ _ (by omega)])
      · simp [go_sem, below, belowL]
      · simp [go_sem, hL, ← hgo]
theorem lastGo_neg (delay tick : Int) (ht : tick < 0) (hd : 1 ≤ delay) : ∀ (l : List Span), (∀ s ∈ l, 0 ≤ s.lo) → lastGo delay tick l = (0, false)
  | [], _ => rfl
  | s :: r, h => by
    have := h s (by simp)
    rw [lastGo, if_neg (by omega)]
    exact lastGo_neg delay tick ht hd r fun s hs => h s (by simp [hs])
theorem last_ref (l : Link) (tick : Int) : APure Try.prog 15 [encLink l, iv .i64 tick] (.tup [iv .i64 (last l tick).1, bv (last l tick).2]) := by
  intro h n
  refine ACalls.pure (ACalls.entry (by kernel_rfl) fun hb _ => calls_of Try.func15 rfl (by kernel_rfl) (by simp [Try.ntmps15]) ?_)
  cases hr : right l
  · have hr0 : ¬ linkE l = 0 := by rw [linkE_of, hr]; simp
    repeat (first
      | (refine ac_seq_k fun K hK => ?_)
      | (refine ac_region ?_; simp [go_sem, Try.ntmps15 ])
      | (refine ac_draw' mixed (by kernel_rfl) ?_; simp [go_sem, Try.ntmps15, hr0 ])
      | (apply hK; clear hK K)
      | (clear hK K; apply hK; clear hK K)
      | (clear hK K; clear hK K; apply hK; clear hK K)
      | (with_reducible refine APure.call (linked_ref _) ?_; try simp [go_sem ])
      | (refine ac_block ?_)
      | (refine ac_skip ?_; simp only [go_sem])
      | (refine ac_exit ?_; simp only [go_sem, if_true])
      | (refine ac_cond_k fun Kt Kf ht hf => ?_; simp [go_sem, hr0 ]; first | (apply ht; clear ht hf Kt Kf) | (apply hf; clear ht hf Kt Kf)))
    refine ac_ret ?_
    try dsimp only [thenA, blockA]
    refine ⟨by simp, _, rfl, ?_⟩
    refine ret_id ⟨fun k hk => ?_, ?_, ?_, rfl, rfl⟩
    · try dsimp only
      first | rfl | (repeat rw [upd_ne _ _ _ _ (by omega)])
    · simp [go_sem, below, belowL]
    · simp [go_sem, last, hr]
  have hr0 : linkE l = 0 := linkE_of.2 hr
  have hL : last l tick = lastGo l.delay tick l.opn.reverse := by simp [last, hr]
  obtain ⟨d1, d2, o1, o2⟩ := right_spans hr
  have hw0 : IntKind.i64.wrap ((l.opn.length : Int) - 1) = (l.opn.length : Int) - 1 := by rw [wrap64_id] <;> omega
  repeat (first
    | (refine ac_seq_k fun K hK => ?_)
    | (refine ac_region ?_; simp [go_sem, Try.ntmps15, hw0 ])
    | (refine ac_draw' mixed (by kernel_rfl) ?_; simp [go_sem, Try.ntmps15, hr0, hw0 ])
    | (apply hK; clear hK K)
    | (clear hK K; apply hK; clear hK K)
    | (clear hK K; clear hK K; apply hK; clear hK K)
    | (with_reducible refine APure.call (linked_ref _) ?_; try simp [go_sem, hr0 ])
    | (refine ac_block ?_)
    | (refine ac_skip ?_; simp only [go_sem])
    | (refine ac_exit ?_; simp only [go_sem, if_true])
    | (refine ac_cond_k fun Kt Kf ht hf => ?_; simp [go_sem ]; first | (apply ht; clear ht hf Kt Kf) | (apply hf; clear ht hf Kt Kf)))
  refine ac_loop_wk (fun s => ∃ k n' : Nat, n < n' ∧ k ≤ l.opn.length ∧ lastGo l.delay tick (l.opn.take k).reverse = lastGo l.delay tick l.opn.reverse ∧ s = ⟨43, [(1, iv .i64 tick), (2, .ptr n 0), (6, iv .i64 (k - 1))], h.upd n (some (cellsLink l)), n'⟩)
      (fun s => upAt s 6) ?_ ?_
  · skip
    exact loop_start (by simp [go_sem]) (Sub.refl _) ⟨l.opn.length, _, by omega, by omega, by simp, rfl⟩
  · rintro s ⟨k, n', hn', hk, hgo, rfl⟩
    have fr := far hn'
    have hb' : NB (h.upd n (some (cellsLink l))) n' := hb.nb.upd hn' (by omega)
    by_cases hlt : 0 < k
    · obtain ⟨k, rfl⟩ : ∃ j, k = j + 1 := ⟨k - 1, by omega⟩
      have e1 : ((k + 1 : Nat) : Int) - 1 = (k : Int) := by omega
      rw [e1]
      have hltI : (0 : Int) ≤ k := by omega
      obtain ⟨x, hx⟩ : ∃ x, l.opn[k]? = some x := ⟨l.opn[k], List.getElem?_eq_getElem (by omega)⟩
      have hw : IntKind.i64.wrap ((k : Int) - 1) = (k : Int) - 1 := by rw [wrap64_id] <;> omega
      have hx2 := o2 k x hx
      obtain ⟨M, hM⟩ : ∃ M, M = min x.hi tick := ⟨_, rfl⟩
      have hmx : (if x.hi < tick then x.hi else tick) = M := by split <;> omega
      rw [reverse_at hx, lastGo] at hgo
      by_cases ht : 0 ≤ tick
      · have hw2 : IntKind.i64.wrap (M - l.delay) = M - l.delay := by rw [wrap64_id] <;> omega
        have hM2 : min x.hi (max tick (-1)) = M := by omega
        rw [hM2] at hgo
        by_cases c : x.lo ≤ M - l.delay
        · rw [if_pos c] at hgo
          repeat (first
            | (refine ac_seq_k fun K hK => ?_)
            | (refine ac_region ?_; simp [go_sem, hltI, hx, encSpan, c, ht])
            | (refine ac_draw' mixed (by kernel_rfl) ?_; simp [go_sem, hltI, hx, hw2, hmx, encSpan])
            | (apply hK; clear hK K)
            | (clear hK K; apply hK; clear hK K)
            | (clear hK K; clear hK K; apply hK; clear hK K)
            | (refine ac_block ?_)
            | (refine ac_skip ?_; simp only [go_sem])
            | (refine ac_exit ?_; simp only [go_sem, if_true])
            | (refine ac_cond_k fun Kt Kf ht hf => ?_; simp [go_sem]; first | (apply ht; clear ht hf Kt Kf) | (apply hf; clear ht hf Kt Kf)))
          refine ac_ret ?_
          try dsimp only [thenA, blockA]
          refine ⟨by simp, _, rfl, ?_⟩
          refine ret_id ⟨fun k hk => ?_, ?_, ?_, rfl, rfl⟩
          · try dsimp only
            first | rfl | (repeat rw [upd_ne _ _ _ _ (by omega)])
          · simp [go_sem, below, belowL]
          · simp [go_sem, hL, ← hgo]
        · rw [if_neg c] at hgo
          repeat (first
            | (refine ac_seq_k fun K hK => ?_)
            | (refine ac_region ?_; simp [go_sem, hltI, hx, hw, encSpan, c, ht])
            | (refine ac_draw' mixed (by kernel_rfl) ?_; simp [go_sem, hltI, hx, hw2, hmx, encSpan])
            | (apply hK; clear hK K)
            | (clear hK K; apply hK; clear hK K)
            | (clear hK K; clear hK K; apply hK; clear hK K)
            | (refine ac_block ?_)
            | (refine ac_skip ?_; simp only [go_sem])
            | (refine ac_exit ?_; simp only [go_sem, if_true])
            | (refine ac_cond_k fun Kt Kf ht hf => ?_; simp [go_sem]; first | (apply ht; clear ht hf Kt Kf) | (apply hf; clear ht hf Kt Kf)))
          refine round_end (by simp [go_sem]) (Sub.refl _) ⟨k, _, by omega, by omega, hgo, rfl⟩ (by simp [upAt, intAt, go_sem])
      · rw [if_neg (by omega)] at hgo
        repeat (first
          | (refine ac_seq_k fun K hK => ?_)
          | (refine ac_region ?_; simp [go_sem, hltI, hw, ht])
          | (refine ac_draw' mixed (by kernel_rfl) ?_; simp [go_sem, hltI, hx, hmx, encSpan])
          | (apply hK; clear hK K)
          | (clear hK K; apply hK; clear hK K)
          | (clear hK K; clear hK K; apply hK; clear hK K)
          | (refine ac_block ?_)
          | (refine ac_skip ?_; simp only [go_sem])
          | (refine ac_exit ?_; simp only [go_sem, if_true])
          | (refine ac_cond_k fun Kt Kf ht hf => ?_; simp [go_sem]; first | (apply ht; clear ht hf Kt Kf) | (apply hf; clear ht hf Kt Kf)))
        refine round_end (by simp [go_sem]) (Sub.refl _) ⟨k, _, by omega, by omega, hgo, rfl⟩ (by simp [upAt, intAt, go_sem])
    · obtain rfl : k = 0 := by omega
      simp [lastGo] at hgo
      repeat (first
        | (refine ac_seq_k fun K hK => ?_)
        | (refine ac_region ?_; simp [go_sem])
        | (refine ac_draw' mixed (by kernel_rfl) ?_; simp [go_sem])
        | (apply hK; clear hK K)
        | (clear hK K; apply hK; clear hK K)
        | (clear hK K; clear hK K; apply hK; clear hK K)
        | (refine ac_block ?_)
        | (refine ac_skip ?_; simp only [go_sem])
        | (refine ac_exit ?_; simp only [go_sem, if_true])
        | (refine ac_cond_k fun Kt Kf ht hf => ?_; simp [go_sem]; first | (apply ht; clear ht hf Kt Kf) | (apply hf; clear ht hf Kt Kf)))
      refine ac_ret ?_
      try dsimp only [thenA, blockA]
      refine ⟨by simp, _, rfl, ?_⟩
      refine ret_id ⟨fun k hk => ?_, ?_, ?_, rfl, rfl⟩
      · try dsimp only
        first | rfl | (repeat rw [upd_ne _ _ _ _ (by omega)])
      · simp [go_sem, below, belowL]
      · simp [go_sem, hL, ← hgo]
end Go.AM

namespace Go.AM
open Go.Proofs Nets
set_option maxRecDepth 10000
set_option maxHeartbeats 4000000
abbrev ints (nl : Bool) (l : List Int) : AV := .fslc nl false 1 (l.map (iv .i64))
def idx (p : Int → Bool) (i : Nat) : List Int → Int
  | [] => -1
  | x :: r => if p x then i else idx p (i + 1) r
theorem idx_any (p : Int → Bool) : ∀ (l : List Int) (i : Nat), (0 ≤ idx p i l) ↔ l.any p = true
  | [], _ => by simp [idx]
  | x :: r, i => by
    simp only [idx, List.any_cons, Bool.or_eq_true]
    split
    · simp_all
    · rename_i h; simp [h]; have := idx_any p r (i + 1); simpa using this
theorem index_spec (g : FuncId) (cap : List AV) (nl : Bool) (l : List Int) (p : Int → Bool) (h : AHeap) (n : Nat) (hl : l.length < 1000000) (hc : ∀ x n', n ≤ n' → APureAt Try.prog g (iv .i64 x :: cap) h n' (bv (p x))) :
    APureAt Try.prog 59 [ints nl l, .func (.func g) [] cap] h n (iv .i64 (idx p 0 l)) := by
  refine ACalls.pure (ACalls.entry (by kernel_rfl) fun hb _ => calls_of Try.func59 rfl (by kernel_rfl) (by simp [Try.ntmps59]) ?_)
  repeat (first
    | (refine ac_seq_k fun K hK => ?_)
    | (refine ac_region ?_; simp [go_sem, Try.ntmps59])
    | (refine ac_draw' mixed (by kernel_rfl) ?_; simp [go_sem, Try.ntmps59])
    | (apply hK; clear hK K)
    | (clear hK K; apply hK; clear hK K)
    | (clear hK K; clear hK K; apply hK; clear hK K)
    | (refine ac_block ?_)
    | (refine ac_skip ?_; simp only [go_sem])
    | (refine ac_exit ?_; simp only [go_sem, if_true])
    | (refine ac_cond_k fun Kt Kf ht hf => ?_; simp [go_sem, Try.ntmps59]; first | (apply ht; clear ht hf Kt Kf) | (apply hf; clear ht hf Kt Kf)))
  refine ac_loop_wk (fun s => ∃ k n' : Nat, n ≤ n' ∧ k ≤ l.length ∧ idx p k (l.drop k) = idx p 0 l ∧ s = ⟨19, [(0, ints nl l), (1, .func (.func g) [] cap), (7, iv .i64 l.length), (8, iv .i64 k)], h, n'⟩)
      (fun s => l.length - (intAt s 8).toNat) ?_ ?_
  · skip
    exact loop_start (by simp [go_sem]) (Sub.refl _) ⟨0, _, by omega, by omega, by simp, rfl⟩
  · rintro s ⟨k, n', hn', hk, hgo, rfl⟩
    by_cases hlt : k < l.length
    · have hltI : (k : Int) < (l.length : Int) := by omega
      obtain ⟨x, hx⟩ : ∃ x, l[k]? = some x := ⟨l[k], List.getElem?_eq_getElem hlt⟩
      have hw : IntKind.i64.wrap ((k : Int) + 1) = ((k + 1 : Nat) : Int) := by rw [wrap64_id] <;> omega
      rw [drop_at hx, idx] at hgo
      cases hp : p x
      · simp [hp] at hgo
        repeat (first
          | (refine ac_seq_k fun K hK => ?_)
          | (refine ac_region ?_; simp [go_sem, hltI, hx, hw ])
          | (refine ac_draw' mixed (by kernel_rfl) ?_; simp [go_sem, hltI, hx, hw, hp ])
          | (apply hK; clear hK K)
          | (clear hK K; apply hK; clear hK K)
          | (clear hK K; clear hK K; apply hK; clear hK K)
          | (with_reducible refine APureAt.call (hc _ _ (by omega)) ?_; try simp [go_sem, hp ])
          | (refine ac_block ?_)
          | (refine ac_skip ?_; simp only [go_sem])
          | (refine ac_exit ?_; simp only [go_sem, if_true])
          | (refine ac_cond_k fun Kt Kf ht hf => ?_; simp [go_sem ]; first | (apply ht; clear ht hf Kt Kf) | (apply hf; clear ht hf Kt Kf)))
        refine round_end (by simp [go_sem]) (Sub.refl _) ⟨k + 1, _, by omega, by omega, hgo, rfl⟩ (by simp [intAt, go_sem]; omega)
      · simp [hp] at hgo
        repeat (first
          | (refine ac_seq_k fun K hK => ?_)
          | (refine ac_region ?_; simp [go_sem, hltI, hx ])
          | (refine ac_draw' mixed (by kernel_rfl) ?_; simp [go_sem, hltI, hx, hw, hp ])
          | (apply hK; clear hK K)
          | (clear hK K; apply hK; clear hK K)
          | (clear hK K; clear hK K; apply hK; clear hK K)
          | (with_reducible refine APureAt.call (hc _ _ (by omega)) ?_; try simp [go_sem, hp ])
          | (refine ac_block ?_)
          | (refine ac_skip ?_; simp only [go_sem])
          | (refine ac_exit ?_; simp only [go_sem, if_true])
          | (refine ac_cond_k fun Kt Kf ht hf => ?_; simp [go_sem ]; first | (apply ht; clear ht hf Kt Kf) | (apply hf; clear ht hf Kt Kf)))
        refine ac_ret ?_
        try dsimp only [thenA, blockA]
        refine ⟨by simp, _, rfl, ?_⟩
        refine ret_id ⟨fun k hk => ?_, ?_, ?_, rfl, rfl⟩
        · try dsimp only
          first | rfl | (repeat rw [upd_ne _ _ _ _ (by omega)])
        · simp [go_sem, below]
        · simp [go_sem, ← hgo]
    · have hltI : ¬ (k : Int) < (l.length : Int) := by omega
      have hkl : k = l.length := by omega
      rw [hkl] at hgo
      simp [idx] at hgo
      repeat (first
        | (refine ac_seq_k fun K hK => ?_)
        | (refine ac_region ?_; simp [go_sem, hltI])
        | (refine ac_draw' mixed (by kernel_rfl) ?_; simp [go_sem, hltI])
        | (apply hK; clear hK K)
        | (clear hK K; apply hK; clear hK K)
        | (clear hK K; clear hK K; apply hK; clear hK K)
        | (refine ac_block ?_)
        | (refine ac_skip ?_; simp only [go_sem])
        | (refine ac_exit ?_; simp only [go_sem, if_true])
        | (refine ac_cond_k fun Kt Kf ht hf => ?_; simp [go_sem]; first | (apply ht; clear ht hf Kt Kf) | (apply hf; clear ht hf Kt Kf)))
      refine ac_ret ?_
      try dsimp only [thenA, blockA]
      refine ⟨by simp, _, rfl, ?_⟩
      refine ret_id ⟨fun k hk => ?_, ?_, ?_, rfl, rfl⟩
      · try dsimp only
        first | rfl | (repeat rw [upd_ne _ _ _ _ (by omega)])
      · simp [go_sem, below]
      · simp [go_sem, ← hgo]
theorem contains_spec (g : FuncId) (cap : List AV) (nl : Bool) (l : List Int) (p : Int → Bool) (h : AHeap) (n : Nat) (hl : l.length < 1000000) (hc : ∀ x n', n ≤ n' → APureAt Try.prog g (iv .i64 x :: cap) h n' (bv (p x))) :
    APureAt Try.prog 49 [ints nl l, .func (.func g) [] cap] h n (bv (l.any p)) := by
  refine ACalls.pure (ACalls.entry (by kernel_rfl) fun hb _ => calls_of Try.func49 rfl (by kernel_rfl) (by simp [Try.ntmps49]) ?_)
  have e := idx_any p l 0
  cases ha : l.any p
  · have hi : ¬ 0 ≤ idx p 0 l := by rw [e, ha]; simp
    repeat (first
      | (refine ac_seq_k fun K hK => ?_)
      | (refine ac_region ?_; simp [go_sem, Try.ntmps49 ])
      | (refine ac_draw' mixed (by kernel_rfl) ?_; simp [go_sem, Try.ntmps49, hi ])
      | (apply hK; clear hK K)
      | (clear hK K; apply hK; clear hK K)
      | (clear hK K; clear hK K; apply hK; clear hK K)
      | (with_reducible refine APureAt.call (index_spec _ _ _ _ p _ _ hl (fun x n' h => hc x n' (by omega))) ?_; try simp [go_sem, hi ])
      | (refine ac_block ?_)
      | (refine ac_skip ?_; simp only [go_sem])
      | (refine ac_exit ?_; simp only [go_sem, if_true])
      | (refine ac_cond_k fun Kt Kf ht hf => ?_; simp [go_sem, Try.ntmps49, hi ]; first | (apply ht; clear ht hf Kt Kf) | (apply hf; clear ht hf Kt Kf)))
    refine ac_ret ?_
    try dsimp only [thenA, blockA]
    refine ⟨by simp, _, rfl, ?_⟩
    refine ret_id ⟨fun k hk => ?_, ?_, ?_, rfl, rfl⟩
    · try dsimp only
      first | rfl | (repeat rw [upd_ne _ _ _ _ (by omega)])
    · simp [go_sem, below]
    · simp [go_sem]
  · have hi : 0 ≤ idx p 0 l := by rw [e, ha]
    repeat (first
      | (refine ac_seq_k fun K hK => ?_)
      | (refine ac_region ?_; simp [go_sem, Try.ntmps49 ])
      | (refine ac_draw' mixed (by kernel_rfl) ?_; simp [go_sem, Try.ntmps49, hi ])
      | (apply hK; clear hK K)
      | (clear hK K; apply hK; clear hK K)
      | (clear hK K; clear hK K; apply hK; clear hK K)
      | (with_reducible refine APureAt.call (index_spec _ _ _ _ p _ _ hl (fun x n' h => hc x n' (by omega))) ?_; try simp [go_sem, hi ])
      | (refine ac_block ?_)
      | (refine ac_skip ?_; simp only [go_sem])
      | (refine ac_exit ?_; simp only [go_sem, if_true])
      | (refine ac_cond_k fun Kt Kf ht hf => ?_; simp [go_sem, Try.ntmps49, hi ]; first | (apply ht; clear ht hf Kt Kf) | (apply hf; clear ht hf Kt Kf)))
    refine ac_ret ?_
    try dsimp only [thenA, blockA]
    refine ⟨by simp, _, rfl, ?_⟩
    refine ret_id ⟨fun k hk => ?_, ?_, ?_, rfl, rfl⟩
    · try dsimp only
      first | rfl | (repeat rw [upd_ne _ _ _ _ (by omega)])
    · simp [go_sem, below]
    · simp [go_sem]
theorem askedf_spec (N : Net) (s : Int) (a : Nat) (h : AHeap) (n : Nat) (ha : h a = some (cellsNet N)) (h1 : 1 ≤ N.st) (h2 : N.st ≤ 10) : APureAt Try.prog 57 [iv .i64 s, .ptr a 0] h n (bv (!within s 0 (N.st - 1))) := by
  refine ACalls.pure (ACalls.entry (by kernel_rfl) fun hb _ => calls_of Try.func57 rfl (by kernel_rfl) (by simp [Try.ntmps57]) ?_)
  repeat (first
    | (refine ac_seq_k fun K hK => ?_)
    | (refine ac_region ?_; simp [go_sem, Try.ntmps57, ha ])
    | (refine ac_draw' mixed (by kernel_rfl) ?_; simp [go_sem, Try.ntmps57, ha ])
    | (apply hK; clear hK K)
    | (clear hK K; apply hK; clear hK K)
    | (clear hK K; clear hK K; apply hK; clear hK K)
    | (with_reducible refine APure.call (station_spec _ _ h1 h2) ?_; try simp [go_sem ])
    | (refine ac_block ?_)
    | (refine ac_skip ?_; simp only [go_sem])
    | (refine ac_exit ?_; simp only [go_sem, if_true])
    | (refine ac_cond_k fun Kt Kf ht hf => ?_; simp [go_sem, Try.ntmps57, ha ]; first | (apply ht; clear ht hf Kt Kf) | (apply hf; clear ht hf Kt Kf)))
  refine ac_ret ?_
  try dsimp only [thenA, blockA]
  refine ⟨by simp, _, rfl, ?_⟩
  refine ret_id ⟨fun k hk => ?_, ?_, ?_, rfl, rfl⟩
  · try dsimp only
    first | rfl | (repeat rw [upd_ne _ _ _ _ (by omega)])
  · simp [go_sem, below]
  · simp [go_sem]
theorem boundf_spec (s : Int) (h : AHeap) (n : Nat) : APureAt Try.prog 50 [iv .i64 s] h n (bv (!within s (-1) 1048576)) := by
  refine ACalls.pure (ACalls.entry (by kernel_rfl) fun hb _ => calls_of Try.func50 rfl (by kernel_rfl) (by simp [Try.ntmps50]) ?_)
  repeat (first
    | (refine ac_seq_k fun K hK => ?_)
    | (refine ac_region ?_; simp [go_sem, Try.ntmps50 ])
    | (refine ac_draw' mixed (by kernel_rfl) ?_; simp [go_sem, Try.ntmps50 ])
    | (apply hK; clear hK K)
    | (clear hK K; apply hK; clear hK K)
    | (clear hK K; clear hK K; apply hK; clear hK K)
    | (with_reducible refine APure.call (within_spec _ _ _) ?_; try simp [go_sem ])
    | (refine ac_block ?_)
    | (refine ac_skip ?_; simp only [go_sem])
    | (refine ac_exit ?_; simp only [go_sem, if_true])
    | (refine ac_cond_k fun Kt Kf ht hf => ?_; simp [go_sem, Try.ntmps50 ]; first | (apply ht; clear ht hf Kt Kf) | (apply hf; clear ht hf Kt Kf)))
  refine ac_ret ?_
  try dsimp only [thenA, blockA]
  refine ⟨by simp, _, rfl, ?_⟩
  refine ret_id ⟨fun k hk => ?_, ?_, ?_, rfl, rfl⟩
  · try dsimp only
    first | rfl | (repeat rw [upd_ne _ _ _ _ (by omega)])
  · simp [go_sem, below]
  · simp [go_sem]
def askedE (N : Net) (tick : Int) (l : List Int) : Int :=
  if checkE N ≠ 0 then checkE N else if l.any (fun s => !within s 0 (N.st - 1)) || !within tick 0 1048576 then 1 else 0
theorem checkE_st {N : Net} (h : checkE N = 0) : 1 ≤ N.st ∧ N.st ≤ 10 := by
  unfold checkE at h
  split at h
  · simpa [within] using ‹within N.st 1 10 = true›
  · cases h
theorem asked_spec (N : Net) (tick : Int) (nl : Bool) (l : List Int) (hl : l.length < 1000000) : APure Try.prog 42 [encNet N, iv .i64 tick, ints nl l] (iv .i64 (askedE N tick l)) := by
  intro h n
  refine ACalls.pure (ACalls.entry (by kernel_rfl) fun hb _ => calls_of Try.func42 rfl (by kernel_rfl) (by simp [Try.ntmps42]) ?_)
  by_cases he : checkE N = 0
  · obtain ⟨h1, h2⟩ := checkE_st he
    cases c1 : l.any (fun s => !within s 0 (N.st - 1))
    · cases c2 : within tick 0 1048576
      · skip
        repeat (first
          | (refine ac_seq_k fun K hK => ?_)
          | (refine ac_region ?_; simp [go_sem, Try.ntmps42 ])
          | (refine ac_draw' mixed (by kernel_rfl) ?_; simp [go_sem, Try.ntmps42, he, c1, c2 ])
          | (apply hK; clear hK K)
          | (clear hK K; apply hK; clear hK K)
          | (clear hK K; clear hK K; apply hK; clear hK K)
          | (with_reducible refine APure.call (check_spec _) ?_; try simp [go_sem, he ])
          | (with_reducible refine APure.call (within_spec _ _ _) ?_; try simp [go_sem, c2 ])
          | (with_reducible refine APureAt.call (contains_spec 57 _ nl l (fun s => !within s 0 (N.st - 1)) _ _ hl (fun x n' _ => askedf_spec N x n _ _ (by simp [upd_same]) h1 h2)) ?_; try simp [go_sem, c1 ])
          | (refine ac_block ?_)
          | (refine ac_skip ?_; simp only [go_sem])
          | (refine ac_exit ?_; simp only [go_sem, if_true])
          | (refine ac_cond_k fun Kt Kf ht hf => ?_; simp [go_sem ]; first | (apply ht; clear ht hf Kt Kf) | (apply hf; clear ht hf Kt Kf)))
        refine ac_ret ?_
        try dsimp only [thenA, blockA]
        refine ⟨by simp, _, rfl, ?_⟩
        refine ret_id ⟨fun k hk => ?_, ?_, ?_, rfl, rfl⟩
        · try dsimp only
          first | rfl | (repeat rw [upd_ne _ _ _ _ (by omega)])
        · simp [go_sem, below]
        · simp [go_sem, askedE, he, c1, c2]
      · skip
        repeat (first
          | (refine ac_seq_k fun K hK => ?_)
          | (refine ac_region ?_; simp [go_sem, Try.ntmps42 ])
          | (refine ac_draw' mixed (by kernel_rfl) ?_; simp [go_sem, Try.ntmps42, he, c1, c2 ])
          | (apply hK; clear hK K)
          | (clear hK K; apply hK; clear hK K)
          | (clear hK K; clear hK K; apply hK; clear hK K)
          | (with_reducible refine APure.call (check_spec _) ?_; try simp [go_sem, he ])
          | (with_reducible refine APure.call (within_spec _ _ _) ?_; try simp [go_sem, c2 ])
          | (with_reducible refine APureAt.call (contains_spec 57 _ nl l (fun s => !within s 0 (N.st - 1)) _ _ hl (fun x n' _ => askedf_spec N x n _ _ (by simp [upd_same]) h1 h2)) ?_; try simp [go_sem, c1 ])
          | (refine ac_block ?_)
          | (refine ac_skip ?_; simp only [go_sem])
          | (refine ac_exit ?_; simp only [go_sem, if_true])
          | (refine ac_cond_k fun Kt Kf ht hf => ?_; simp [go_sem ]; first | (apply ht; clear ht hf Kt Kf) | (apply hf; clear ht hf Kt Kf)))
        refine ac_ret ?_
        try dsimp only [thenA, blockA]
        refine ⟨by simp, _, rfl, ?_⟩
        refine ret_id ⟨fun k hk => ?_, ?_, ?_, rfl, rfl⟩
        · try dsimp only
          first | rfl | (repeat rw [upd_ne _ _ _ _ (by omega)])
        · simp [go_sem, below]
        · simp [go_sem, askedE, he, c1, c2]
    · skip
      repeat (first
        | (refine ac_seq_k fun K hK => ?_)
        | (refine ac_region ?_; simp [go_sem, Try.ntmps42 ])
        | (refine ac_draw' mixed (by kernel_rfl) ?_; simp [go_sem, Try.ntmps42, he, c1 ])
        | (apply hK; clear hK K)
        | (clear hK K; apply hK; clear hK K)
        | (clear hK K; clear hK K; apply hK; clear hK K)
        | (with_reducible refine APure.call (check_spec _) ?_; try simp [go_sem, he ])
        | (with_reducible refine APure.call (within_spec _ _ _) ?_; try simp [go_sem, Try.ntmps42, he, c1 ])
        | (with_reducible refine APureAt.call (contains_spec 57 _ nl l (fun s => !within s 0 (N.st - 1)) _ _ hl (fun x n' _ => askedf_spec N x n _ _ (by simp [upd_same]) h1 h2)) ?_; try simp [go_sem, c1 ])
        | (refine ac_block ?_)
        | (refine ac_skip ?_; simp only [go_sem])
        | (refine ac_exit ?_; simp only [go_sem, if_true])
        | (refine ac_cond_k fun Kt Kf ht hf => ?_; simp [go_sem ]; first | (apply ht; clear ht hf Kt Kf) | (apply hf; clear ht hf Kt Kf)))
      refine ac_ret ?_
      try dsimp only [thenA, blockA]
      refine ⟨by simp, _, rfl, ?_⟩
      refine ret_id ⟨fun k hk => ?_, ?_, ?_, rfl, rfl⟩
      · try dsimp only
        first | rfl | (repeat rw [upd_ne _ _ _ _ (by omega)])
      · simp [go_sem, below]
      · simp [go_sem, askedE, he, c1]
  · skip
    repeat (first
      | (refine ac_seq_k fun K hK => ?_)
      | (refine ac_region ?_; simp [go_sem, Try.ntmps42 ])
      | (refine ac_draw' mixed (by kernel_rfl) ?_; simp [go_sem, Try.ntmps42, he ])
      | (apply hK; clear hK K)
      | (clear hK K; apply hK; clear hK K)
      | (clear hK K; clear hK K; apply hK; clear hK K)
      | (with_reducible refine APure.call (check_spec _) ?_; try simp [go_sem ])
      | (refine ac_block ?_)
      | (refine ac_skip ?_; simp only [go_sem])
      | (refine ac_exit ?_; simp only [go_sem, if_true])
      | (refine ac_cond_k fun Kt Kf ht hf => ?_; simp [go_sem, he ]; first | (apply ht; clear ht hf Kt Kf) | (apply hf; clear ht hf Kt Kf)))
    refine ac_ret ?_
    try dsimp only [thenA, blockA]
    refine ⟨by simp, _, rfl, ?_⟩
    refine ret_id ⟨fun k hk => ?_, ?_, ?_, rfl, rfl⟩
    · try dsimp only
      first | rfl | (repeat rw [upd_ne _ _ _ _ (by omega)])
    · simp [go_sem, below]
    · simp [go_sem, askedE, he]
end Go.AM

namespace Go.AM
open Go.Proofs Nets
set_option maxRecDepth 10000
set_option maxHeartbeats 4000000
theorem best_spec (least : Bool) (h : AHeap) (n : Nat) (K : AV → AHeap → Nat → Prop) (hk : K (.func (.func 58) [] [.ptr n 0]) (h.upd n (some (.cells [bv least]))) (n + 2 + 2)) : ACalls Try.prog 46 [bv least] h n K := by
  refine ACalls.entry (by kernel_rfl) fun hb _ => calls_of Try.func46 rfl (by kernel_rfl) (by simp [Try.ntmps46]) ?_
  repeat (first
    | (refine ac_seq_k fun K hK => ?_)
    | (refine ac_region ?_; simp [go_sem, Try.ntmps46])
    | (refine ac_draw' mixed (by kernel_rfl) ?_; simp [go_sem, Try.ntmps46])
    | (apply hK; clear hK K)
    | (clear hK K; apply hK; clear hK K)
    | (clear hK K; clear hK K; apply hK; clear hK K)
    | (refine ac_block ?_)
    | (refine ac_skip ?_; simp only [go_sem])
    | (refine ac_exit ?_; simp only [go_sem, if_true])
    | (refine ac_cond_k fun Kt Kf ht hf => ?_; simp [go_sem, Try.ntmps46]; first | (apply ht; clear ht hf Kt Kf) | (apply hf; clear ht hf Kt Kf)))
  refine ac_ret ?_
  try dsimp only [thenA, blockA]
  refine ⟨by simp, _, rfl, ?_⟩
  exact ret_id hk
theorem better_no (least : Bool) (a off b : Nat) (c : List AV) (v x : Int) (h : AHeap) (n : Nat) (ha : h a = some (.cells c)) (hc : c.drop off = iv .i64 v :: c.drop (off + 1)) (hb : h b = some (.cells [bv least])) (hn : better least v x = false) :
    APureAt Try.prog 58 [.ptr a off, iv .i64 x, .ptr b 0] h n (bv false) := by
  refine ACalls.pure (ACalls.entry (by kernel_rfl) fun hb' _ => calls_of Try.func58 rfl (by kernel_rfl) (by simp [Try.ntmps58]) ?_)
  cases least
  · simp [better] at hn
    obtain ⟨c1, c2⟩ := hn
    have c1' : ¬ v < 0 := by omega
    have c2' : ¬ v < x := by omega
    repeat (first
      | (refine ac_seq_k fun K hK => ?_)
      | (refine ac_region ?_; simp [go_sem, Try.ntmps58, ha, hc, hb, c1', c2'])
      | (refine ac_draw' mixed (by kernel_rfl) ?_; simp [go_sem, Try.ntmps58, ha, hc, hb, c1', c2'])
      | (apply hK; clear hK K)
      | (clear hK K; apply hK; clear hK K)
      | (clear hK K; clear hK K; apply hK; clear hK K)
      | (refine ac_block ?_)
      | (refine ac_skip ?_; simp only [go_sem])
      | (refine ac_exit ?_; simp only [go_sem, if_true])
      | (refine ac_cond_k fun Kt Kf ht hf => ?_; simp [go_sem]; first | (apply ht; clear ht hf Kt Kf) | (apply hf; clear ht hf Kt Kf)))
    refine ac_ret ?_
    try dsimp only [thenA, blockA]
    refine ⟨by simp, _, rfl, ?_⟩
    refine ret_id ⟨fun k hk => ?_, ?_, ?_, rfl, rfl⟩
    · try dsimp only
      first | rfl | (repeat rw [upd_ne _ _ _ _ (by omega)])
    · simp [go_sem, below]
    · simp [go_sem]
  · simp [better] at hn
    obtain ⟨c1, c2⟩ := hn
    have c1' : ¬ v < 0 := by omega
    have c2' : ¬ x < v := by omega
    repeat (first
      | (refine ac_seq_k fun K hK => ?_)
      | (refine ac_region ?_; simp [go_sem, Try.ntmps58, ha, hc, hb, c1', c2'])
      | (refine ac_draw' mixed (by kernel_rfl) ?_; simp [go_sem, Try.ntmps58, ha, hc, hb, c1', c2'])
      | (apply hK; clear hK K)
      | (clear hK K; apply hK; clear hK K)
      | (clear hK K; clear hK K; apply hK; clear hK K)
      | (refine ac_block ?_)
      | (refine ac_skip ?_; simp only [go_sem])
      | (refine ac_exit ?_; simp only [go_sem, if_true])
      | (refine ac_cond_k fun Kt Kf ht hf => ?_; simp [go_sem]; first | (apply ht; clear ht hf Kt Kf) | (apply hf; clear ht hf Kt Kf)))
    refine ac_ret ?_
    try dsimp only [thenA, blockA]
    refine ⟨by simp, _, rfl, ?_⟩
    refine ret_id ⟨fun k hk => ?_, ?_, ?_, rfl, rfl⟩
    · try dsimp only
      first | rfl | (repeat rw [upd_ne _ _ _ _ (by omega)])
    · simp [go_sem, below]
    · simp [go_sem]
theorem set_take {α β : Type} (f : α → β) {l : List α} {k : Nat} {x : α} (hk : k < l.length) : (l.map f).take k ++ f x :: (l.map f).drop (k + 1) = (l.set k x).map f := by
  rw [List.set_eq_take_append_cons_drop, if_pos hk]; simp [List.map_take, List.map_drop]
theorem better_yes (least : Bool) (a k b : Nat) (l : List Int) (v x : Int) (h : AHeap) (n : Nat) (ha : h a = some (.cells (l.map (iv .i64)))) (hv : l[k]? = some v) (hb : h b = some (.cells [bv least])) (hn : better least v x = true) :
    ATurn Try.prog 58 [.ptr a k, iv .i64 x, .ptr b 0] h n (bv true) (h.upd a (some (.cells ((l.set k x).map (iv .i64))))) := by
  refine ACalls.entry (by kernel_rfl) fun hb' _ => ?_
  have han := (hb' a _ ha).1
  have hkl := (List.getElem?_eq_some_iff.1 hv).1
  refine ACalls.keep (h.upd a (some (.cells ((l.set k x).map (iv .i64))))) (hb'.set han ?_) (calls_of Try.func58 rfl (by kernel_rfl) (by simp [Try.ntmps58]) ?_)
  · simp only [belowO, belowL_iff, List.mem_map]; rintro _ ⟨y, _, rfl⟩; simp [below]
  have hk1 : k + 1 ≤ l.length := hkl
  have hgk : l[k] = v := (List.getElem?_eq_some_iff.1 hv).2
  have hst := set_take (iv .i64) (x := x) hkl
  cases least
  · by_cases c1 : v < 0
    · skip
      repeat (first
        | (refine ac_seq_k fun K hK => ?_)
        | (refine ac_region ?_; simp [go_sem, Try.ntmps58, ha, hgk, c1, hkl, hk1])
        | (refine ac_draw' mixed (by kernel_rfl) ?_; simp [go_sem, Try.ntmps58, ha, hb, hgk, c1, hkl, hk1])
        | (apply hK; clear hK K)
        | (clear hK K; apply hK; clear hK K)
        | (clear hK K; clear hK K; apply hK; clear hK K)
        | (refine ac_block ?_)
        | (refine ac_skip ?_; simp only [go_sem])
        | (refine ac_exit ?_; simp only [go_sem, if_true])
        | (refine ac_cond_k fun Kt Kf ht hf => ?_; simp [go_sem]; first | (apply ht; clear ht hf Kt Kf) | (apply hf; clear ht hf Kt Kf)))
      refine ac_ret ?_
      try dsimp only [thenA, blockA]
      refine ⟨by simp, _, rfl, ?_⟩
      refine ret_id ⟨fun j hj => ?_, ?_, ?_, rfl, rfl⟩
      · rw [hst]
      · simp [go_sem, below]
      · simp [go_sem]
    · have c2 : v < x := by simpa [better, c1] using hn
      repeat (first
        | (refine ac_seq_k fun K hK => ?_)
        | (refine ac_region ?_; simp [go_sem, Try.ntmps58, ha, hb, hgk, c1, c2, hkl, hk1])
        | (refine ac_draw' mixed (by kernel_rfl) ?_; simp [go_sem, Try.ntmps58, ha, hb, hgk, c1, c2, hkl, hk1])
        | (apply hK; clear hK K)
        | (clear hK K; apply hK; clear hK K)
        | (clear hK K; clear hK K; apply hK; clear hK K)
        | (refine ac_block ?_)
        | (refine ac_skip ?_; simp only [go_sem])
        | (refine ac_exit ?_; simp only [go_sem, if_true])
        | (refine ac_cond_k fun Kt Kf ht hf => ?_; simp [go_sem]; first | (apply ht; clear ht hf Kt Kf) | (apply hf; clear ht hf Kt Kf)))
      refine ac_ret ?_
      try dsimp only [thenA, blockA]
      refine ⟨by simp, _, rfl, ?_⟩
      refine ret_id ⟨fun j hj => ?_, ?_, ?_, rfl, rfl⟩
      · rw [hst]
      · simp [go_sem, below]
      · simp [go_sem]
  · by_cases c1 : v < 0
    · skip
      repeat (first
        | (refine ac_seq_k fun K hK => ?_)
        | (refine ac_region ?_; simp [go_sem, Try.ntmps58, ha, hgk, c1, hkl, hk1])
        | (refine ac_draw' mixed (by kernel_rfl) ?_; simp [go_sem, Try.ntmps58, ha, hb, hgk, c1, hkl, hk1])
        | (apply hK; clear hK K)
        | (clear hK K; apply hK; clear hK K)
        | (clear hK K; clear hK K; apply hK; clear hK K)
        | (refine ac_block ?_)
        | (refine ac_skip ?_; simp only [go_sem])
        | (refine ac_exit ?_; simp only [go_sem, if_true])
        | (refine ac_cond_k fun Kt Kf ht hf => ?_; simp [go_sem]; first | (apply ht; clear ht hf Kt Kf) | (apply hf; clear ht hf Kt Kf)))
      refine ac_ret ?_
      try dsimp only [thenA, blockA]
      refine ⟨by simp, _, rfl, ?_⟩
      refine ret_id ⟨fun j hj => ?_, ?_, ?_, rfl, rfl⟩
      · rw [hst]
      · simp [go_sem, below]
      · simp [go_sem]
    · have c2 : x < v := by simpa [better, c1] using hn
      repeat (first
        | (refine ac_seq_k fun K hK => ?_)
        | (refine ac_region ?_; simp [go_sem, Try.ntmps58, ha, hb, hgk, c1, c2, hkl, hk1])
        | (refine ac_draw' mixed (by kernel_rfl) ?_; simp [go_sem, Try.ntmps58, ha, hb, hgk, c1, c2, hkl, hk1])
        | (apply hK; clear hK K)
        | (clear hK K; apply hK; clear hK K)
        | (clear hK K; clear hK K; apply hK; clear hK K)
        | (refine ac_block ?_)
        | (refine ac_skip ?_; simp only [go_sem])
        | (refine ac_exit ?_; simp only [go_sem, if_true])
        | (refine ac_cond_k fun Kt Kf ht hf => ?_; simp [go_sem]; first | (apply ht; clear ht hf Kt Kf) | (apply hf; clear ht hf Kt Kf)))
      refine ac_ret ?_
      try dsimp only [thenA, blockA]
      refine ⟨by simp, _, rfl, ?_⟩
      refine ret_id ⟨fun j hj => ?_, ?_, ?_, rfl, rfl⟩
      · rw [hst]
      · simp [go_sem, below]
      · simp [go_sem]
end Go.AM
