/- Clones; a line is the same, by the program. Conditions: as each theorem says. -/
import Derived.Test.YtabidiilbgakoaaGreatDoorVa
namespace Go.AM
open Go.Proofs Cw Du
set_option maxRecDepth 10000
set_option maxHeartbeats 4000000
theorem ACalls.retV {P : Program} {f : FuncId} {args : List AV} {h : AHeap} {n : Nat} {K : AV → AHeap → Nat → Prop} [Vars] (hc : ACalls P f args h n fun x h' n' => RetOk n K x h' n') : ACalls P f args h n K := by
  refine ⟨hc.1, fun w0 G w vs I hf hr => (hc.2 w0 G w vs I hf hr).mono ?_⟩
  rintro e w' ⟨G', r, x, h', n', e1, ⟨e2, eo⟩, e3, e4, e5, e6, x2, h2, n2, hs, hk⟩
  obtain ⟨G2, ⟨f1, fo⟩, f2, f3, f4, f5⟩ := hs w0 G' w' r e3 e4 e6 e5
  exact ⟨G2, r, x2, h2, n2, e1, ⟨e2.trans f1, fo.trans eo⟩, f2, f3, f5, f4, hk⟩
def clV (s m : Nat) (nl : Bool) (L : List AV) : AV := if L = [] then (if nl then .fslc true true 0 [] else .fslc false true s []) else .slc m 0 L.length s
theorem flat_iv : ∀ xs : List Int, flat (xs.map (iv .i64)) = xs.map (iv .i64)
  | [] => rfl
  | x :: r => by
    have := flat_iv r
    simp only [flat, List.map_cons, List.flatten_cons, cellsOf] at this ⊢
    rw [this]; rfl
theorem apClLn (nm : Nat) (h : AHeap) (nl' fu' : Bool) (xs : List AV) (hx : xs.length ≠ 0) (hl : xs.length ≤ 67108864) :
    aAppend Tryz.prog nm 23 (.fslc false true 8 []) (.fslc nl' fu' 8 xs) h = some (.slc nm 0 xs.length 8, h.upd nm (some (.cells (flat xs)))) := by
  simp [aAppend, eltOf23, szOf72, byOf72, zerOf72, srcCells, cellsOf, AV.scalar, hx, hl, flat]
theorem apClLn0 (nm : Nat) (h : AHeap) (nl' fu' : Bool) (s : Nat) : aAppend Tryz.prog nm 23 (.fslc false true 8 []) (.fslc nl' fu' s []) h = some (.fslc false true 8 [], h) := by
  by_cases hs : s = 8
  · subst hs; simp [aAppend, eltOf23, szOf72, byOf72, zerOf72, srcCells, cellsOf, AV.scalar, flat]
  · simp [aAppend, eltOf23, szOf72, byOf72, zerOf72, srcCells, cellsOf, AV.scalar, hs]
theorem cloneLn (nl fu : Bool) (s : Nat) (L : List Lin) (hnl : L = [] ∨ nl = false ∧ s = 8) (hl : L.length ≤ 1000000) (h : AHeap) (n : Nat) :
    ACalls Tryz.prog 102 [.fslc nl fu s (L.map encLn)] h n fun r h' n' => ∃ m, n ≤ m ∧ m < n' ∧ r = clV 8 m nl (L.map encLn) ∧ h' m = acO (L.map encLn) ∧ ∀ x, x < n → h' x = h x := by
  refine ACalls.entry (by kernel_rfl) fun hb _ => calls_of Tryz.func102 rfl (by kernel_rfl) (by simp [Tryz.ntmps102]) ?_
  by_cases hL : L = []
  · subst hL
    replace hnl : Hide _ := trivial
    rw [List.map_nil]
    cases nl with
    | true =>
      repeat' (first | (refine ac_seq_h fun K hK => ?_) | (refine ac_region_h fun K hK => ?_; simp (disch := omega) [go_sem, *, Tryz.ntmps102]) | (apply Hide.out hK; clear hK K; try with_reducible dsimp only [thenA]) | (apply Hide.out ht; clear ht hf Kt Kf) | (refine ac_cond_h fun Kt Kf ht hf => ?_; simp (disch := omega) [go_sem, *]; try (refine ⟨fun hc => ?_, fun hc => ?_⟩ <;> try (exfalso; omega))))
      refine ac_ret ?_
      try dsimp only [thenA, blockA]
      refine ⟨by simp, _, (by first | rfl | (simp (disch := omega) [go_sem, upd_ne] <;> rfl)), ?_⟩
      exact ret_id ⟨n, Nat.le_refl _, by (try simp only); omega, rfl, hb.none (Nat.le_refl _), fun x _ => rfl⟩
    | false =>
      have hap := fun nm (g : AHeap) => apClLn0 nm g false fu s
      repeat' (first | (refine ac_seq_h fun K hK => ?_) | (refine ac_region_h fun K hK => ?_; simp (disch := omega) [go_sem, *, Tryz.ntmps102]) | (apply Hide.out hK; clear hK K; try with_reducible dsimp only [thenA]) | (apply Hide.out hf; clear ht hf Kt Kf) | (refine ac_skip ?_; simp only [thenA]) | (refine ac_cond_h fun Kt Kf ht hf => ?_; simp (disch := omega) [go_sem, *]; try (refine ⟨fun hc => ?_, fun hc => ?_⟩ <;> try (exfalso; omega))))
      refine ac_ret ?_
      try dsimp only [thenA, blockA]
      refine ⟨by simp, _, (by first | rfl | (simp (disch := omega) [go_sem, upd_ne] <;> rfl)), ?_⟩
      exact ret_id ⟨n, Nat.le_refl _, by (try simp only); omega, rfl, hb.none (Nat.le_refl _), fun x _ => rfl⟩
  · obtain ⟨rfl, rfl⟩ := hnl.resolve_left hL
    have hne : L.map encLn ≠ [] := by simpa using hL
    have hx : (L.map encLn).length ≠ 0 := by simpa using hL
    have hlen : (L.map encLn).length ≤ 1000000 := by simpa using hl
    generalize List.map encLn L = LL at *
    have hap := fun nm (g : AHeap) => apClLn nm g false fu LL hx (by omega)
    clear hnl hL hl hx
    replace hne : Hide _ := hne
    repeat' (first | (refine ac_seq_h fun K hK => ?_) | (refine ac_region_h fun K hK => ?_; simp (disch := omega) [go_sem, *, Tryz.ntmps102]) | (apply Hide.out hK; clear hK K; try with_reducible dsimp only [thenA]) | (apply Hide.out hf; clear ht hf Kt Kf) | (refine ac_skip ?_; simp only [thenA]) | (refine ac_cond_h fun Kt Kf ht hf => ?_; simp (disch := omega) [go_sem, *]; try (refine ⟨fun hc => ?_, fun hc => ?_⟩ <;> try (exfalso; omega))))
    refine ac_ret ?_
    try dsimp only [thenA, blockA]
    refine ⟨by simp, _, (by first | rfl | (simp (disch := omega) [go_sem, upd_ne] <;> rfl)), ?_⟩
    refine ret_id ⟨_, ?_, ?_, by rw [clV, if_neg hne.out]; rfl, by rw [acO_ne hne.out]; exact upd_same _ _ _, fun x hx => upd_ne _ _ _ _ (by omega)⟩ <;> (try simp only) <;> omega
theorem apClOr (nm : Nat) (h : AHeap) (nl' fu' : Bool) (xs : List AV) (hx : xs.length ≠ 0) (hl : xs.length ≤ 67108864) :
    aAppend Tryz.prog nm 24 (.fslc false true 7 []) (.fslc nl' fu' 7 xs) h = some (.slc nm 0 xs.length 7, h.upd nm (some (.cells (flat xs)))) := by
  simp [aAppend, eltOf24, szOf74, byOf74, zerOf74, srcCells, cellsOf, AV.scalar, hx, hl, flat]
theorem apClOr0 (nm : Nat) (h : AHeap) (nl' fu' : Bool) (s : Nat) : aAppend Tryz.prog nm 24 (.fslc false true 7 []) (.fslc nl' fu' s []) h = some (.fslc false true 7 [], h) := by
  by_cases hs : s = 7
  · subst hs; simp [aAppend, eltOf24, szOf74, byOf74, zerOf74, srcCells, cellsOf, AV.scalar, flat]
  · simp [aAppend, eltOf24, szOf74, byOf74, zerOf74, srcCells, cellsOf, AV.scalar, hs]
theorem cloneOr (nl fu : Bool) (s : Nat) (L : List Ordr) (hnl : L = [] ∨ nl = false ∧ s = 7) (hl : L.length ≤ 1000000) (h : AHeap) (n : Nat) :
    ACalls Tryz.prog 103 [.fslc nl fu s (L.map encO)] h n fun r h' n' => ∃ m, n ≤ m ∧ m < n' ∧ r = clV 7 m nl (L.map encO) ∧ h' m = acO (L.map encO) ∧ ∀ x, x < n → h' x = h x := by
  refine ACalls.entry (by kernel_rfl) fun hb _ => calls_of Tryz.func103 rfl (by kernel_rfl) (by simp [Tryz.ntmps103]) ?_
  by_cases hL : L = []
  · subst hL
    replace hnl : Hide _ := trivial
    rw [List.map_nil]
    cases nl with
    | true =>
      repeat' (first | (refine ac_seq_h fun K hK => ?_) | (refine ac_region_h fun K hK => ?_; simp (disch := omega) [go_sem, *, Tryz.ntmps103]) | (apply Hide.out hK; clear hK K; try with_reducible dsimp only [thenA]) | (apply Hide.out ht; clear ht hf Kt Kf) | (refine ac_cond_h fun Kt Kf ht hf => ?_; simp (disch := omega) [go_sem, *]; try (refine ⟨fun hc => ?_, fun hc => ?_⟩ <;> try (exfalso; omega))))
      refine ac_ret ?_
      try dsimp only [thenA, blockA]
      refine ⟨by simp, _, (by first | rfl | (simp (disch := omega) [go_sem, upd_ne] <;> rfl)), ?_⟩
      exact ret_id ⟨n, Nat.le_refl _, by (try simp only); omega, rfl, hb.none (Nat.le_refl _), fun x _ => rfl⟩
    | false =>
      have hap := fun nm (g : AHeap) => apClOr0 nm g false fu s
      repeat' (first | (refine ac_seq_h fun K hK => ?_) | (refine ac_region_h fun K hK => ?_; simp (disch := omega) [go_sem, *, Tryz.ntmps103]) | (apply Hide.out hK; clear hK K; try with_reducible dsimp only [thenA]) | (apply Hide.out hf; clear ht hf Kt Kf) | (refine ac_skip ?_; simp only [thenA]) | (refine ac_cond_h fun Kt Kf ht hf => ?_; simp (disch := omega) [go_sem, *]; try (refine ⟨fun hc => ?_, fun hc => ?_⟩ <;> try (exfalso; omega))))
      refine ac_ret ?_
      try dsimp only [thenA, blockA]
      refine ⟨by simp, _, (by first | rfl | (simp (disch := omega) [go_sem, upd_ne] <;> rfl)), ?_⟩
      exact ret_id ⟨n, Nat.le_refl _, by (try simp only); omega, rfl, hb.none (Nat.le_refl _), fun x _ => rfl⟩
  · obtain ⟨rfl, rfl⟩ := hnl.resolve_left hL
    have hne : L.map encO ≠ [] := by simpa using hL
    have hx : (L.map encO).length ≠ 0 := by simpa using hL
    have hlen : (L.map encO).length ≤ 1000000 := by simpa using hl
    generalize List.map encO L = LL at *
    have hap := fun nm (g : AHeap) => apClOr nm g false fu LL hx (by omega)
    clear hnl hL hl hx
    replace hne : Hide _ := hne
    repeat' (first | (refine ac_seq_h fun K hK => ?_) | (refine ac_region_h fun K hK => ?_; simp (disch := omega) [go_sem, *, Tryz.ntmps103]) | (apply Hide.out hK; clear hK K; try with_reducible dsimp only [thenA]) | (apply Hide.out hf; clear ht hf Kt Kf) | (refine ac_skip ?_; simp only [thenA]) | (refine ac_cond_h fun Kt Kf ht hf => ?_; simp (disch := omega) [go_sem, *]; try (refine ⟨fun hc => ?_, fun hc => ?_⟩ <;> try (exfalso; omega))))
    refine ac_ret ?_
    try dsimp only [thenA, blockA]
    refine ⟨by simp, _, (by first | rfl | (simp (disch := omega) [go_sem, upd_ne] <;> rfl)), ?_⟩
    refine ret_id ⟨_, ?_, ?_, by rw [clV, if_neg hne.out]; rfl, by rw [acO_ne hne.out]; exact upd_same _ _ _, fun x hx => upd_ne _ _ _ _ (by omega)⟩ <;> (try simp only) <;> omega
theorem apClCd (nm : Nat) (h : AHeap) (nl' fu' : Bool) (xs : List AV) (hx : xs.length ≠ 0) (hl : xs.length ≤ 67108864) :
    aAppend Tryz.prog nm 52 (.fslc false true 5 []) (.fslc nl' fu' 5 xs) h = some (.slc nm 0 xs.length 5, h.upd nm (some (.cells (flat xs)))) := by
  simp [aAppend, eltOf52, szOf54, byOf54, zerOf54, srcCells, cellsOf, AV.scalar, hx, hl, flat]
theorem apClCd0 (nm : Nat) (h : AHeap) (nl' fu' : Bool) (s : Nat) : aAppend Tryz.prog nm 52 (.fslc false true 5 []) (.fslc nl' fu' s []) h = some (.fslc false true 5 [], h) := by
  by_cases hs : s = 5
  · subst hs; simp [aAppend, eltOf52, szOf54, byOf54, zerOf54, srcCells, cellsOf, AV.scalar, flat]
  · simp [aAppend, eltOf52, szOf54, byOf54, zerOf54, srcCells, cellsOf, AV.scalar, hs]
theorem cloneCd (nl fu : Bool) (s : Nat) (L : List Cnd) (hnl : L = [] ∨ nl = false ∧ s = 5) (hl : L.length ≤ 1000000) (h : AHeap) (n : Nat) :
    ACalls Tryz.prog 171 [.fslc nl fu s (L.map encC)] h n fun r h' n' => ∃ m, n ≤ m ∧ m < n' ∧ r = clV 5 m nl (L.map encC) ∧ h' m = acO (L.map encC) ∧ ∀ x, x < n → h' x = h x := by
  refine ACalls.entry (by kernel_rfl) fun hb _ => calls_of Tryz.func171 rfl (by kernel_rfl) (by simp [Tryz.ntmps171]) ?_
  by_cases hL : L = []
  · subst hL
    replace hnl : Hide _ := trivial
    rw [List.map_nil]
    cases nl with
    | true =>
      repeat' (first | (refine ac_seq_h fun K hK => ?_) | (refine ac_region_h fun K hK => ?_; simp (disch := omega) [go_sem, *, Tryz.ntmps171]) | (apply Hide.out hK; clear hK K; try with_reducible dsimp only [thenA]) | (apply Hide.out ht; clear ht hf Kt Kf) | (refine ac_cond_h fun Kt Kf ht hf => ?_; simp (disch := omega) [go_sem, *]; try (refine ⟨fun hc => ?_, fun hc => ?_⟩ <;> try (exfalso; omega))))
      refine ac_ret ?_
      try dsimp only [thenA, blockA]
      refine ⟨by simp, _, (by first | rfl | (simp (disch := omega) [go_sem, upd_ne] <;> rfl)), ?_⟩
      exact ret_id ⟨n, Nat.le_refl _, by (try simp only); omega, rfl, hb.none (Nat.le_refl _), fun x _ => rfl⟩
    | false =>
      have hap := fun nm (g : AHeap) => apClCd0 nm g false fu s
      repeat' (first | (refine ac_seq_h fun K hK => ?_) | (refine ac_region_h fun K hK => ?_; simp (disch := omega) [go_sem, *, Tryz.ntmps171]) | (apply Hide.out hK; clear hK K; try with_reducible dsimp only [thenA]) | (apply Hide.out hf; clear ht hf Kt Kf) | (refine ac_skip ?_; simp only [thenA]) | (refine ac_cond_h fun Kt Kf ht hf => ?_; simp (disch := omega) [go_sem, *]; try (refine ⟨fun hc => ?_, fun hc => ?_⟩ <;> try (exfalso; omega))))
      refine ac_ret ?_
      try dsimp only [thenA, blockA]
      refine ⟨by simp, _, (by first | rfl | (simp (disch := omega) [go_sem, upd_ne] <;> rfl)), ?_⟩
      exact ret_id ⟨n, Nat.le_refl _, by (try simp only); omega, rfl, hb.none (Nat.le_refl _), fun x _ => rfl⟩
  · obtain ⟨rfl, rfl⟩ := hnl.resolve_left hL
    have hne : L.map encC ≠ [] := by simpa using hL
    have hx : (L.map encC).length ≠ 0 := by simpa using hL
    have hlen : (L.map encC).length ≤ 1000000 := by simpa using hl
    generalize List.map encC L = LL at *
    have hap := fun nm (g : AHeap) => apClCd nm g false fu LL hx (by omega)
    clear hnl hL hl hx
    replace hne : Hide _ := hne
    repeat' (first | (refine ac_seq_h fun K hK => ?_) | (refine ac_region_h fun K hK => ?_; simp (disch := omega) [go_sem, *, Tryz.ntmps171]) | (apply Hide.out hK; clear hK K; try with_reducible dsimp only [thenA]) | (apply Hide.out hf; clear ht hf Kt Kf) | (refine ac_skip ?_; simp only [thenA]) | (refine ac_cond_h fun Kt Kf ht hf => ?_; simp (disch := omega) [go_sem, *]; try (refine ⟨fun hc => ?_, fun hc => ?_⟩ <;> try (exfalso; omega))))
    refine ac_ret ?_
    try dsimp only [thenA, blockA]
    refine ⟨by simp, _, (by first | rfl | (simp (disch := omega) [go_sem, upd_ne] <;> rfl)), ?_⟩
    refine ret_id ⟨_, ?_, ?_, by rw [clV, if_neg hne.out]; rfl, by rw [acO_ne hne.out]; exact upd_same _ _ _, fun x hx => upd_ne _ _ _ _ (by omega)⟩ <;> (try simp only) <;> omega
theorem cloneCd0 (nl fu : Bool) (s : Nat) : APure Tryz.prog 171 [.fslc nl fu s []] (clV 5 0 nl []) := by
  intro h n
  refine ACalls.pure (ACalls.retV ((cloneCd nl fu s [] (.inl rfl) (by simp) h n).mono fun r h' n' hp => ?_))
  obtain ⟨m, h1, h2, rfl, h3, h4⟩ := hp
  refine ret_id ⟨h4, ?_, rfl, rfl, rfl⟩
  simp only [clV, List.map_nil, if_true]; split <;> simp [below, belowL]
theorem apClVr (nm : Nat) (h : AHeap) (nl' fu' : Bool) (xs : List AV) (hx : xs.length ≠ 0) (hl : xs.length ≤ 67108864) :
    aAppend Tryz.prog nm 22 (.fslc false true 4 []) (.fslc nl' fu' 4 xs) h = some (.slc nm 0 xs.length 4, h.upd nm (some (.cells (flat xs)))) := by
  simp [aAppend, eltOf22, szOf28, byOf28, zerOf28, srcCells, cellsOf, AV.scalar, hx, hl, flat]
theorem apClVr0 (nm : Nat) (h : AHeap) (nl' fu' : Bool) (s : Nat) : aAppend Tryz.prog nm 22 (.fslc false true 4 []) (.fslc nl' fu' s []) h = some (.fslc false true 4 [], h) := by
  by_cases hs : s = 4
  · subst hs; simp [aAppend, eltOf22, szOf28, byOf28, zerOf28, srcCells, cellsOf, AV.scalar, flat]
  · simp [aAppend, eltOf22, szOf28, byOf28, zerOf28, srcCells, cellsOf, AV.scalar, hs]
theorem cloneVr (nl fu : Bool) (s : Nat) (L : List Ver) (hnl : L = [] ∨ nl = false ∧ s = 4) (hl : L.length ≤ 1000000) (h : AHeap) (n : Nat) :
    ACalls Tryz.prog 48 [.fslc nl fu s (L.map encV)] h n fun r h' n' => ∃ m, n ≤ m ∧ m < n' ∧ r = clV 4 m nl (L.map encV) ∧ h' m = acO (L.map encV) ∧ ∀ x, x < n → h' x = h x := by
  refine ACalls.entry (by kernel_rfl) fun hb _ => calls_of Tryz.func48 rfl (by kernel_rfl) (by simp [Tryz.ntmps48]) ?_
  by_cases hL : L = []
  · subst hL
    replace hnl : Hide _ := trivial
    rw [List.map_nil]
    cases nl with
    | true =>
      repeat' (first | (refine ac_seq_h fun K hK => ?_) | (refine ac_region_h fun K hK => ?_; simp (disch := omega) [go_sem, *, Tryz.ntmps48]) | (apply Hide.out hK; clear hK K; try with_reducible dsimp only [thenA]) | (apply Hide.out ht; clear ht hf Kt Kf) | (refine ac_cond_h fun Kt Kf ht hf => ?_; simp (disch := omega) [go_sem, *]; try (refine ⟨fun hc => ?_, fun hc => ?_⟩ <;> try (exfalso; omega))))
      refine ac_ret ?_
      try dsimp only [thenA, blockA]
      refine ⟨by simp, _, (by first | rfl | (simp (disch := omega) [go_sem, upd_ne] <;> rfl)), ?_⟩
      exact ret_id ⟨n, Nat.le_refl _, by (try simp only); omega, rfl, hb.none (Nat.le_refl _), fun x _ => rfl⟩
    | false =>
      have hap := fun nm (g : AHeap) => apClVr0 nm g false fu s
      repeat' (first | (refine ac_seq_h fun K hK => ?_) | (refine ac_region_h fun K hK => ?_; simp (disch := omega) [go_sem, *, Tryz.ntmps48]) | (apply Hide.out hK; clear hK K; try with_reducible dsimp only [thenA]) | (apply Hide.out hf; clear ht hf Kt Kf) | (refine ac_skip ?_; simp only [thenA]) | (refine ac_cond_h fun Kt Kf ht hf => ?_; simp (disch := omega) [go_sem, *]; try (refine ⟨fun hc => ?_, fun hc => ?_⟩ <;> try (exfalso; omega))))
      refine ac_ret ?_
      try dsimp only [thenA, blockA]
      refine ⟨by simp, _, (by first | rfl | (simp (disch := omega) [go_sem, upd_ne] <;> rfl)), ?_⟩
      exact ret_id ⟨n, Nat.le_refl _, by (try simp only); omega, rfl, hb.none (Nat.le_refl _), fun x _ => rfl⟩
  · obtain ⟨rfl, rfl⟩ := hnl.resolve_left hL
    have hne : L.map encV ≠ [] := by simpa using hL
    have hx : (L.map encV).length ≠ 0 := by simpa using hL
    have hlen : (L.map encV).length ≤ 1000000 := by simpa using hl
    generalize List.map encV L = LL at *
    have hap := fun nm (g : AHeap) => apClVr nm g false fu LL hx (by omega)
    clear hnl hL hl hx
    replace hne : Hide _ := hne
    repeat' (first | (refine ac_seq_h fun K hK => ?_) | (refine ac_region_h fun K hK => ?_; simp (disch := omega) [go_sem, *, Tryz.ntmps48]) | (apply Hide.out hK; clear hK K; try with_reducible dsimp only [thenA]) | (apply Hide.out hf; clear ht hf Kt Kf) | (refine ac_skip ?_; simp only [thenA]) | (refine ac_cond_h fun Kt Kf ht hf => ?_; simp (disch := omega) [go_sem, *]; try (refine ⟨fun hc => ?_, fun hc => ?_⟩ <;> try (exfalso; omega))))
    refine ac_ret ?_
    try dsimp only [thenA, blockA]
    refine ⟨by simp, _, (by first | rfl | (simp (disch := omega) [go_sem, upd_ne] <;> rfl)), ?_⟩
    refine ret_id ⟨_, ?_, ?_, by rw [clV, if_neg hne.out]; rfl, by rw [acO_ne hne.out]; exact upd_same _ _ _, fun x hx => upd_ne _ _ _ _ (by omega)⟩ <;> (try simp only) <;> omega
theorem apClIn (nm : Nat) (h : AHeap) (nl' fu' : Bool) (xs : List AV) (hx : xs.length ≠ 0) (hl : xs.length ≤ 67108864) :
    aAppend Tryz.prog nm 70 (.fslc false true 1 []) (.fslc nl' fu' 1 xs) h = some (.slc nm 0 xs.length 1, h.upd nm (some (.cells (flat xs)))) := by
  simp [aAppend, eltOf70, szOf3, byOf3, zerOf3, srcCells, cellsOf, AV.scalar, hx, hl, flat]
theorem apClIn0 (nm : Nat) (h : AHeap) (nl' fu' : Bool) (s : Nat) : aAppend Tryz.prog nm 70 (.fslc false true 1 []) (.fslc nl' fu' s []) h = some (.fslc false true 1 [], h) := by
  by_cases hs : s = 1
  · subst hs; simp [aAppend, eltOf70, szOf3, byOf3, zerOf3, srcCells, cellsOf, AV.scalar, flat]
  · simp [aAppend, eltOf70, szOf3, byOf3, zerOf3, srcCells, cellsOf, AV.scalar, hs]
theorem cloneIn (nl fu : Bool) (s : Nat) (L : List Int) (hnl : L = [] ∨ nl = false ∧ s = 1) (hl : L.length ≤ 1000000) (h : AHeap) (n : Nat) :
    ACalls Tryz.prog 104 [.fslc nl fu s (L.map (iv .i64))] h n fun r h' n' => ∃ m, n ≤ m ∧ m < n' ∧ r = clV 1 m nl (L.map (iv .i64)) ∧ h' m = acO (L.map (iv .i64)) ∧ ∀ x, x < n → h' x = h x := by
  refine ACalls.entry (by kernel_rfl) fun hb _ => calls_of Tryz.func104 rfl (by kernel_rfl) (by simp [Tryz.ntmps104]) ?_
  by_cases hL : L = []
  · subst hL
    replace hnl : Hide _ := trivial
    rw [List.map_nil]
    cases nl with
    | true =>
      repeat' (first | (refine ac_seq_h fun K hK => ?_) | (refine ac_region_h fun K hK => ?_; simp (disch := omega) [go_sem, *, Tryz.ntmps104]) | (apply Hide.out hK; clear hK K; try with_reducible dsimp only [thenA]) | (apply Hide.out ht; clear ht hf Kt Kf) | (refine ac_cond_h fun Kt Kf ht hf => ?_; simp (disch := omega) [go_sem, *]; try (refine ⟨fun hc => ?_, fun hc => ?_⟩ <;> try (exfalso; omega))))
      refine ac_ret ?_
      try dsimp only [thenA, blockA]
      refine ⟨by simp, _, (by first | rfl | (simp (disch := omega) [go_sem, upd_ne] <;> rfl)), ?_⟩
      exact ret_id ⟨n, Nat.le_refl _, by (try simp only); omega, rfl, hb.none (Nat.le_refl _), fun x _ => rfl⟩
    | false =>
      have hap := fun nm (g : AHeap) => apClIn0 nm g false fu s
      repeat' (first | (refine ac_seq_h fun K hK => ?_) | (refine ac_region_h fun K hK => ?_; simp (disch := omega) [go_sem, *, Tryz.ntmps104]) | (apply Hide.out hK; clear hK K; try with_reducible dsimp only [thenA]) | (apply Hide.out hf; clear ht hf Kt Kf) | (refine ac_skip ?_; simp only [thenA]) | (refine ac_cond_h fun Kt Kf ht hf => ?_; simp (disch := omega) [go_sem, *]; try (refine ⟨fun hc => ?_, fun hc => ?_⟩ <;> try (exfalso; omega))))
      refine ac_ret ?_
      try dsimp only [thenA, blockA]
      refine ⟨by simp, _, (by first | rfl | (simp (disch := omega) [go_sem, upd_ne] <;> rfl)), ?_⟩
      exact ret_id ⟨n, Nat.le_refl _, by (try simp only); omega, rfl, hb.none (Nat.le_refl _), fun x _ => rfl⟩
  · obtain ⟨rfl, rfl⟩ := hnl.resolve_left hL
    have hne : L.map (iv .i64) ≠ [] := by simpa using hL
    have hx : (L.map (iv .i64)).length ≠ 0 := by simpa using hL
    have hlen : (L.map (iv .i64)).length ≤ 1000000 := by simpa using hl
    generalize List.map (iv .i64) L = LL at *
    have hap := fun nm (g : AHeap) => apClIn nm g false fu LL hx (by omega)
    clear hnl hL hl hx
    replace hne : Hide _ := hne
    repeat' (first | (refine ac_seq_h fun K hK => ?_) | (refine ac_region_h fun K hK => ?_; simp (disch := omega) [go_sem, *, Tryz.ntmps104]) | (apply Hide.out hK; clear hK K; try with_reducible dsimp only [thenA]) | (apply Hide.out hf; clear ht hf Kt Kf) | (refine ac_skip ?_; simp only [thenA]) | (refine ac_cond_h fun Kt Kf ht hf => ?_; simp (disch := omega) [go_sem, *]; try (refine ⟨fun hc => ?_, fun hc => ?_⟩ <;> try (exfalso; omega))))
    refine ac_ret ?_
    try dsimp only [thenA, blockA]
    refine ⟨by simp, _, (by first | rfl | (simp (disch := omega) [go_sem, upd_ne] <;> rfl)), ?_⟩
    refine ret_id ⟨_, ?_, ?_, by rw [clV, if_neg hne.out]; rfl, by rw [acO_ne hne.out]; exact upd_same _ _ _, fun x hx => upd_ne _ _ _ _ (by omega)⟩ <;> (try simp only) <;> omega
theorem flat_at {s : Nat} (A B : List AV) (x : AV) (hA : ∀ y ∈ A, (cellsOf y).length = s) (hx : (cellsOf x).length = s) :
    List.drop (A.length * s) (flat (A ++ x :: B)) = cellsOf x ++ flat B ∧ List.take (A.length * s) (flat (A ++ x :: B)) = flat A ∧ List.drop (A.length * s + s) (flat (A ++ x :: B)) = flat B := by
  have e1 : flat (A ++ x :: B) = flat A ++ (cellsOf x ++ flat B) := by simp [flat]
  have e2 := flat_len hA
  rw [e1]
  refine ⟨by rw [← e2, List.drop_left], by rw [← e2, List.take_left], ?_⟩
  rw [← e2, ← List.drop_drop, List.drop_left, ← hx, List.drop_left]
def clI (nl : Bool) (xs : List Int) : AV := if xs = [] then (if nl then .fslc true true 0 [] else .fslc false true 1 []) else .fslc false false 1 (xs.map (iv .i64))
theorem cloneI (nl fu : Bool) (s : Nat) (xs : List Int) (hnl : xs = [] ∨ nl = false ∧ s = 1) (hl : xs.length ≤ 1000000) : APure Tryz.prog 104 [.fslc nl fu s (xs.map (iv .i64))] (clI nl xs) := by
  intro h n
  refine ACalls.pure (ACalls.retV ((cloneIn nl fu s xs hnl hl h n).mono fun r h' n' hp => ?_))
  obtain ⟨m, h1, h2, rfl, h3, h4⟩ := hp
  by_cases hx : xs = []
  · subst hx
    refine ret_id ⟨h4, ?_, ?_, rfl, rfl⟩
    · simp only [clV, List.map_nil, if_true]; split <;> simp [below, belowL]
    · simp only [clV, clI, List.map_nil, if_true]
  · have hne : xs.map (iv .i64) ≠ [] := by simpa using hx
    rw [acO_ne hne, flat_iv] at h3
    rw [clV, if_neg hne, List.length_map]
    refine ret_fzD false h3 ?_
    have ef : fzD m (xs.map (iv .i64)) false (.slc m 0 xs.length 1) = .fslc false false 1 (xs.map (iv .i64)) := by
      simp only [fzD, Nat.zero_add, List.drop_zero]
      rw [if_pos ⟨trivial, by rw [List.length_map]; omega, by simp⟩, elems_ints]
    rw [ef]
    refine ret_id ⟨fun x hx => ?_, ?_, ?_, rfl, rfl⟩
    · rw [upd_ne _ _ _ _ (by omega)]; exact h4 x hx
    · simp only [below]
      rw [belowL_iff]
      intro y hy
      obtain ⟨z, _, rfl⟩ := List.mem_map.1 hy
      simp [below]
    · simp only [clI, if_neg hx]
end Go.AM
namespace Go.AM
open Go.Proofs Cw Du
set_option maxRecDepth 10000
set_option maxHeartbeats 4000000
theorem encL_mapV : ∀ l : List Cnd, encL l = l.map encC
  | [] => rfl
  | c :: r => by rw [encL, encL_mapV r, List.map_cons]
def fltC (cs : List Cnd) : List AV := flat (encL cs)
theorem cellsC_lenV (c : Cnd) : (cellsOf (encC c)).length = 5 := by cases c; simp [encC, cellsOf]
theorem elemsCV : ∀ cs : List Cnd, elems true 5 cs.length (fltC cs) = encL cs
  | [] => rfl
  | .mk k f o n nl fu s ks :: r => by
    have ih := elemsCV r
    have e : fltC (.mk k f o n nl fu s ks :: r) = [iv .i64 k, iv .i64 f, iv .i64 o, iv .i64 n, .fslc nl fu s (encL ks)] ++ fltC r := by simp [fltC, encL, encC, flat, cellsOf]
    rw [e]
    simp only [elems, List.length_cons, chunk, List.map_cons, encL, encC] at ih ⊢
    have e1 : List.drop 5 ([iv .i64 k, iv .i64 f, iv .i64 o, iv .i64 n, AV.fslc nl fu s (encL ks)] ++ fltC r) = fltC r := rfl
    have e2 : List.take 5 ([iv .i64 k, iv .i64 f, iv .i64 o, iv .i64 n, AV.fslc nl fu s (encL ks)] ++ fltC r) = [iv .i64 k, iv .i64 f, iv .i64 o, iv .i64 n, AV.fslc nl fu s (encL ks)] := rfl
    rw [e1, e2, ih]; rfl
theorem cpC_mk (k f o n : Int) (nl fu : Bool) (s : Nat) (ks : List Cnd) : ∃ nl' fu' s', cpC (.mk k f o n nl fu s ks) = .mk k f o n nl' fu' s' (cpCL ks) := by
  rw [cpC]
  split
  · rename_i h
    have : ks = [] := by simpa using h
    subst this
    exact ⟨_, _, _, rfl⟩
  · exact ⟨_, _, _, rfl⟩
theorem cpCL_len (l : List Cnd) : (cpCL l).length = l.length := by rw [cpCL_map, List.length_map]
theorem totL_len : ∀ l : List Cnd, l.length ≤ totL l
  | [] => by simp [totL]
  | c :: r => by
    have := totL_len r
    have := tot_pos c
    simp only [totL, List.length_cons]; omega
theorem tot_memL : ∀ {l : List Cnd} {c : Cnd}, c ∈ l → tot c ≤ totL l
  | [], _, h => by simp at h
  | d :: r, c, h => by
    rcases List.mem_cons.1 h with rfl | h
    · simp only [totL]; omega
    · have := tot_memL h
      simp only [totL]; omega
theorem cond_spec : ∀ (N : Nat) (c : Cnd), tot c ≤ N → N ≤ 1000 → wf c → APure Tryz.prog 105 [encC c] (encC (cpC c))
  | 0, c, h, _, _ => by have := tot_pos c; omega
  | N + 1, .mk k f o nn nl fu s ks, hN, h1000, hw => by
    intro h n
    simp only [tot] at hN
    obtain ⟨hnl, hwk⟩ := hw
    refine ACalls.pure (ACalls.entry (by kernel_rfl) fun hb _ => calls_of Tryz.func105 rfl (by kernel_rfl) (by simp [Tryz.ntmps105]) ?_)
    by_cases h0 : ks = []
    · subst h0
      have k0 := cloneCd0 nl fu s
      have ecp : encC (cpC (.mk k f o nn nl fu s [])) = .agg [iv .i64 k, iv .i64 f, iv .i64 o, iv .i64 nn, clV 5 0 nl []] := by
        cases nl <;> rfl
      rw [ecp]
      obtain ⟨a, b, c, hcv⟩ : ∃ a b c, clV 5 0 nl [] = .fslc a b c [] := by cases nl <;> exact ⟨_, _, _, rfl⟩
      rw [hcv] at k0 ⊢
      simp only [encC, encL]
      clear hnl hwk hN ecp hcv
      repeat' (first | (refine ac_seq_h fun K hK => ?_) | (refine ac_region_h fun K hK => ?_; simp (disch := omega) [go_sem, *, upd_ne, Tryz.ntmps105 ]) | (apply Hide.out hK; clear hK K; try with_reducible dsimp only [thenA]) | (with_reducible refine APure.gcall (k0) ?_; try simp (disch := omega) [go_sem, *, upd_ne ]) | (refine ac_block ?_))
      refine ac_loop_wk (fun s' => ∃ (n' : Nat) (H : AHeap), n ≤ n' ∧ H n = some (.cells [iv .i64 k, iv .i64 f, iv .i64 o, iv .i64 nn, .fslc a b c []]) ∧ H (n + 1) = some (.cells [iv .i64 0, iv .i64 0, iv .i64 0, iv .i64 0, .fslc true true 0 []]) ∧ (∀ x, x < n → H x = h x) ∧ s' = ⟨26, [(1, .ptr n 0), (2, .ptr (n + 1) 0), (10, iv .i64 0), (11, iv .i64 0)], H, n'⟩) (fun s' => 0) ?_ ?_
      · exact loop_start (by simp [go_sem]) (Sub.refl _) ⟨_, _, by (try simp only); omega, by simp (disch := omega) only [upd_same], by simp (disch := omega) only [upd_ne, upd_same], fun x hx => by simp (disch := omega) only [upd_ne], rfl⟩
      · rintro s' ⟨n', H, hn', hx0, hx1, hxf, rfl⟩
        replace hxf : Hide _ := hxf
        repeat' (first | (refine ac_seq_h fun K hK => ?_) | (refine ac_region_h fun K hK => ?_; simp (disch := omega) [go_sem, *]) | (apply Hide.out hK; clear hK K; try with_reducible dsimp only [thenA]) | (apply Hide.out hf; clear ht hf Kt Kf) | (clear hK K; apply Hide.out hK; clear hK K; try with_reducible dsimp only [thenA]) | (refine ac_exit ?_; simp only [thenA, blockA, if_true]) | (refine ac_cond_h fun Kt Kf ht hf => ?_; simp (disch := omega) [go_sem, *]; try (refine ⟨fun hc => ?_, fun hc => ?_⟩ <;> try (exfalso; omega))))
        refine ac_ret ?_
        try dsimp only [thenA, blockA]
        refine ⟨by simp, _, (by first | rfl | (simp (disch := omega) [go_sem] <;> rfl)), ?_⟩
        exact ret_id ⟨fun x hx => by (repeat rw [upd_ne _ _ _ _ (by omega)]); exact hxf.out x hx, by simp [go_sem, below, belowL, resVal], by rfl, by simp, by simp⟩
    · obtain ⟨rfl, rfl⟩ := hnl.resolve_left h0
      have hkl : ks.length ≤ 1000 := by
        have := totL_len ks; omega
      have kcl := cloneCd false fu 5 ks (.inr ⟨rfl, rfl⟩) (by omega)
      have ecp : cpC (.mk k f o nn false fu 5 ks) = .mk k f o nn false false 5 (cpCL ks) := by
        rw [cpC, if_neg (by simpa using h0)]
      rw [ecp]
      simp only [encC]
      have hne : ks.map encC ≠ [] := by simpa using h0
      rw [encL_mapV ks]
      clear hnl ecp
      replace hwk : Hide _ := hwk
      replace kcl : Hide _ := kcl
      replace hne : Hide _ := hne
      repeat' (first | (refine ac_seq_h fun K hK => ?_) | (refine ac_region_h fun K hK => ?_; simp (disch := omega) [go_sem, *, upd_ne, Tryz.ntmps105]) | (apply Hide.out hK; clear hK K; try with_reducible dsimp only [thenA]))
      refine .inl ((kcl.out _ _).mono fun r h2 n2 hp => ?_)
      obtain ⟨m, m1, m2, rfl, m3, m4⟩ := hp
      rw [clV, if_neg hne.out, List.length_map]
      rw [acO_ne hne.out] at m3
      have hx0 : h2 n = some (.cells [iv .i64 k, iv .i64 f, iv .i64 o, iv .i64 nn, .fslc false fu 5 (ks.map encC)]) := by rw [m4 _ (by omega)]; simp (disch := omega) only [upd_ne, upd_same]
      have hx1 : h2 (n + 1) = some (.cells [iv .i64 0, iv .i64 0, iv .i64 0, iv .i64 0, .fslc true true 0 []]) := by rw [m4 _ (by omega)]; simp (disch := omega) only [upd_same]
      have hxf : ∀ x, x < n → h2 x = h x := fun x hx => by rw [m4 _ (by omega)]; simp (disch := omega) only [upd_ne]
      replace m4 : Hide _ := trivial
      replace hxf : Hide _ := hxf
      replace m3 : Hide _ := m3
      repeat' (first | (refine ac_seq_h fun K hK => ?_) | (refine ac_region_h fun K hK => ?_; simp (disch := omega) [go_sem, *]) | (apply Hide.out hK; clear hK K; try with_reducible dsimp only [thenA]) | (refine ac_block ?_) | (with_reducible show nextK _ _ _ _ _ _ _; simp (disch := omega) [go_sem, *]))
      clear kcl
      refine ac_loop_wk (fun s' => ∃ (i n3 : Nat) (H : AHeap), n2 ≤ n3 ∧ i ≤ ks.length ∧ H n = some (.cells [iv .i64 k, iv .i64 f, iv .i64 o, iv .i64 nn, .slc m 0 ks.length 5]) ∧ H (n + 1) = some (.cells [iv .i64 0, iv .i64 0, iv .i64 0, iv .i64 0, .fslc true true 0 []]) ∧ H m = some (.cells (flat ((cpCL (ks.take i)).map encC ++ (ks.drop i).map encC))) ∧ (∀ x, x < n → H x = h x) ∧ s' = ⟨26, [(1, .ptr n 0), (2, .ptr (n + 1) 0), (10, iv .i64 ks.length), (11, iv .i64 i)], H, n3⟩) (fun s' => ks.length - (intAt s' 11).toNat) ?_ ?_
      · exact loop_start (by simp [go_sem]) (Sub.refl _) ⟨0, _, _, by (try simp only); omega, by omega, by simp (disch := omega) only [upd_same], by simp (disch := omega) only [upd_ne]; exact hx1, by simp (disch := omega) only [upd_ne]; exact m3.out, fun x hx => by simp (disch := omega) only [upd_ne]; exact hxf.out x hx, rfl⟩
      · rintro s' ⟨i, n3, H, hn3, hi, g0, g1, g2, g3, rfl⟩
        replace g3 : Hide _ := g3
        replace hx0 : Hide _ := trivial
        replace hx1 : Hide _ := trivial
        by_cases hlt : i < ks.length
        · obtain ⟨x, hx⟩ : ∃ x, ks[i] = x := ⟨_, rfl⟩
          have hdr : ks.drop i = x :: ks.drop (i + 1) := by rw [List.drop_eq_getElem_cons hlt, hx]
          have htk : ks.take (i + 1) = ks.take i ++ [x] := by rw [List.take_succ_eq_append_getElem hlt, hx]
          have hxs : ks[i]? = some x := by rw [List.getElem?_eq_getElem hlt, hx]
          have hwx := wfL_get hwk.out hxs
          have htx := tot_memL (List.mem_of_getElem? hxs)
          rw [hdr, List.map_cons] at g2
          have hA : ((cpCL (ks.take i)).map encC).length = i := by rw [List.length_map, cpCL_len, List.length_take]; omega
          have fa := flat_at (s := 5) ((cpCL (ks.take i)).map encC) ((ks.drop (i + 1)).map encC) (encC x) (fun y hy => by obtain ⟨z, _, rfl⟩ := List.mem_map.1 hy; exact cellsC_lenV z) (cellsC_lenV x)
          have hcl := flat_len (s := 5) (L := (cpCL (ks.take i)).map encC ++ encC x :: (ks.drop (i + 1)).map encC) (fun y hy => by
            rcases List.mem_append.1 hy with h | h
            · obtain ⟨z, _, rfl⟩ := List.mem_map.1 h; exact cellsC_lenV z
            · rcases List.mem_cons.1 h with rfl | h
              · exact cellsC_lenV x
              · obtain ⟨z, _, rfl⟩ := List.mem_map.1 h; exact cellsC_lenV z)
          rw [hA] at fa
          rw [List.length_append, hA, List.length_cons, List.length_map, List.length_drop] at hcl
          have kx := cond_spec N x (by omega) (by omega) hwx
          have hend : flat ((cpCL (ks.take (i + 1))).map encC ++ (ks.drop (i + 1)).map encC) = flat ((cpCL (ks.take i)).map encC) ++ (cellsOf (encC (cpC x)) ++ flat ((ks.drop (i + 1)).map encC)) := by
            rw [htk]
            simp [cpCL_map, flat]
          obtain ⟨a, b, c, d, e1, f1, s1, hs⟩ := x
          obtain ⟨nl', fu', s', hcp⟩ := cpC_mk a b c d e1 f1 s1 hs
          rw [hcp] at kx hend
          simp only [encC, cellsOf] at kx hend fa g2 hcl
          generalize hcc : flat ((cpCL (ks.take i)).map encC ++ _ :: (ks.drop (i + 1)).map encC) = C at *
          generalize flat ((cpCL (ks.take i)).map encC) = FA at *
          generalize flat ((ks.drop (i + 1)).map encC) = FB at *
          obtain ⟨fd, ft, fe⟩ := fa
          have hb5 : i * 5 + 5 ≤ C.length := by omega
          replace hcc : Hide _ := trivial
          replace hend : Hide _ := hend
          replace hdr : Hide _ := trivial
          replace htk : Hide _ := trivial
          replace hxs : Hide _ := trivial
          replace hx : Hide _ := trivial
          clear hcp hA hwx htx
          repeat' (first | (refine ac_seq_h fun K hK => ?_) | (refine ac_region_h fun K hK => ?_; simp (disch := omega) [go_sem, *, ilt_true]) | (apply Hide.out hK; clear hK K; try with_reducible dsimp only [thenA]) | (apply Hide.out ht; clear ht hf Kt Kf) | (refine ac_block ?_) | (refine ac_skip ?_; simp only [thenA]) | (refine ac_cond_h fun Kt Kf ht hf => ?_; simp (disch := omega) [go_sem, *]; try (refine ⟨fun hc => ?_, fun hc => ?_⟩ <;> try (exfalso; omega))))
          refine ac_chain_h [10] (fun h' => h' n = some (.cells [iv .i64 k, iv .i64 f, iv .i64 o, iv .i64 nn, .slc m 0 ks.length 5]) ∧ h' m = some (.cells C)) mixed (by kernel_rfl) (by simp (disch := omega) [go_sem, g0, g2]) fun K hK => ?_
          simp (disch := omega) [go_sem, *]
          repeat' (first | (refine aC_c (by simp [go_sem]) (by decide) (fun h' hh => by (try dsimp only at hh); (try simp (disch := omega) [go_sem, *, ilt_true, ile_true]); first | exact rfl | exact ⟨rfl, rfl, rfl⟩ | exact (kx).gcall ⟨rfl, rfl, rfl⟩) ?_; try simp only [pS_some]) | (refine aC_x (by simp [go_sem]) (by decide) (by (try simp (disch := omega) [go_sem, *, stepK_if]); first | exact rfl | exact ⟨rfl, rfl⟩ | exact ⟨rfl, rfl, rfl⟩ | exact (kx).gcall ⟨rfl, rfl, rfl⟩) (by first | exact .inl rfl | (right; simp (disch := omega) [go_sem, upd_ne, g0, g2])) ?_; try simp only [pS_none]) | (refine aC_end ?_; apply Hide.out hK; clear hK K; try with_reducible dsimp only [thenA]))
          repeat' (first | (refine ac_region_h fun K hK => ?_; simp (disch := omega) [go_sem, *, wrap64_id]) | (apply Hide.out hK; clear hK K; try with_reducible dsimp only [thenA]))
          refine round_end (by simp (disch := omega) [go_sem]) (Sub.refl _) ⟨i + 1, _, _, by (try simp only); omega, by omega, ?_, ?_, ?_, fun x hx => ?_, rfl⟩ (by simp [intAt, go_sem]; omega)
          · rw [upd_ne _ _ _ _ (by omega)]; exact g0
          · rw [upd_ne _ _ _ _ (by omega)]; exact g1
          · rw [upd_same, hend.out]; rfl
          · rw [upd_ne _ _ _ _ (by omega)]; exact g3.out x hx
        · have hii : i = ks.length := by omega
          subst hii
          rw [List.drop_length, List.take_length, List.map_nil, List.append_nil] at g2
          have hbl := fun n => belowK n (cpCL ks)
          have hel := elemsCV (cpCL ks)
          have hfl := flat_len (s := 5) (L := (cpCL ks).map encC) (fun y hy => by obtain ⟨z, _, rfl⟩ := List.mem_map.1 hy; exact cellsC_lenV z)
          rw [fltC, cpCL_len] at hel
          rw [List.length_map, cpCL_len, ← encL_mapV] at hfl
          rw [← encL_mapV] at g2
          generalize encL (cpCL ks) = R at *
          replace hbl : Hide _ := hbl
          generalize hC : flat R = C at *
          replace hC : Hide _ := trivial
          repeat' (first | (refine ac_seq_h fun K hK => ?_) | (refine ac_region_h fun K hK => ?_; simp (disch := omega) [go_sem, *]) | (apply Hide.out hK; clear hK K; try with_reducible dsimp only [thenA]) | (apply Hide.out hf; clear ht hf Kt Kf) | (clear hK K; apply Hide.out hK; clear hK K; try with_reducible dsimp only [thenA]) | (refine ac_exit ?_; simp only [thenA, blockA, if_true]) | (refine ac_cond_h fun Kt Kf ht hf => ?_; simp (disch := omega) [go_sem, *]; try (refine ⟨fun hc => ?_, fun hc => ?_⟩ <;> try (exfalso; omega))))
          refine ac_ret ?_
          try dsimp only [thenA, blockA]
          refine ⟨by simp, _, (by first | rfl | (simp (disch := omega) [go_sem] <;> rfl)), ?_⟩
          refine ret_freeze true (m := m) (c := C) (by simp (disch := omega) only [upd_ne]; exact g2) ?_
          have ef : fzT m C true (resVal [AV.agg [iv .i64 k, iv .i64 f, iv .i64 o, iv .i64 nn, .slc m 0 ks.length 5]]) = .agg [iv .i64 k, iv .i64 f, iv .i64 o, iv .i64 nn, .fslc false false 5 R] := by
            simp only [resVal, fzT, List.map_cons, List.map_nil, iv, fz]
            rw [if_pos ⟨trivial, by omega, by simp⟩, List.drop_zero, hel]
          rw [ef]
          refine ret_id ⟨fun x hx => ?_, ?_, rfl, by simp, by simp⟩
          · simp (disch := omega) only [upd_ne]; exact g3.out x hx
          · simp [below, belowL, hbl.out]
end Go.AM
