/- Theorem T6; the law WatchInward. Conditions: as each theorem says. -/
import Derived.Test.YtbpbgiedemkciaaGreatDoorDh
import Derived.Test.YtbpbgiedemkciaaGreatDoorCm
namespace Cw
theorem cmpr_oppo (a o b : Int) (h : wi o 1 6 = true) : cmpr a (oppo o) b = !cmpr a o b := by
  simp only [wi, Bool.and_eq_true, decide_eq_true_eq] at h
  have : o = 1 ∨ o = 2 ∨ o = 3 ∨ o = 4 ∨ o = 5 ∨ o = 6 := by omega
  rcases this with rfl | rfl | rfl | rfl | rfl | rfl <;> simp [cmpr, oppo] <;> (try rw [Bool.eq_iff_iff]) <;> simp <;> omega
theorem oppo_ok (o : Int) (h : wi o 1 6 = true) : wi (oppo o) 1 6 = true := by
  simp only [wi, Bool.and_eq_true, decide_eq_true_eq] at h
  have : o = 1 ∨ o = 2 ∨ o = 3 ∨ o = 4 ∨ o = 5 ∨ o = 6 := by omega
  rcases this with rfl | rfl | rfl | rfl | rfl | rfl <;> decide
mutual
/-- has it a negation -/
def neg : Cnd → Bool
  | .mk k _ _ _ _ _ _ ks => decide (k = 2) || negL ks
def negL : List Cnd → Bool
  | [] => false
  | c :: r => neg c || negL r
end
theorem inw_all : ∀ (n : Nat) (c : Cnd), tot c ≤ n → ok c = true → ∀ t, ok (inw c t) = true ∧ tot (inw c t) ≤ tot c ∧ dep (inw c t) ≤ dep c ∧ neg (inw c t) = false ∧ ∀ fs, holds (inw c t) fs = (holds c fs != t)
  | 0, c, h, _ => by have := tot_pos c; omega
  | m + 1, .mk k f o n nl fu s ks, h, hok => by
    intro t
    rcases ok_cases hok with ⟨rfl, rfl, hf, ho, hn⟩ | ⟨rfl, a, rfl, ha, rfl, rfl, rfl⟩ | ⟨hk, a, b, rfl, ha, hb, rfl, rfl, rfl⟩
    · refine ⟨?_, by simp [inw, tot, totL], by simp [inw, dep, depL], by simp [inw, neg, negL], fun fs => ?_⟩
      · cases t
        · simp [inw, ok, nodeOk, okL, hf, ho, hn]
        · simp [inw, ok, nodeOk, okL, hf, oppo_ok o ho, hn]
      · cases t
        · simp [inw, holds]
        · simp [inw, holds, cmpr_oppo _ o n ho]
    · simp only [tot, totL] at h
      obtain ⟨h1, h2, h3, h4, h5⟩ := inw_all m a (by omega) ha (!t)
      have e : inw (.mk 2 0 0 0 nl fu s [a]) t = inw a (!t) := by simp [inw, inwL]
      rw [e]
      refine ⟨h1, by simp only [tot, totL]; omega, by simp only [dep, depL]; omega, h4, fun fs => ?_⟩
      rw [h5]
      simp only [holds, holdsL, show ¬ (2 : Int) = 1 by decide, if_false]
      cases holds a fs <;> cases t <;> rfl
    · simp only [tot, totL] at h
      obtain ⟨a1, a2, a3, a4, a5⟩ := inw_all m a (by omega) ha t
      obtain ⟨b1, b2, b3, b4, b5⟩ := inw_all m b (by omega) hb t
      have k1 : ¬ k = 1 := by omega
      have k2 : ¬ k = 2 := by omega
      have e : inw (.mk k 0 0 0 nl fu s [a, b]) t = .mk (if t then 7 - k else k) 0 0 0 false false 5 [inw a t, inw b t] := by simp [inw, inwL, k1, k2]
      rw [e]
      have k3 : ¬ (if t then 7 - k else k) = 1 := by cases t <;> simp <;> omega
      have k4 : ¬ (if t then 7 - k else k) = 2 := by cases t <;> simp <;> omega
      refine ⟨?_, by simp only [tot, totL]; omega, by simp only [dep, depL]; omega, ?_, fun fs => ?_⟩
      · have k5 : (if t then 7 - k else k) = 3 ∨ (if t then 7 - k else k) = 4 := by cases t <;> simp <;> omega
        simp only [ok, nodeOk, okL, a1, b1, k3, if_false, List.length_cons, List.length_nil]
        rcases k5 with e5 | e5 <;> simp [e5]
      · simp [neg, negL, a4, b4, k4]
      · have hh := a5 fs
        have gg := b5 fs
        simp only [holds, holdsL, k1, k3, if_false, hh, gg]
        rcases hk with rfl | rfl <;> cases t <;> cases holds a fs <;> cases holds b fs <;> simp
theorem formed_inw (c : Cnd) (h : formed c = true) : formed (inw c false) = true := by
  simp only [formed, Bool.and_eq_true, decide_eq_true_eq] at h ⊢
  obtain ⟨h1, h2, h3, _⟩ := inw_all _ c (Nat.le_refl _) h.1.1 false
  exact ⟨⟨h1, by omega⟩, by omega⟩
/-! the numbers are enough -/
theorem snap : ∀ (l : List Int) (v : Int), (∃ u ∈ l, u ≤ v) → ∃ u ∈ l, u ≤ v ∧ ∀ w ∈ l, w ≤ v → w ≤ u
  | [], v, ⟨u, h, _⟩ => by simp at h
  | x :: r, v, h => by
    by_cases hr : ∃ u ∈ r, u ≤ v
    · obtain ⟨u, h1, h2, h3⟩ := snap r v hr
      by_cases hx : x ≤ v ∧ u ≤ x
      · exact ⟨x, by simp, hx.1, fun w hw hwv => by
          rcases List.mem_cons.1 hw with rfl | hw
          · exact Int.le_refl _
          · have := h3 w hw hwv; omega⟩
      · exact ⟨u, by simp [h1], h2, fun w hw hwv => by
          rcases List.mem_cons.1 hw with rfl | hw
          · omega
          · exact h3 w hw hwv⟩
    · obtain ⟨u, hu, huv⟩ := h
      rcases List.mem_cons.1 hu with rfl | hu
      · exact ⟨u, by simp, huv, fun w hw hwv => by
          rcases List.mem_cons.1 hw with rfl | hw
          · exact Int.le_refl _
          · exact absurd ⟨w, hw, hwv⟩ hr⟩
      · exact absurd ⟨u, hu, huv⟩ hr
theorem cmpr_snap (l : List Int) (v u : Int) (hv : v ≤ 10000) (h1 : u ∈ l) (h2 : u ≤ v) (h3 : ∀ w ∈ l, w ≤ v → w ≤ u) (n : Int) (hn : n ∈ l) (hn1 : min (n + 1) 10000 ∈ l) (o : Int) : cmpr u o n = cmpr v o n := by
  have a1 := h3 n hn
  have a2 := h3 _ hn1
  have key : (u < n ↔ v < n) ∧ (u = n ↔ v = n) ∧ (n < u ↔ n < v) := by
    refine ⟨⟨fun h => ?_, fun h => by omega⟩, ⟨fun h => ?_, fun h => ?_⟩, ⟨fun h => by omega, fun h => ?_⟩⟩
    · rcases Int.lt_or_le v n with h' | h'
      · exact h'
      · have := a1 h'; omega
    · rcases Int.lt_or_le n v with h' | h'
      · have := a2 (by omega); omega
      · omega
    · have := a1 (by omega); omega
    · have := a2 (by omega); omega
  obtain ⟨k1, k2, k3⟩ := key
  unfold cmpr
  have e1 : (u == n) = (v == n) := by rw [Bool.eq_iff_iff]; simpa using k2
  have e2 : (u != n) = (v != n) := by simp [bne, e1]
  have e3 : decide (u < n) = decide (v < n) := by simp [k1]
  have e4 : decide (u ≤ n) = decide (v ≤ n) := by rw [decide_eq_decide]; omega
  have e5 : decide (u > n) = decide (v > n) := by simp [k3]
  have e6 : decide (u ≥ n) = decide (v ≥ n) := by rw [decide_eq_decide]; omega
  rw [e1, e2, e3, e4, e5, e6]
mutual
theorem holds_snap (L : Int → List Int) (fs gs : Fs) (hg : ∀ j : Int, 0 ≤ j → j ≤ 4 → fs.at j ≤ 10000 ∧ gs.at j ∈ L j ∧ gs.at j ≤ fs.at j ∧ ∀ w ∈ L j, w ≤ fs.at j → w ≤ gs.at j) : ∀ c : Cnd, ok c = true → (∀ j : Int, ∀ x ∈ ask j c, x ∈ L j) → holds c gs = holds c fs
  | .mk k f o n nl fu s ks, hok, hask => by
    have hl : holdsL ks gs = holdsL ks fs := holdsL_snap L fs gs hg ks (by simp only [ok, Bool.and_eq_true] at hok; exact hok.2) fun j x hx => hask j x (by simp only [ask, List.mem_append]; exact .inr hx)
    simp only [holds]
    by_cases hk : k = 1
    · rw [if_pos hk, if_pos hk]
      have hf : 0 ≤ f ∧ f ≤ 4 := by
        simp only [ok, nodeOk, hk, if_true, wi, Bool.and_eq_true, decide_eq_true_eq] at hok; omega
      obtain ⟨h0, h1, h2, h3⟩ := hg f hf.1 hf.2
      exact cmpr_snap (L f) _ _ h0 h1 h2 h3 n (hask f n (by simp [ask, hk])) (hask f _ (by simp [ask, hk])) o
    · rw [if_neg hk, if_neg hk, hl]
theorem holdsL_snap (L : Int → List Int) (fs gs : Fs) (hg : ∀ j : Int, 0 ≤ j → j ≤ 4 → fs.at j ≤ 10000 ∧ gs.at j ∈ L j ∧ gs.at j ≤ fs.at j ∧ ∀ w ∈ L j, w ≤ fs.at j → w ≤ gs.at j) : ∀ cs : List Cnd, okL cs = true → (∀ j : Int, ∀ x ∈ askL j cs, x ∈ L j) → holdsL cs gs = holdsL cs fs
  | [], _, _ => rfl
  | c :: r, hok, hask => by
    simp only [okL, Bool.and_eq_true] at hok
    simp only [holdsL]
    rw [holds_snap L fs gs hg c hok.1 fun j x hx => hask j x (by simp only [askL, List.mem_append]; exact .inl hx), holdsL_snap L fs gs hg r hok.2 fun j x hx => hask j x (by simp only [askL, List.mem_append]; exact .inr hx)]
end
theorem mem_tup5 (A B C D E : List Int) (a b c d e : Int) (ha : a ∈ A) (hb : b ∈ B) (hc : c ∈ C) (hd : d ∈ D) (he : e ∈ E) : [a, b, c, d, e] ∈ tup [A, B, C, D, E] := by
  simp only [tup, List.mem_flatMap, List.mem_map]
  exact ⟨a, ha, _, ⟨b, hb, _, ⟨c, hc, _, ⟨d, hd, _, ⟨e, he, [], by simp, rfl⟩, rfl⟩, rfl⟩, rfl⟩, rfl⟩
theorem of_mem_tup5 (A B C D E : List Int) (t : List Int) (h : t ∈ tup [A, B, C, D, E]) : ∃ a b c d e, t = [a, b, c, d, e] ∧ a ∈ A ∧ b ∈ B ∧ c ∈ C ∧ d ∈ D ∧ e ∈ E := by
  simp only [tup, List.mem_flatMap, List.mem_map] at h
  obtain ⟨a, ha, _, ⟨b, hb, _, ⟨c, hc, _, ⟨d, hd, _, ⟨e, he, x, hx, rfl⟩, rfl⟩, rfl⟩, rfl⟩, rfl⟩ := h
  simp at hx; subst hx
  exact ⟨a, b, c, d, e, rfl, ha, hb, hc, hd, he⟩
theorem mem_numsP (j x : Int) (cs : List Cnd) : x ∈ numsP j cs ↔ x ∈ askL j cs ∨ x = 0 := by
  rw [numsP, mem_cpt, mem_sortI, List.mem_append]; simp
mutual
theorem ask_range (j x : Int) : ∀ c : Cnd, ok c = true → x ∈ ask j c → 0 ≤ x ∧ x ≤ 10000
  | .mk k f o n nl fu s ks, hok, hx => by
    have hl : okL ks = true := by simp only [ok, Bool.and_eq_true] at hok; exact hok.2
    simp only [ask, List.mem_append] at hx
    rcases hx with hx | hx
    · split at hx
      · rename_i hk
        have hn : 0 ≤ n ∧ n ≤ 10000 := by
          simp only [ok, nodeOk, hk.1, if_true, wi, Bool.and_eq_true, decide_eq_true_eq] at hok; omega
        simp only [List.mem_cons, List.not_mem_nil, or_false] at hx
        rcases hx with rfl | rfl <;> omega
      · simp at hx
    · exact askL_range j x ks hl hx
theorem askL_range (j x : Int) : ∀ cs : List Cnd, okL cs = true → x ∈ askL j cs → 0 ≤ x ∧ x ≤ 10000
  | [], _, hx => by simp [askL] at hx
  | c :: r, hok, hx => by
    simp only [okL, Bool.and_eq_true] at hok
    simp only [askL, List.mem_append] at hx
    rcases hx with hx | hx
    · exact ask_range j x c hok.1 hx
    · exact askL_range j x r hok.2 hx
end
/-- each choice is facts -/
theorem cands_ok (cs : List Cnd) (h : okL cs = true) (t : List Int) (ht : t ∈ tup (candsP cs)) : (toFs t).ok = true := by
  obtain ⟨a, b, c, d, e, rfl, ha, hb, hc, hd, he⟩ := of_mem_tup5 _ _ _ _ _ t ht
  have r : ∀ j x, x ∈ numsP j cs → 0 ≤ x ∧ x ≤ 10000 := fun j x hx => by
    rcases (mem_numsP j x cs).1 hx with h1 | h1
    · exact askL_range j x cs h h1
    · omega
  have h0 := r _ _ ha; have h1 := r _ _ hb; have h2 := r _ _ hc; have h3 := r _ _ hd; have h4 := r _ _ he
  simp [toFs, Fs.ok, wi, h0, h1, h2, h3, h4]
/-- for facts there is a choice for which all conditions hold alike -/
theorem cands_enough (cs : List Cnd) (h : okL cs = true) (fs : Fs) (hf : fs.ok = true) : ∃ t ∈ tup (candsP cs), ∀ c ∈ cs, holds c (toFs t) = holds c fs := by
  simp only [Fs.ok, wi, Bool.and_eq_true, decide_eq_true_eq] at hf
  have z : ∀ j, (0 : Int) ∈ numsP j cs := fun j => (mem_numsP j 0 cs).2 (.inr rfl)
  obtain ⟨a, a1, a2, a3⟩ := snap (numsP 0 cs) fs.a ⟨0, z 0, by omega⟩
  obtain ⟨b, b1, b2, b3⟩ := snap (numsP 1 cs) fs.b ⟨0, z 1, by omega⟩
  obtain ⟨c, c1, c2, c3⟩ := snap (numsP 2 cs) fs.c ⟨0, z 2, by omega⟩
  obtain ⟨d, d1, d2, d3⟩ := snap (numsP 3 cs) fs.d ⟨0, z 3, by omega⟩
  obtain ⟨e, e1, e2, e3⟩ := snap (numsP 4 cs) fs.e ⟨0, z 4, by omega⟩
  refine ⟨[a, b, c, d, e], mem_tup5 _ _ _ _ _ _ _ _ _ _ a1 b1 c1 d1 e1, fun x hx => ?_⟩
  have hokx : ok x = true := by
    clear z a1 a2 a3 b1 b2 b3 c1 c2 c3 d1 d2 d3 e1 e2 e3
    induction cs with
    | nil => simp at hx
    | cons y r ih =>
      simp only [okL, Bool.and_eq_true] at h
      rcases List.mem_cons.1 hx with rfl | hx
      · exact h.1
      · exact ih h.2 hx
  refine holds_snap (fun j => numsP j cs) fs _ (fun j h0 h4 => ?_) x hokx fun j y hy => (mem_numsP j y cs).2 (.inl ?_)
  · have : j = 0 ∨ j = 1 ∨ j = 2 ∨ j = 3 ∨ j = 4 := by omega
    rcases this with rfl | rfl | rfl | rfl | rfl
    · exact ⟨by show fs.a ≤ _; omega, a1, a2, a3⟩
    · exact ⟨by show fs.b ≤ _; omega, b1, b2, b3⟩
    · exact ⟨by show fs.c ≤ _; omega, c1, c2, c3⟩
    · exact ⟨by show fs.d ≤ _; omega, d1, d2, d3⟩
    · exact ⟨by show fs.e ≤ _; omega, e1, e2, e3⟩
  · clear z a1 a2 a3 b1 b2 b3 c1 c2 c3 d1 d2 d3 e1 e2 e3 h hokx
    induction cs with
    | nil => simp at hx
    | cons z r ih =>
      simp only [askL, List.mem_append]
      rcases List.mem_cons.1 hx with rfl | hx
      · exact .inl hy
      · exact .inr (ih hx)
theorem numsP_swap (j : Int) (a b : Cnd) : numsP j [a, b] = numsP j [b, a] := by
  refine ss_ext _ _ (ss_cpt _ (sortI_sorted _)) (ss_cpt _ (sortI_sorted _)) fun x => ?_
  rw [numsP, numsP, mem_cpt, mem_cpt, mem_sortI, mem_sortI]
  simp only [askL, List.mem_append, List.append_nil]
  grind
theorem candsP_swap (a b : Cnd) : candsP [a, b] = candsP [b, a] := by
  simp only [candsP, numsP_swap _ a b]
end Cw

namespace Go.AM
open Go.Proofs Cw
set_option maxRecDepth 10000
set_option maxHeartbeats 4000000
theorem wf_inw : ∀ (n : Nat) (c : Cnd), tot c ≤ n → ok c = true → wf c → ∀ t, wf (Cw.inw c t)
  | 0, c, h, _, _ => by have := tot_pos c; omega
  | m + 1, .mk k f o n nl fu s ks, h, hok, hw => by
    intro t
    rcases ok_cases hok with ⟨rfl, rfl, hf, ho, hn⟩ | ⟨rfl, a, rfl, ha, rfl, rfl, rfl⟩ | ⟨hk, a, b, rfl, ha, hb, rfl, rfl, rfl⟩
    · simp [Cw.inw, wf, wfL]
    · simp only [tot, totL] at h
      have e : Cw.inw (.mk 2 0 0 0 nl fu s [a]) t = Cw.inw a (!t) := by simp [Cw.inw, inwL]
      rw [e]; exact wf_inw m a (by omega) ha hw.2.1 _
    · simp only [tot, totL] at h
      have k1 : ¬ k = 1 := by omega
      have k2 : ¬ k = 2 := by omega
      have e : Cw.inw (.mk k 0 0 0 nl fu s [a, b]) t = .mk (if t then 7 - k else k) 0 0 0 false false 5 [Cw.inw a t, Cw.inw b t] := by simp [Cw.inw, inwL, k1, k2]
      rw [e]
      exact ⟨.inr ⟨rfl, rfl⟩, wf_inw m a (by omega) ha hw.2.1 t, wf_inw m b (by omega) hb hw.2.2.1 t, trivial⟩
theorem neg_leaf (f o v : Int) (nl fu : Bool) (s : Nat) : APure Tryz.prog 19 [encC (.mk 1 f o v nl fu s [])] (bv false) := by
  intro h n
  refine ACalls.pure (ACalls.entry (by kernel_rfl) fun hb _ => calls_of Tryz.func19 rfl (by kernel_rfl) (by simp [Tryz.ntmps19]) ?_)
  simp only [encC, encL]
  repeat' (first | (refine ac_seq_h fun K hK => ?_) | (refine ac_region_h fun K hK => ?_; simp (disch := omega) [go_sem, *, Tryz.ntmps19]) | (apply Hide.out hK; clear hK K; try with_reducible dsimp only [thenA]) | (apply Hide.out hf; clear ht hf Kt Kf) | (refine ac_block ?_) | (refine ac_skip ?_; simp only [thenA]) | (refine ac_cond_h fun Kt Kf ht hf => ?_; simp (disch := omega) [go_sem, *]; try (refine ⟨fun hc => ?_, fun hc => ?_⟩ <;> try (exfalso; omega))))
  refine ac_rounds 1 ?_
  unfold ACRounds
  repeat' (first | (refine ac_seq_h fun K hK => ?_) | (refine ac_region_h fun K hK => ?_; simp (disch := omega) [go_sem, *]) | (apply Hide.out hK; clear hK K; try with_reducible dsimp only [thenA]) | (apply Hide.out hf; clear ht hf Kt Kf) | (clear hK K; apply Hide.out hK; clear hK K; try with_reducible dsimp only [thenA]) | (refine ac_exit ?_; simp only [thenA, blockA, if_true]) | (refine ac_cond_h fun Kt Kf ht hf => ?_; simp (disch := omega) [go_sem, *]; try (refine ⟨fun hc => ?_, fun hc => ?_⟩ <;> try (exfalso; omega))))
  (refine ac_ret ?_; try dsimp only [thenA, blockA]; refine ⟨by simp, _, (by first | rfl | (simp (disch := omega) [go_sem, upd_ne] <;> rfl)), ?_⟩; refine ret_id ⟨fun k hk => (by first | rfl | (repeat rw [upd_ne _ _ _ _ (by omega)])), (by simp [go_sem, below]), (by simp [go_sem] <;> omega), by simp, by simp⟩)
theorem neg_two (k : Int) (hk : (k == 2) = false) (fu : Bool) (x y : Cnd) (kx : APure Tryz.prog 19 [encC x] (bv false)) (ky : APure Tryz.prog 19 [encC y] (bv false)) : APure Tryz.prog 19 [encC (.mk k 0 0 0 false fu 5 [x, y])] (bv false) := by
  intro h n
  refine ACalls.pure (ACalls.entry (by kernel_rfl) fun hb _ => calls_of Tryz.func19 rfl (by kernel_rfl) (by simp [Tryz.ntmps19]) ?_)
  obtain ⟨xk, xf, xo, xn, xnl, xfu, xsz, xks⟩ := x
  obtain ⟨yk, yf, yo, yn, ynl, yfu, ysz, yks⟩ := y
  simp only [encC, encL] at kx ky ⊢
  repeat' (first | (refine ac_seq_h fun K hK => ?_) | (refine ac_region_h fun K hK => ?_; simp (disch := omega) [go_sem, *, Tryz.ntmps19]) | (apply Hide.out hK; clear hK K; try with_reducible dsimp only [thenA]) | (apply Hide.out hf; clear ht hf Kt Kf) | (refine ac_block ?_) | (refine ac_skip ?_; simp only [thenA]) | (refine ac_cond_h fun Kt Kf ht hf => ?_; simp (disch := omega) [go_sem, *]; try (refine ⟨fun hc => ?_, fun hc => ?_⟩ <;> try (exfalso; omega))))
  refine ac_rounds 3 ?_
  unfold ACRounds
  repeat' (first | (refine ac_seq_h fun K hK => ?_) | (refine ac_region_h fun K hK => ?_; simp (disch := omega) [go_sem, *, wrap64_id, ilt_true, ile_true]) | (apply Hide.out hK; clear hK K; try with_reducible dsimp only [thenA]) | (apply Hide.out ht; clear ht hf Kt Kf) | (apply Hide.out hf; clear ht hf Kt Kf) | (clear hK K; apply Hide.out hK; clear hK K; try with_reducible dsimp only [thenA]) | (with_reducible refine APure.gcall (kx) ?_; try simp (disch := omega) [go_sem, *]) | (with_reducible refine APure.gcall (ky) ?_; try simp (disch := omega) [go_sem, *]) | (refine ac_block ?_) | (refine ac_skip ?_; simp only [thenA, blockA]) | (refine ac_exit ?_; simp only [thenA, blockA, if_true]) | (refine ac_cond_h fun Kt Kf ht hf => ?_; simp (disch := omega) [go_sem, *]; try (refine ⟨fun hc => ?_, fun hc => ?_⟩ <;> try (exfalso; omega))))
  (refine ac_ret ?_; try dsimp only [thenA, blockA]; refine ⟨by simp, _, (by first | rfl | (simp (disch := omega) [go_sem, upd_ne] <;> rfl)), ?_⟩; refine ret_id ⟨fun k hk => (by first | rfl | (repeat rw [upd_ne _ _ _ _ (by omega)])), (by simp [go_sem, below]), (by simp [go_sem] <;> omega), by simp, by simp⟩)
theorem neg_spec : ∀ (n : Nat) (c : Cnd), tot c ≤ n → ok c = true → wf c → neg c = false → APure Tryz.prog 19 [encC c] (bv false)
  | 0, c, h, _, _, _ => by have := tot_pos c; omega
  | m + 1, .mk k f o v nl fu s ks, h, hok, hw, hn => by
    rcases ok_cases hok with ⟨rfl, rfl, hf, ho, hv⟩ | ⟨rfl, a, rfl, ha, rfl, rfl, rfl⟩ | ⟨hk, a, b, rfl, ha, hb, rfl, rfl, rfl⟩
    · exact neg_leaf f o v nl fu s
    · simp [neg] at hn
    · obtain ⟨rfl, rfl⟩ := hw.1.resolve_left (by simp)
      simp only [tot, totL] at h
      simp only [neg, negL, Bool.or_false, Bool.or_eq_false_iff] at hn
      exact neg_two k (by rcases hk with rfl | rfl <;> rfl) fu a b (neg_spec m a (by omega) ha hw.2.1 hn.2.1) (neg_spec m b (by omega) hb hw.2.2.1 hn.2.2)
theorem just_spec (a b : Cnd) (hwa : wf a) (hwb : wf b) (hfa : Cw.formed a = true) (hfb : Cw.formed b = true) (f : Fs) (hf : f.ok = true) (both : Bool) (hq : dif both (Cw.holds a f) (Cw.holds b f) = true) : APure Tryz.prog 20 [encC a, encC b, encF f, bv both] (bv true) := by
  intro h n
  have k1 := Holds_spec a hwa (by simp only [Cw.formed, Bool.and_eq_true, decide_eq_true_eq] at hfa; omega) f
  have k2 := Holds_spec b hwb (by simp only [Cw.formed, Bool.and_eq_true, decide_eq_true_eq] at hfb; omega) f
  have e1 : outH a f = (Cw.holds a f, 0) := by simp [outH, hfa, hf]
  have e2 : outH b f = (Cw.holds b f, 0) := by simp [outH, hfb, hf]
  rw [e1] at k1
  rw [e2] at k2
  generalize Cw.holds a f = x at *
  generalize Cw.holds b f = y at *
  clear hwa hwb hfa hfb hf e1 e2
  refine ACalls.pure (ACalls.entry (by kernel_rfl) fun hb _ => calls_of Tryz.func20 rfl (by kernel_rfl) (by simp [Tryz.ntmps20]) ?_)
  obtain ⟨ak, af, ao, an, anl, afu, asz, aks⟩ := a
  obtain ⟨bk, bf, bo, bn, bnl, bfu, bsz, bks⟩ := b
  simp only [encC] at k1 k2 ⊢
  cases x
  · cases y
    · simp [dif] at hq
    · cases both
      · simp [dif] at hq
      · clear hq
        repeat' (first | (refine ac_seq_h fun K hK => ?_) | (refine ac_region_h fun K hK => ?_; simp (disch := omega) [go_sem, *, upd_ne, Tryz.ntmps20 ]) | (apply Hide.out hK; clear hK K; try with_reducible dsimp only [thenA]) | (with_reducible refine APure.gcall (k1) ?_; try simp (disch := omega) [go_sem, * ]) | (with_reducible refine APure.gcall (k2) ?_; try simp (disch := omega) [go_sem, * ]))
        (refine ac_ret ?_; try dsimp only [thenA, blockA]; refine ⟨by simp, _, (by first | rfl | (simp (disch := omega) [go_sem, upd_ne] <;> rfl)), ?_⟩; refine ret_id ⟨fun k hk => (by first | rfl | (repeat rw [upd_ne _ _ _ _ (by omega)])), (by simp [go_sem, below]), (by simp [go_sem] <;> omega), by simp, by simp⟩)
  · cases y
    · clear hq
      repeat' (first | (refine ac_seq_h fun K hK => ?_) | (refine ac_region_h fun K hK => ?_; simp (disch := omega) [go_sem, *, upd_ne, Tryz.ntmps20 ]) | (apply Hide.out hK; clear hK K; try with_reducible dsimp only [thenA]) | (with_reducible refine APure.gcall (k1) ?_; try simp (disch := omega) [go_sem, * ]) | (with_reducible refine APure.gcall (k2) ?_; try simp (disch := omega) [go_sem, * ]))
      (refine ac_ret ?_; try dsimp only [thenA, blockA]; refine ⟨by simp, _, (by first | rfl | (simp (disch := omega) [go_sem, upd_ne] <;> rfl)), ?_⟩; refine ret_id ⟨fun k hk => (by first | rfl | (repeat rw [upd_ne _ _ _ _ (by omega)])), (by simp [go_sem, below]), (by simp [go_sem] <;> omega), by simp, by simp⟩)
    · simp [dif] at hq
theorem t6 (a b : Cnd) (hfa : Cw.formed a = true) (hfb : Cw.formed b = true) (fs : Fs) (hf : fs.ok = true) (r q s : Fs × Bool × Int) (hr : r = pdiffers a b fun x y => x != y) (hq : q = pdiffers a b fun x y => x && !y) (hs : s = pdiffers b a fun x y => x && !y) :
    (r = (⟨0, 0, 0, 0, 0⟩, false, 80) ∧ q = (⟨0, 0, 0, 0, 0⟩, false, 80) ∧ s = (⟨0, 0, 0, 0, 0⟩, false, 80)) ∨
      (r.2.2 = 0 ∧ q.2.2 = 0 ∧ s.2.2 = 0 ∧ r.2.1 = (q.2.1 && s.2.1) ∧ (q.2.1 = true → (Cw.holds a fs && !Cw.holds b fs) = false) ∧ (s.2.1 = true → (Cw.holds b fs && !Cw.holds a fs) = false) ∧
        (r.2.1 = false → r.1.ok = true ∧ dif true (Cw.holds a r.1) (Cw.holds b r.1) = true) ∧ (q.2.1 = false → q.1.ok = true ∧ dif false (Cw.holds a q.1) (Cw.holds b q.1) = true) ∧ (s.2.1 = false → s.1.ok = true ∧ dif false (Cw.holds b s.1) (Cw.holds a s.1) = true)) := by
  have hoa : ok a = true := by simp only [Cw.formed, Bool.and_eq_true] at hfa; exact hfa.1.1
  have hob : ok b = true := by simp only [Cw.formed, Bool.and_eq_true] at hfb; exact hfb.1.1
  have hokL : okL [a, b] = true := by simp [okL, hoa, hob]
  have hfew : fewP [b, a] = fewP [a, b] := by
    have hl : ∀ k, lensP [b, a] k = lensP [a, b] k := fun k => by
      induction k with
      | zero => rfl
      | succ k ih => rw [lensP, lensP, ih, numsP_swap]
    unfold fewP; rw [hl]
  unfold pdiffers at hr hq hs
  rw [hfa, hfb] at hr hq hs
  simp only [Bool.and_self, if_true] at hr hq hs
  rw [hfew, ← candsP_swap a b] at hs
  by_cases hw : fewP [a, b] = true
  · right
    rw [hw] at hr hq hs
    simp only [if_true] at hr hq hs
    obtain ⟨t, ht, hc⟩ := cands_enough [a, b] hokL fs hf
    have ha := hc a (by simp)
    have hb := hc b (by simp)
    have none_at : ∀ p : List Int → Bool, (tup (candsP [a, b])).find? p = none → p t = false := fun p hp => by
      have := List.find?_eq_none.1 hp t ht; simpa using this
    have some_at : ∀ (p : List Int → Bool) (u : List Int), (tup (candsP [a, b])).find? p = some u → p u = true ∧ (toFs u).ok = true := fun p u hp => ⟨List.find?_some hp, cands_ok [a, b] hokL u (List.mem_of_find?_eq_some hp)⟩
    have all_none : ∀ p : List Int → Bool, (tup (candsP [a, b])).find? p = none ↔ ∀ u ∈ tup (candsP [a, b]), p u = false := fun p => by
      rw [List.find?_eq_none]; exact ⟨fun h u hu => by simpa using h u hu, fun h u hu => by simpa using h u hu⟩
    generalize hX : (tup (candsP [a, b])).find? (fun t => Cw.holds a (toFs t) != Cw.holds b (toFs t)) = X at hr
    generalize hY : (tup (candsP [a, b])).find? (fun t => Cw.holds a (toFs t) && !Cw.holds b (toFs t)) = Y at hq
    generalize hZ : (tup (candsP [a, b])).find? (fun t => Cw.holds b (toFs t) && !Cw.holds a (toFs t)) = Z at hs
    have hXYZ : X = none ↔ Y = none ∧ Z = none := by
      rw [← hX, ← hY, ← hZ, all_none, all_none, all_none]
      constructor
      · intro h; refine ⟨fun u hu => ?_, fun u hu => ?_⟩ <;> (have := h u hu; revert this; cases Cw.holds a (toFs u) <;> cases Cw.holds b (toFs u) <;> simp)
      · rintro ⟨h1, h2⟩ u hu
        have e1 := h1 u hu
        have e2 := h2 u hu
        revert e1 e2; cases Cw.holds a (toFs u) <;> cases Cw.holds b (toFs u) <;> simp
    refine ⟨by rw [hr]; cases X <;> rfl, by rw [hq]; cases Y <;> rfl, by rw [hs]; cases Z <;> rfl, ?_, fun h1 => ?_, fun h1 => ?_, fun h1 => ?_, fun h1 => ?_, fun h1 => ?_⟩
    · rw [hr, hq, hs]
      cases X <;> cases Y <;> cases Z <;> simp at hXYZ ⊢
    · cases Y with
      | some u => rw [hq] at h1; cases h1
      | none => have := none_at _ hY; rw [ha, hb] at this; exact this
    · cases Z with
      | some u => rw [hs] at h1; cases h1
      | none => have := none_at _ hZ; rw [ha, hb] at this; exact this
    · cases X with
      | none => rw [hr] at h1; cases h1
      | some u => rw [hr]; have := some_at _ u hX; rw [dif_true]; exact ⟨this.2, this.1⟩
    · cases Y with
      | none => rw [hq] at h1; cases h1
      | some u => rw [hq]; have := some_at _ u hY; rw [dif_false]; exact ⟨this.2, this.1⟩
    · cases Z with
      | none => rw [hs] at h1; cases h1
      | some u => rw [hs]; have := some_at _ u hZ; rw [dif_false]; exact ⟨this.2, this.1⟩
  · left
    have hw2 : fewP [a, b] = false := by simpa using hw
    rw [hw2] at hr hq hs
    exact ⟨hr, hq, hs⟩
end Go.AM

namespace Go.AM
open Go.Proofs Cw
set_option maxRecDepth 10000
set_option maxHeartbeats 8000000
theorem WatchInward_spec (a b : Cnd) (hwa : wf a) (hwb : wf b) (fs : Fs) : APure Tryz.prog 5 [encC a, encC b, encF fs] (bv true) := by
  intro h n
  have k0 := Go.Proofs.SAN.sanity_ok
  have k1 := small_spec a hwa
  have k2 := small_spec b hwb
  refine ACalls.pure (ACalls.entry (by kernel_rfl) fun hb _ => calls_of Tryz.func5 rfl (by kernel_rfl) (by simp [Tryz.ntmps5]) ?_)
  by_cases ha : tot a ≤ 80
  · rw [decide_eq_true ha] at k1
    by_cases hb2 : tot b ≤ 80
    · rw [decide_eq_true hb2] at k2
      have k3 := Holds_spec a hwa (by omega) fs
      have k4 := Holds_spec b hwb (by omega) fs
      have k5 := Inward_spec a hwa (by omega)
      by_cases hfa : Cw.formed a = true ∧ fs.ok = true
      · obtain ⟨hfa, hf⟩ := hfa
        have hok : ok a = true ∧ tot a ≤ 60 := by simp only [Cw.formed, Bool.and_eq_true, decide_eq_true_eq] at hfa; exact ⟨hfa.1.1, hfa.1.2⟩
        obtain ⟨i1, i2, i3, i4, i5⟩ := inw_all _ a (Nat.le_refl _) hok.1 false
        have hfi := formed_inw a hfa
        have hwi := wf_inw _ a (Nat.le_refl _) hok.1 hwa false
        have k6 := Holds_spec (Cw.inw a false) hwi (by omega) fs
        have k7 := neg_spec _ (Cw.inw a false) (Nat.le_refl _) i1 hwi i4
        have e3 : outH a fs = (Cw.holds a fs, 0) := by simp [outH, hfa, hf]
        have e6 : outH (Cw.inw a false) fs = (Cw.holds a fs, 0) := by simp [outH, hfi, hf, i5]
        rw [e3] at k3
        rw [e6] at k6
        rw [hfa] at k5
        simp only [if_true] at k5
        clear i1 i2 i3 i4 i5 hfi hwi e3 e6
        by_cases hfb : Cw.formed b = true
        · have e4 : outH b fs = (Cw.holds b fs, 0) := by simp [outH, hfb, hf]
          rw [e4] at k4
          have k8 := Equal_spec a b hwa hwb (by omega) (by omega)
          have k9 := Implies_spec a b hwa hwb (by omega) (by omega)
          have k10 := Implies_spec b a hwb hwa (by omega) (by omega)
          have hj := fun f hf both hq => just_spec a b hwa hwb hfa hfb f hf both hq
          have hj2 := fun f hf both hq => just_spec b a hwb hwa hfb hfa f hf both hq
          have ht := t6 a b hfa hfb fs hf _ _ _ rfl rfl rfl
          generalize pdiffers a b (fun x y => x != y) = r at *
          generalize pdiffers a b (fun x y => x && !y) = q at *
          generalize pdiffers b a (fun x y => x && !y) = s at *
          clear hfa hfb hf hok ha hb2 hwa hwb e4
          rcases ht with ⟨rfl, rfl, rfl⟩ | ⟨t1, t2, t3, t4, t5, t6, t7, t8, t9⟩
          · clear hj hj2
            generalize Cw.inw a false = d at *
            generalize Cw.holds a fs = x at *
            generalize Cw.holds b fs = y at *
            obtain ⟨fa, fb, fc, fd, fe⟩ := fs
            obtain ⟨ak, af, ao, an, anl, afu, asz, aks⟩ := a
            obtain ⟨bk, bf, bo, bn, bnl, bfu, bsz, bks⟩ := b
            obtain ⟨dk, df, do', dn, dnl, dfu, dsz, dks⟩ := d
            simp only [encC] at k1 k2 k3 k4 k5 k6 k7 k8 k9 k10 ⊢
            repeat' (first | (refine ac_seq_h fun K hK => ?_) | (refine ac_region_h fun K hK => ?_; simp (disch := omega) [go_sem, *, upd_ne, Tryz.ntmps5 ]) | (apply Hide.out hK; clear hK K; try with_reducible dsimp only [thenA]) | (apply Hide.out ht; clear ht hf Kt Kf) | (apply Hide.out hf; clear ht hf Kt Kf) | (with_reducible refine APure.gcall (k0) ?_; try simp (disch := omega) [go_sem, * ]) | (with_reducible refine APure.gcall (k1) ?_; try simp (disch := omega) [go_sem, *, upd_ne ]) | (with_reducible refine APure.gcall (k2) ?_; try simp (disch := omega) [go_sem, * ]) | (with_reducible refine APure.gcall (k3) ?_; try simp (disch := omega) [go_sem, * ]) | (with_reducible refine APure.gcall (k4) ?_; try simp (disch := omega) [go_sem, * ]) | (with_reducible refine APure.gcall (k5) ?_; try simp (disch := omega) [go_sem, * ]) | (with_reducible refine APure.gcall (k6) ?_; try simp (disch := omega) [go_sem, * ]) | (with_reducible refine APure.gcall (k7) ?_; try simp (disch := omega) [go_sem, * ]) | (with_reducible refine APure.gcall (k8) ?_; try simp (disch := omega) [go_sem, * ]) | (with_reducible refine APure.gcall (k9) ?_; try simp (disch := omega) [go_sem, * ]) | (with_reducible refine APure.gcall (k10) ?_; try simp (disch := omega) [go_sem, * ]) | (refine ac_skip ?_; simp only [thenA]) | (refine ac_cond_h fun Kt Kf ht hf => ?_; simp (disch := omega) [go_sem, * ]; try (refine ⟨fun hc => ?_, fun hc => ?_⟩ <;> try (exfalso; omega))))
            (refine ac_ret ?_; try dsimp only [thenA, blockA]; refine ⟨by simp, _, (by first | rfl | (simp (disch := omega) [go_sem, upd_ne] <;> rfl)), ?_⟩; refine ret_id ⟨fun k hk => (by first | rfl | (repeat rw [upd_ne _ _ _ _ (by omega)])), (by simp [go_sem, below]), (by simp [go_sem] <;> omega), by simp, by simp⟩)
          · obtain ⟨rf, same, re⟩ := r
            obtain ⟨qf, tn, qe⟩ := q
            obtain ⟨sf, bk', se⟩ := s
            simp only at t1 t2 t3 t4 t5 t6 t7 t8 t9 k8 k9 k10
            subst t1 t2 t3 t4
            have kj1 := fun hh => hj rf (t7 hh).1 true (t7 hh).2
            have kj2 := fun hh => hj qf (t8 hh).1 false (t8 hh).2
            have kj3 := fun hh => hj2 sf (t9 hh).1 false (t9 hh).2
            clear t7 t8 t9 hj hj2
            generalize Cw.inw a false = d at *
            generalize Cw.holds a fs = x at *
            generalize Cw.holds b fs = y at *
            obtain ⟨fa, fb, fc, fd, fe⟩ := fs
            obtain ⟨r0, r1, r2, r3, r4⟩ := rf
            obtain ⟨q0, q1, q2, q3, q4⟩ := qf
            obtain ⟨s0, s1, s2, s3, s4⟩ := sf
            obtain ⟨ak, af, ao, an, anl, afu, asz, aks⟩ := a
            obtain ⟨bk, bf, bo, bn, bnl, bfu, bsz, bks⟩ := b
            obtain ⟨dk, df, do', dn, dnl, dfu, dsz, dks⟩ := d
            simp only [encC] at k1 k2 k3 k4 k5 k6 k7 k8 k9 k10 kj1 kj2 kj3 ⊢
            cases tn <;> cases bk' <;> cases x <;> cases y
            all_goals first | (exfalso; simp at t5; done) | (exfalso; simp at t6; done) | skip
            all_goals clear t5 t6
            all_goals first | replace kj1 := kj1 rfl | clear kj1
            all_goals first | replace kj2 := kj2 rfl | clear kj2
            all_goals first | replace kj3 := kj3 rfl | clear kj3
            all_goals repeat' (first | (refine ac_seq_h fun K hK => ?_) | (refine ac_region_h fun K hK => ?_; simp (disch := omega) [go_sem, *, upd_ne, Tryz.ntmps5 ]) | (apply Hide.out hK; clear hK K; try with_reducible dsimp only [thenA]) | (apply Hide.out hf; clear ht hf Kt Kf) | (with_reducible refine APure.gcall (k0) ?_; try simp (disch := omega) [go_sem, *, upd_ne ]) | (with_reducible refine APure.gcall (k1) ?_; try simp (disch := omega) [go_sem, *, upd_ne ]) | (with_reducible refine APure.gcall (k2) ?_; try simp (disch := omega) [go_sem, * ]) | (with_reducible refine APure.gcall (k3) ?_; try simp (disch := omega) [go_sem, * ]) | (with_reducible refine APure.gcall (k4) ?_; try simp (disch := omega) [go_sem, * ]) | (with_reducible refine APure.gcall (k5) ?_; try simp (disch := omega) [go_sem, * ]) | (with_reducible refine APure.gcall (k6) ?_; try simp (disch := omega) [go_sem, * ]) | (with_reducible refine APure.gcall (k7) ?_; try simp (disch := omega) [go_sem, * ]) | (with_reducible refine APure.gcall (k8) ?_; try simp (disch := omega) [go_sem, * ]) | (with_reducible refine APure.gcall (k9) ?_; try simp (disch := omega) [go_sem, * ]) | (with_reducible refine APure.gcall (k10) ?_; try simp (disch := omega) [go_sem, * ]) | (with_reducible refine APure.gcall (kj1) ?_; try simp (disch := omega) [go_sem, *, upd_ne ]) | (with_reducible refine APure.gcall (kj2) ?_; try simp (disch := omega) [go_sem, *, upd_ne ]) | (with_reducible refine APure.gcall (kj3) ?_; try simp (disch := omega) [go_sem, * ]) | (refine ac_skip ?_; simp only [thenA]) | (refine ac_cond_h fun Kt Kf ht hf => ?_; simp (disch := omega) [go_sem, * ]; try (refine ⟨fun hc => ?_, fun hc => ?_⟩ <;> try (exfalso; omega))))
            all_goals (refine ac_ret ?_; try dsimp only [thenA, blockA]; refine ⟨by simp, _, (by first | rfl | (simp (disch := omega) [go_sem, upd_ne] <;> rfl)), ?_⟩; refine ret_id ⟨fun k hk => (by first | rfl | (repeat rw [upd_ne _ _ _ _ (by omega)])), (by simp [go_sem, below]), (by simp [go_sem] <;> omega), by simp, by simp⟩)
        · have hfb2 : Cw.formed b = false := by simpa using hfb
          have e4 : outH b fs = (false, 7) := by simp [outH, hfb2]
          rw [e4] at k4
          clear hfa hfb hfb2 hf hok ha hb2 hwa hwb e4
          generalize Cw.inw a false = d at *
          generalize Cw.holds a fs = x at *
          obtain ⟨fa, fb, fc, fd, fe⟩ := fs
          obtain ⟨ak, af, ao, an, anl, afu, asz, aks⟩ := a
          obtain ⟨bk, bf, bo, bn, bnl, bfu, bsz, bks⟩ := b
          obtain ⟨dk, df, do', dn, dnl, dfu, dsz, dks⟩ := d
          simp only [encC] at k1 k2 k3 k4 k5 k6 k7 ⊢
          repeat' (first | (refine ac_seq_h fun K hK => ?_) | (refine ac_region_h fun K hK => ?_; simp (disch := omega) [go_sem, *, upd_ne, Tryz.ntmps5 ]) | (apply Hide.out hK; clear hK K; try with_reducible dsimp only [thenA]) | (apply Hide.out ht; clear ht hf Kt Kf) | (apply Hide.out hf; clear ht hf Kt Kf) | (with_reducible refine APure.gcall (k0) ?_; try simp (disch := omega) [go_sem, * ]) | (with_reducible refine APure.gcall (k1) ?_; try simp (disch := omega) [go_sem, *, upd_ne ]) | (with_reducible refine APure.gcall (k2) ?_; try simp (disch := omega) [go_sem, * ]) | (with_reducible refine APure.gcall (k3) ?_; try simp (disch := omega) [go_sem, * ]) | (with_reducible refine APure.gcall (k4) ?_; try simp (disch := omega) [go_sem, * ]) | (with_reducible refine APure.gcall (k5) ?_; try simp (disch := omega) [go_sem, * ]) | (with_reducible refine APure.gcall (k6) ?_; try simp (disch := omega) [go_sem, * ]) | (with_reducible refine APure.gcall (k7) ?_; try simp (disch := omega) [go_sem, * ]) | (refine ac_skip ?_; simp only [thenA]) | (refine ac_cond_h fun Kt Kf ht hf => ?_; simp (disch := omega) [go_sem, * ]; try (refine ⟨fun hc => ?_, fun hc => ?_⟩ <;> try (exfalso; omega))))
          (refine ac_ret ?_; try dsimp only [thenA, blockA]; refine ⟨by simp, _, (by first | rfl | (simp (disch := omega) [go_sem, upd_ne] <;> rfl)), ?_⟩; refine ret_id ⟨fun k hk => (by first | rfl | (repeat rw [upd_ne _ _ _ _ (by omega)])), (by simp [go_sem, below]), (by simp [go_sem] <;> omega), by simp, by simp⟩)
      · obtain ⟨e, he, he2⟩ : ∃ e, outH a fs = (false, e) ∧ e ≠ 0 := by
          unfold outH
          by_cases h1 : Cw.formed a = true
          · by_cases h2 : fs.ok = true
            · exact absurd ⟨h1, h2⟩ hfa
            · exact ⟨1, by simp [h1, h2], by decide⟩
          · exact ⟨7, by simp [h1], by decide⟩
        rw [he] at k3
        have hne : (e != 0) = true := by simpa using he2
        obtain ⟨d, hd⟩ : ∃ d, d = if Cw.formed a then Cw.inw a false else zC := ⟨_, rfl⟩
        have hwd : wf d ∧ tot d ≤ 900 := by
          rw [hd]
          by_cases h1 : Cw.formed a = true
          · rw [if_pos h1]
            have hok : ok a = true := by simp only [Cw.formed, Bool.and_eq_true] at h1; exact h1.1.1
            exact ⟨wf_inw _ a (Nat.le_refl _) hok hwa false, by have := (inw_all _ a (Nat.le_refl _) hok false).2.1; omega⟩
          · rw [if_neg h1]; exact ⟨by simp [zC, wf, wfL], by simp [zC, tot, totL]⟩
        rw [← hd] at k5
        have k6 := Holds_spec d hwd.1 hwd.2 fs
        generalize outH b fs = ob at *
        generalize outH d fs = od at *
        generalize (if Cw.formed a then (0 : Int) else 7) = ea at *
        obtain ⟨y, g⟩ := ob
        obtain ⟨z, i⟩ := od
        clear hd hwd he hfa he2 ha hb2 hwa hwb
        obtain ⟨fa, fb, fc, fd, fe⟩ := fs
        obtain ⟨ak, af, ao, an, anl, afu, asz, aks⟩ := a
        obtain ⟨bk, bf, bo, bn, bnl, bfu, bsz, bks⟩ := b
        obtain ⟨dk, df, do', dn, dnl, dfu, dsz, dks⟩ := d
        simp only [encC] at k1 k2 k3 k4 k5 k6 ⊢
        repeat' (first | (refine ac_seq_h fun K hK => ?_) | (refine ac_region_h fun K hK => ?_; simp (disch := omega) [go_sem, *, upd_ne, Tryz.ntmps5 ]) | (apply Hide.out hK; clear hK K; try with_reducible dsimp only [thenA]) | (apply Hide.out ht; clear ht hf Kt Kf) | (apply Hide.out hf; clear ht hf Kt Kf) | (with_reducible refine APure.gcall (k0) ?_; try simp (disch := omega) [go_sem, * ]) | (with_reducible refine APure.gcall (k1) ?_; try simp (disch := omega) [go_sem, *, upd_ne ]) | (with_reducible refine APure.gcall (k2) ?_; try simp (disch := omega) [go_sem, * ]) | (with_reducible refine APure.gcall (k3) ?_; try simp (disch := omega) [go_sem, * ]) | (with_reducible refine APure.gcall (k4) ?_; try simp (disch := omega) [go_sem, * ]) | (with_reducible refine APure.gcall (k5) ?_; try simp (disch := omega) [go_sem, * ]) | (with_reducible refine APure.gcall (k6) ?_; try simp (disch := omega) [go_sem, * ]) | (refine ac_skip ?_; simp only [thenA]) | (refine ac_cond_h fun Kt Kf ht hf => ?_; simp (disch := omega) [go_sem, * ]; try (refine ⟨fun hc => ?_, fun hc => ?_⟩ <;> try (exfalso; omega))))
        (refine ac_ret ?_; try dsimp only [thenA, blockA]; refine ⟨by simp, _, (by first | rfl | (simp (disch := omega) [go_sem, upd_ne] <;> rfl)), ?_⟩; refine ret_id ⟨fun k hk => (by first | rfl | (repeat rw [upd_ne _ _ _ _ (by omega)])), (by simp [go_sem, below]), (by simp [go_sem] <;> omega), by simp, by simp⟩)
    · rw [decide_eq_false hb2] at k2
      clear ha hb2 hwa hwb
      obtain ⟨fa, fb, fc, fd, fe⟩ := fs
      obtain ⟨ak, af, ao, an, anl, afu, asz, aks⟩ := a
      obtain ⟨bk, bf, bo, bn, bnl, bfu, bsz, bks⟩ := b
      simp only [encC] at k1 k2 ⊢
      repeat' (first | (refine ac_seq_h fun K hK => ?_) | (refine ac_region_h fun K hK => ?_; simp (disch := omega) [go_sem, *, upd_ne, Tryz.ntmps5 ]) | (apply Hide.out hK; clear hK K; try with_reducible dsimp only [thenA]) | (apply Hide.out ht; clear ht hf Kt Kf) | (with_reducible refine APure.gcall (k0) ?_; try simp (disch := omega) [go_sem, * ]) | (with_reducible refine APure.gcall (k1) ?_; try simp (disch := omega) [go_sem, *, upd_ne ]) | (with_reducible refine APure.gcall (k2) ?_; try simp (disch := omega) [go_sem, * ]) | (refine ac_cond_h fun Kt Kf ht hf => ?_; simp (disch := omega) [go_sem, * ]; try (refine ⟨fun hc => ?_, fun hc => ?_⟩ <;> try (exfalso; omega))))
      (refine ac_ret ?_; try dsimp only [thenA, blockA]; refine ⟨by simp, _, (by first | rfl | (simp (disch := omega) [go_sem, upd_ne] <;> rfl)), ?_⟩; refine ret_id ⟨fun k hk => (by first | rfl | (repeat rw [upd_ne _ _ _ _ (by omega)])), (by simp [go_sem, below]), (by simp [go_sem] <;> omega), by simp, by simp⟩)
  · rw [decide_eq_false ha] at k1
    clear ha hwa hwb
    generalize decide (tot b ≤ 80) = y at *
    obtain ⟨fa, fb, fc, fd, fe⟩ := fs
    obtain ⟨ak, af, ao, an, anl, afu, asz, aks⟩ := a
    obtain ⟨bk, bf, bo, bn, bnl, bfu, bsz, bks⟩ := b
    simp only [encC] at k1 k2 ⊢
    repeat' (first | (refine ac_seq_h fun K hK => ?_) | (refine ac_region_h fun K hK => ?_; simp (disch := omega) [go_sem, *, upd_ne, Tryz.ntmps5 ]) | (apply Hide.out hK; clear hK K; try with_reducible dsimp only [thenA]) | (apply Hide.out ht; clear ht hf Kt Kf) | (with_reducible refine APure.gcall (k0) ?_; try simp (disch := omega) [go_sem, * ]) | (with_reducible refine APure.gcall (k1) ?_; try simp (disch := omega) [go_sem, * ]) | (refine ac_cond_h fun Kt Kf ht hf => ?_; simp (disch := omega) [go_sem, * ]; try (refine ⟨fun hc => ?_, fun hc => ?_⟩ <;> try (exfalso; omega))))
    (refine ac_ret ?_; try dsimp only [thenA, blockA]; refine ⟨by simp, _, (by first | rfl | (simp (disch := omega) [go_sem, upd_ne] <;> rfl)), ?_⟩; refine ret_id ⟨fun k hk => (by first | rfl | (repeat rw [upd_ne _ _ _ _ (by omega)])), (by simp [go_sem, below]), (by simp [go_sem] <;> omega), by simp, by simp⟩)
end Go.AM
