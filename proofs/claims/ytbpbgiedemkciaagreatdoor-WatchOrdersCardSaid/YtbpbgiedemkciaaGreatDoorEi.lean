/- Orders, plainly: without the unused ones an order of the same name is given. Conditions: as each theorem says. -/
import Derived.Test.YtbpbgiedemkciaaGreatDoorEh
namespace Go.AM
open Go.RowKit
/-- less is said of one slot -/
theorem ac_slot [Vars] {P : Program} {fl : Nat} {code : Code} {Q : Exit → St → Prop} {st : St} {t : Nat} {x : AV} (hw : ∀ G v, Rv G (get st.s t) v → Rv G x v)
    (h : ACode P fl code Q { st with s := (t, x) :: st.s }) : ACode P fl code Q st := by
  intro r w0 G a w hr S hf
  refine h r w0 G a w hr ⟨S.inv, S.size, S.defers, fun t' => ?_, S.fresh⟩ hf
  simp only [get]
  by_cases e : t' = t
  · subst e; rw [if_pos rfl]; exact hw _ _ (S.slots t')
  · rw [if_neg e]; exact S.slots t'
/-- an owned row is frozen: the slot holds it by value from there on -/
theorem ac_fzslc [Vars] {P : Program} {fl : Nat} {code : Code} {Q : Exit → St → Prop} {st : St} {t m len s : Nat} {c : List AV} (agg : Bool) (has : agg = false → s = 1) (hm : st.h m = some (.cells c)) (ht : get st.s t = .slc m 0 len s) (hl : len * s ≤ c.length)
    (h : ACode P fl code Q { st with s := (t, .fslc false false s (elems agg s len c)) :: st.s, h := st.h.upd m none }) : ACode P fl code Q st := by
  intro r w0 G a w hr S hf
  obtain ⟨rg, hreg⟩ := (S.inv.obj m _ hm).hasReg
  have hle := Gh.le_freeze S.inv hm hreg
  have hx : Ext fl G (G.freeze w rg) := ⟨fun _ _ => rfl, hle.imm, ⟨[], rfl⟩, rfl, fun _ e => e⟩
  refine wpIn_mono (h r w0 (G.freeze w rg) a w hr ⟨S.inv.freeze hm hreg, S.size, S.defers, fun t' => ?_, S.fresh⟩ hf) fun _ _ _ ⟨G', st', e1, e2⟩ => ⟨G', st', hx.trans e1, e2⟩
  simp only [get]
  by_cases e : t' = t
  · subst e
    rw [if_pos rfl]
    have hv := S.slots t'
    rw [ht] at hv
    have := freeze_slc S.inv hm hreg agg has (off := 0) (len := len) (by omega) hv
    simpa using this
  · rw [if_neg e]; exact (S.slots t').mono hle.v _ _

/-- What append has made so far, elements by value: a slice and where its cells lie. -/
def acV (s m : Nat) (L : List AV) : AV := if L = [] then .fslc true true 0 [] else .slc m 0 L.length s
def acO (L : List AV) : Option AObj := if L = [] then none else some (.cells (flat L))
theorem ac_nil (s m : Nat) : acV s m [] = .fslc true true 0 [] := rfl
theorem acV_ne {s m : Nat} {L : List AV} (h : L ≠ []) : acV s m L = .slc m 0 L.length s := by rw [acV, if_neg h]
theorem acO_ne {L : List AV} (h : L ≠ []) : acO L = some (.cells (flat L)) := by rw [acO, if_neg h]
theorem upd_none_eq {h : AHeap} {m : Nat} (hm : h m = none) : h.upd m none = h := by
  funext k; by_cases e : k = m
  · subst e; rw [upd_same, hm]
  · rw [upd_ne _ _ _ _ e]
theorem flat_append (a b : List AV) : flat (a ++ b) = flat a ++ flat b := by simp [flat]
theorem flat_len {s : Nat} : ∀ {L : List AV}, (∀ x ∈ L, (cellsOf x).length = s) → (flat L).length = L.length * s
  | [], _ => by simp [flat]
  | x :: r, h => by
    have := flat_len (L := r) fun y hy => h y (by simp [hy])
    simp only [flat, List.map_cons, List.flatten_cons, List.length_append] at this ⊢
    rw [this, h x (by simp), List.length_cons, Nat.succ_mul]; omega
/-- append to what append has made so far -/
theorem ap_ac [Vars] {P : Program} {T e s by_ : Nat} {z : AV} (e1 : eltOf P T = some e) (e2 : szOf P e = some s) (e3 : byOf P e = some by_) (e4 : zerOf P e = some z) (hz : 0 < s ∧ (cellsOf z).length = s ∧ (cellsOf z).all AV.scalar = true ∧ by_ ≤ 2 ^ 20)
    {nm m : Nat} {L : List AV} {X : List AV} {nl full : Bool} {h : AHeap} (hm : h m = acO L) (hL : ∀ x ∈ L, (cellsOf x).length = s) (hX : X ≠ []) (hl : L.length + X.length ≤ 67108864) :
    aAppend P nm T (acV s m L) (.fslc nl full s X) h = some (acV s nm (L ++ X), (h.upd m none).upd nm (acO (L ++ X))) := by
  have hne : L ++ X ≠ [] := by simp [hX]
  have hX0 : X.length ≠ 0 := by simpa using hX
  have e26 : (2 : Nat) ^ 26 = 67108864 := by decide
  unfold aAppend
  rw [e1]; simp only [e2, e3, e4]
  rw [if_pos hz]
  simp only [srcCells, if_true]
  rw [acV_ne hne, acO_ne hne, flat_append]
  by_cases h0 : L = []
  · subst h0
    have hm' : h m = none := hm
    rw [upd_none_eq hm', ac_nil]
    have hnl : ¬ (X.length = 0) := hX0
    simp only [List.length_nil, Nat.zero_add] at hl
    have : X.length ≤ 2 ^ 26 := by rw [e26]; exact hl
    simp [hX, flat, this]
  · rw [acV_ne h0]
    rw [acO_ne h0] at hm
    have hfl := flat_len hL
    have : L.length + X.length ≤ 2 ^ 26 := by rw [e26]; exact hl
    have hnot : ¬ (0 + (L.length + X.length) * s ≤ (flat L).length) := by
      rw [hfl, Nat.add_mul]
      have := Nat.mul_pos (Nat.pos_of_ne_zero hX0) hz.1
      omega
    have hc : 0 + L.length * s = (flat L).length := by rw [hfl]; omega
    simp only [if_true, hm]
    rw [if_neg hnot, if_pos ⟨hc, this⟩]
    simp
/-- a row that append made, frozen: by value from there on -/
theorem ac_fzac [Vars] {P : Program} {fl : Nat} {code : Code} {Q : Exit → St → Prop} {st : St} {t m s : Nat} {L : List AV} (agg : Bool) (has : agg = false → s = 1) (hm : st.h m = acO L) (ht : get st.s t = acV s m L) (hL : ∀ x ∈ L, (cellsOf x).length = s) (he : elems agg s L.length (flat L) = L)
    (h : ACode P fl code Q { st with s := (t, .fslc L.isEmpty false s L) :: st.s, h := st.h.upd m none }) : ACode P fl code Q st := by
  by_cases h0 : L = []
  · subst h0
    have e : st.h.upd m none = st.h := upd_none_eq hm
    rw [e] at h
    refine ac_slot (t := t) (fun G v hv => ?_) h
    rw [ht, ac_nil] at hv
    simp only [Rv] at hv ⊢
    obtain ⟨a, cap, k1, k2, k3, k4, k5⟩ := hv
    exact ⟨a, cap, k1, k2, by simp, fun _ => k4 trivial, by simp⟩
  · have hemp : L.isEmpty = false := by simpa using h0
    rw [acV_ne h0] at ht
    rw [acO_ne h0] at hm
    refine ac_fzslc agg has hm ht (by rw [flat_len hL]; omega) ?_
    rw [he]
    rw [hemp] at h
    exact h
end Go.AM
namespace Cw
theorem snap : ∀ (l : List Int) (v : Int), (∃ u ∈ l, u ≤ v) → ∃ u ∈ l, u ≤ v ∧ ∀ w ∈ l, w ≤ v → w ≤ u
  | [], v, ⟨u, h, _⟩ => by simp at h
  | x :: r, v, h => by
    by_cases hr : ∃ u ∈ r, u ≤ v
    · obtain ⟨u, h1, h2, h3⟩ := snap r v hr
      by_cases hx : x ≤ v ∧ u ≤ x
      · exact ⟨x, by simp, hx.1, fun w hw hwv => by
          rcases List.mem_cons.1 hw with rfl | hw
          · exact Int.le_refl _
          · have := h3 w hw hwv; omega⟩
      · exact ⟨u, by simp [h1], h2, fun w hw hwv => by
          rcases List.mem_cons.1 hw with rfl | hw
          · omega
          · exact h3 w hw hwv⟩
    · obtain ⟨u, hu, huv⟩ := h
      rcases List.mem_cons.1 hu with rfl | hu
      · exact ⟨u, by simp, huv, fun w hw hwv => by
          rcases List.mem_cons.1 hw with rfl | hw
          · exact Int.le_refl _
          · exact absurd ⟨w, hw, hwv⟩ hr⟩
      · exact absurd ⟨u, hu, huv⟩ hr
theorem cmpr_snap (l : List Int) (v u : Int) (hv : v ≤ 10000) (h1 : u ∈ l) (h2 : u ≤ v) (h3 : ∀ w ∈ l, w ≤ v → w ≤ u) (n : Int) (hn : n ∈ l) (hn1 : min (n + 1) 10000 ∈ l) (o : Int) : cmpr u o n = cmpr v o n := by
  have a1 := h3 n hn
  have a2 := h3 _ hn1
  have key : (u < n ↔ v < n) ∧ (u = n ↔ v = n) ∧ (n < u ↔ n < v) := by
    refine ⟨⟨fun h => ?_, fun h => by omega⟩, ⟨fun h => ?_, fun h => ?_⟩, ⟨fun h => by omega, fun h => ?_⟩⟩
    · rcases Int.lt_or_le v n with h' | h'
      · exact h'
      · have := a1 h'; omega
    · rcases Int.lt_or_le n v with h' | h'
      · have := a2 (by omega); omega
      · omega
    · have := a1 (by omega); omega
    · have := a2 (by omega); omega
  obtain ⟨k1, k2, k3⟩ := key
  unfold cmpr
  have e1 : (u == n) = (v == n) := by rw [Bool.eq_iff_iff]; simpa using k2
  have e2 : (u != n) = (v != n) := by simp [bne, e1]
  have e3 : decide (u < n) = decide (v < n) := by simp [k1]
  have e4 : decide (u ≤ n) = decide (v ≤ n) := by rw [decide_eq_decide]; omega
  have e5 : decide (u > n) = decide (v > n) := by simp [k3]
  have e6 : decide (u ≥ n) = decide (v ≥ n) := by rw [decide_eq_decide]; omega
  rw [e1, e2, e3, e4, e5, e6]
mutual
theorem holds_snap (L : Int → List Int) (fs gs : Fs) (hg : ∀ j : Int, 0 ≤ j → j ≤ 4 → fs.at j ≤ 10000 ∧ gs.at j ∈ L j ∧ gs.at j ≤ fs.at j ∧ ∀ w ∈ L j, w ≤ fs.at j → w ≤ gs.at j) : ∀ c : Cnd, ok c = true → (∀ j : Int, ∀ x ∈ ask j c, x ∈ L j) → holds c gs = holds c fs
  | .mk k f o n nl fu s ks, hok, hask => by
    have hl : holdsL ks gs = holdsL ks fs := holdsL_snap L fs gs hg ks (by simp only [ok, Bool.and_eq_true] at hok; exact hok.2) fun j x hx => hask j x (by simp only [ask, List.mem_append]; exact .inr hx)
    simp only [holds]
    by_cases hk : k = 1
    · rw [if_pos hk, if_pos hk]
      have hf : 0 ≤ f ∧ f ≤ 4 := by
        simp only [ok, nodeOk, hk, if_true, wi, Bool.and_eq_true, decide_eq_true_eq] at hok; omega
      obtain ⟨h0, h1, h2, h3⟩ := hg f hf.1 hf.2
      exact cmpr_snap (L f) _ _ h0 h1 h2 h3 n (hask f n (by simp [ask, hk])) (hask f _ (by simp [ask, hk])) o
    · rw [if_neg hk, if_neg hk, hl]
theorem holdsL_snap (L : Int → List Int) (fs gs : Fs) (hg : ∀ j : Int, 0 ≤ j → j ≤ 4 → fs.at j ≤ 10000 ∧ gs.at j ∈ L j ∧ gs.at j ≤ fs.at j ∧ ∀ w ∈ L j, w ≤ fs.at j → w ≤ gs.at j) : ∀ cs : List Cnd, okL cs = true → (∀ j : Int, ∀ x ∈ askL j cs, x ∈ L j) → holdsL cs gs = holdsL cs fs
  | [], _, _ => rfl
  | c :: r, hok, hask => by
    simp only [okL, Bool.and_eq_true] at hok
    simp only [holdsL]
    rw [holds_snap L fs gs hg c hok.1 fun j x hx => hask j x (by simp only [askL, List.mem_append]; exact .inl hx), holdsL_snap L fs gs hg r hok.2 fun j x hx => hask j x (by simp only [askL, List.mem_append]; exact .inr hx)]
end
theorem mem_tup5 (A B C D E : List Int) (a b c d e : Int) (ha : a ∈ A) (hb : b ∈ B) (hc : c ∈ C) (hd : d ∈ D) (he : e ∈ E) : [a, b, c, d, e] ∈ tup [A, B, C, D, E] := by
  simp only [tup, List.mem_flatMap, List.mem_map]
  exact ⟨a, ha, _, ⟨b, hb, _, ⟨c, hc, _, ⟨d, hd, _, ⟨e, he, [], by simp, rfl⟩, rfl⟩, rfl⟩, rfl⟩, rfl⟩
theorem mem_numsP (j x : Int) (cs : List Cnd) : x ∈ numsP j cs ↔ x ∈ askL j cs ∨ x = 0 := by
  rw [numsP, mem_cpt, mem_sortI, List.mem_append]; simp
/-- for facts there is a choice for which all conditions hold alike -/
theorem cands_enough (cs : List Cnd) (h : okL cs = true) (fs : Fs) (hf : fs.ok = true) : ∃ t ∈ tup (candsP cs), ∀ c ∈ cs, holds c (toFs t) = holds c fs := by
  simp only [Fs.ok, wi, Bool.and_eq_true, decide_eq_true_eq] at hf
  have z : ∀ j, (0 : Int) ∈ numsP j cs := fun j => (mem_numsP j 0 cs).2 (.inr rfl)
  obtain ⟨a, a1, a2, a3⟩ := snap (numsP 0 cs) fs.a ⟨0, z 0, by omega⟩
  obtain ⟨b, b1, b2, b3⟩ := snap (numsP 1 cs) fs.b ⟨0, z 1, by omega⟩
  obtain ⟨c, c1, c2, c3⟩ := snap (numsP 2 cs) fs.c ⟨0, z 2, by omega⟩
  obtain ⟨d, d1, d2, d3⟩ := snap (numsP 3 cs) fs.d ⟨0, z 3, by omega⟩
  obtain ⟨e, e1, e2, e3⟩ := snap (numsP 4 cs) fs.e ⟨0, z 4, by omega⟩
  refine ⟨[a, b, c, d, e], mem_tup5 _ _ _ _ _ _ _ _ _ _ a1 b1 c1 d1 e1, fun x hx => ?_⟩
  have hokx : ok x = true := by
    clear z a1 a2 a3 b1 b2 b3 c1 c2 c3 d1 d2 d3 e1 e2 e3
    induction cs with
    | nil => simp at hx
    | cons y r ih =>
      simp only [okL, Bool.and_eq_true] at h
      rcases List.mem_cons.1 hx with rfl | hx
      · exact h.1
      · exact ih h.2 hx
  refine holds_snap (fun j => numsP j cs) fs _ (fun j h0 h4 => ?_) x hokx fun j y hy => (mem_numsP j y cs).2 (.inl ?_)
  · have : j = 0 ∨ j = 1 ∨ j = 2 ∨ j = 3 ∨ j = 4 := by omega
    rcases this with rfl | rfl | rfl | rfl | rfl
    · exact ⟨by show fs.a ≤ _; omega, a1, a2, a3⟩
    · exact ⟨by show fs.b ≤ _; omega, b1, b2, b3⟩
    · exact ⟨by show fs.c ≤ _; omega, c1, c2, c3⟩
    · exact ⟨by show fs.d ≤ _; omega, d1, d2, d3⟩
    · exact ⟨by show fs.e ≤ _; omega, e1, e2, e3⟩
  · clear z a1 a2 a3 b1 b2 b3 c1 c2 c3 d1 d2 d3 e1 e2 e3 h hokx
    induction cs with
    | nil => simp at hx
    | cons z r ih =>
      simp only [askL, List.mem_append]
      rcases List.mem_cons.1 hx with rfl | hx
      · exact .inl hy
      · exact .inr (ih hx)
end Cw
namespace Go.AM
open Go.Proofs Cw
set_option maxRecDepth 10000
set_option maxHeartbeats 4000000
theorem unO_len (l : List Ordr) : (unO l).1.length ≤ l.length := by
  unfold unO
  split
  · simp
  · split
    · exact unusU_len _ _
    · simp
def outH (c : Cnd) (fs : Fs) : Bool × Int := if !(Cw.formed c) then (false, 7) else if !fs.ok then (false, 1) else (Cw.holds c fs, 0)
theorem Holds_spec (c : Cnd) (hw : wf c) (hs : tot c ≤ 900) (fs : Fs) : APure Tryz.prog 10 [encC c, encF fs] (.tup [bv (outH c fs).1, iv .i64 (outH c fs).2]) := by
  intro h n
  have k1 := formed_spec c hw hs
  have k2 := valid_spec fs
  have k3 := fun hok => holds_spec _ c (Nat.le_refl _) hw hok fs
  have hfo : Cw.formed c = true → ok c = true := fun e => by simp only [Cw.formed, Bool.and_eq_true] at e; exact e.1.1
  refine ACalls.pure (ACalls.entry (by kernel_rfl) fun hb _ => calls_of Tryz.func10 rfl (by kernel_rfl) (by simp [Tryz.ntmps10]) ?_)
  unfold outH
  by_cases hf : Cw.formed c = true
  · replace k3 := k3 (hfo hf)
    rw [hf] at k1 ⊢
    clear hfo hf hs hw
    generalize Cw.holds c fs = x at *
    obtain ⟨k, f, o, nn, nl, fu, s, ks⟩ := c
    simp only [encC] at k1 k3 ⊢
    by_cases hv : fs.ok = true
    · rw [hv] at k2 ⊢
      simp only [Bool.not_true, Bool.false_eq_true, if_false]
      repeat' (first | (refine ac_seq_h fun K hK => ?_) | (refine ac_region_h fun K hK => ?_; simp (disch := omega) [go_sem, *, upd_ne, Tryz.ntmps10 ]) | (apply Hide.out hK; clear hK K; try with_reducible dsimp only [thenA]) | (apply Hide.out hf; clear ht hf Kt Kf) | (with_reducible refine APure.gcall (k1) ?_; try simp (disch := omega) [go_sem, * ]) | (with_reducible refine APure.gcall (k2) ?_; try simp (disch := omega) [go_sem, * ]) | (with_reducible refine APure.gcall (k3) ?_; try simp (disch := omega) [go_sem, * ]) | (refine ac_block ?_) | (refine ac_skip ?_; simp only [thenA, blockA]) | (refine ac_cond_h fun Kt Kf ht hf => ?_; simp (disch := omega) [go_sem, * ]; try (refine ⟨fun hc => ?_, fun hc => ?_⟩ <;> try (exfalso; omega))))
      (refine ac_ret ?_; try dsimp only [thenA, blockA]; refine ⟨by simp, _, (by first | rfl | (simp (disch := omega) [go_sem, upd_ne] <;> rfl)), ?_⟩; refine ret_id ⟨fun k hk => (by first | rfl | (repeat rw [upd_ne _ _ _ _ (by omega)])), (by simp [go_sem, below, belowL]), (by simp [go_sem] <;> omega), by simp, by simp⟩)
    · rw [Bool.not_eq_true] at hv
      rw [hv] at k2 ⊢
      simp only [Bool.not_true, Bool.not_false, Bool.false_eq_true, if_false, if_true]
      repeat' (first | (refine ac_seq_h fun K hK => ?_) | (refine ac_region_h fun K hK => ?_; simp (disch := omega) [go_sem, *, upd_ne, Tryz.ntmps10 ]) | (apply Hide.out hK; clear hK K; try with_reducible dsimp only [thenA]) | (apply Hide.out ht; clear ht hf Kt Kf) | (apply Hide.out hf; clear ht hf Kt Kf) | (with_reducible refine APure.gcall (k1) ?_; try simp (disch := omega) [go_sem, * ]) | (with_reducible refine APure.gcall (k2) ?_; try simp (disch := omega) [go_sem, * ]) | (refine ac_block ?_) | (refine ac_cond_h fun Kt Kf ht hf => ?_; simp (disch := omega) [go_sem, * ]; try (refine ⟨fun hc => ?_, fun hc => ?_⟩ <;> try (exfalso; omega))))
      (refine ac_ret ?_; try dsimp only [thenA, blockA]; refine ⟨by simp, _, (by first | rfl | (simp (disch := omega) [go_sem, upd_ne] <;> rfl)), ?_⟩; refine ret_id ⟨fun k hk => (by first | rfl | (repeat rw [upd_ne _ _ _ _ (by omega)])), (by simp [go_sem, below, belowL]), (by simp [go_sem] <;> omega), by simp, by simp⟩)
  · rw [Bool.not_eq_true] at hf
    rw [hf] at k1 ⊢
    clear hfo hf hs hw k3
    obtain ⟨k, f, o, nn, nl, fu, s, ks⟩ := c
    simp only [encC] at k1 ⊢
    simp only [Bool.not_false, if_true]
    repeat' (first | (refine ac_seq_h fun K hK => ?_) | (refine ac_region_h fun K hK => ?_; simp (disch := omega) [go_sem, *, upd_ne, Tryz.ntmps10 ]) | (apply Hide.out hK; clear hK K; try with_reducible dsimp only [thenA]) | (apply Hide.out ht; clear ht hf Kt Kf) | (with_reducible refine APure.gcall (k1) ?_; try simp (disch := omega) [go_sem, * ]) | (refine ac_block ?_) | (refine ac_cond_h fun Kt Kf ht hf => ?_; simp (disch := omega) [go_sem, * ]; try (refine ⟨fun hc => ?_, fun hc => ?_⟩ <;> try (exfalso; omega))))
    (refine ac_ret ?_; try dsimp only [thenA, blockA]; refine ⟨by simp, _, (by first | rfl | (simp (disch := omega) [go_sem, upd_ne] <;> rfl)), ?_⟩; refine ret_id ⟨fun k hk => (by first | rfl | (repeat rw [upd_ne _ _ _ _ (by omega)])), (by simp [go_sem, below, belowL]), (by simp [go_sem] <;> omega), by simp, by simp⟩)
end Go.AM

namespace Go.AM
open Cw
/-- no order holds: none is given -/
theorem givF_none (fs : Fs) : ∀ (l : List Ordr) (i : Nat) (b br : Int), (∀ o ∈ l, holds o.cond fs = false) → givF fs l i b br = b
  | [], _, _, _, _ => rfl
  | o :: r, i, b, br, h => by
    rw [givF, h o (by simp)]
    exact givF_none fs r (i + 1) b br fun x hx => h x (by simp [hx])
/-- those that hold have no greater rank: the best so far stays -/
theorem givF_keep (fs : Fs) : ∀ (l : List Ordr) (i : Nat) (b br : Int), 0 ≤ b → (∀ o ∈ l, holds o.cond fs = true → o.rank ≤ br) → givF fs l i b br = b
  | [], _, _, _, _, _ => rfl
  | o :: r, i, b, br, hb, h => by
    rw [givF]
    have e : (holds o.cond fs && (decide (b < 0) || decide (o.rank > br))) = false := by
      cases hc : holds o.cond fs with
      | false => rfl
      | true =>
        have := h o (by simp) hc
        have h1 : ¬ b < 0 := by omega
        have h2 : ¬ o.rank > br := by omega
        simp [h1, h2]
    rw [e]
    exact givF_keep fs r (i + 1) b br hb fun x hx => h x (by simp [hx])
/-- the first of those with the greatest rank -/
theorem givF_split (fs : Fs) (o : Ordr) (l2 : List Ordr) (ho : holds o.cond fs = true) (h2 : ∀ x ∈ l2, holds x.cond fs = true → x.rank ≤ o.rank) : ∀ (l1 : List Ordr) (i : Nat) (b br : Int), (0 ≤ b → br < o.rank) → (∀ x ∈ l1, holds x.cond fs = true → x.rank < o.rank) →
    givF fs (l1 ++ o :: l2) i b br = ((i + l1.length : Nat) : Int)
  | [], i, b, br, hb, _ => by
    rw [List.nil_append, givF, ho]
    have e : (decide (b < 0) || decide (o.rank > br)) = true := by
      by_cases h : b < 0
      · simp [h]
      · have := hb (by omega); simp; omega
    rw [e]
    simp only [Bool.and_self, if_true]
    rw [givF_keep fs l2 _ _ _ (by omega) h2]; simp
  | x :: r, i, b, br, hb, h1 => by
    rw [List.cons_append, givF]
    have hr : ∀ y ∈ r, holds y.cond fs = true → y.rank < o.rank := fun y hy => h1 y (by simp [hy])
    have e0 : i + (x :: r).length = (i + 1) + r.length := by simp only [List.length_cons]; omega
    rw [e0]
    split
    · rename_i hc
      simp only [Bool.and_eq_true] at hc
      exact givF_split fs o l2 ho h2 r (i + 1) _ _ (fun _ => h1 x (by simp) hc.1) hr
    · exact givF_split fs o l2 ho h2 r (i + 1) _ _ hb hr
/-- which is given: none, or the first of those with the greatest rank -/
theorem giv_cases (fs : Fs) : ∀ (l : List Ordr), (∀ o ∈ l, holds o.cond fs = false) ∨ ∃ l1 o l2, l = l1 ++ o :: l2 ∧ holds o.cond fs = true ∧ (∀ x ∈ l1, holds x.cond fs = true → x.rank < o.rank) ∧ ∀ x ∈ l2, holds x.cond fs = true → x.rank ≤ o.rank
  | [] => .inl (by simp)
  | x :: r => by
    rcases giv_cases fs r with h | ⟨l1, o, l2, e, ho, h1, h2⟩
    · by_cases hx : holds x.cond fs = true
      · exact .inr ⟨[], x, r, rfl, hx, by simp, fun y hy hh => by rw [h y hy] at hh; cases hh⟩
      · refine .inl fun y hy => ?_
        rcases List.mem_cons.1 hy with rfl | hy
        · simpa using hx
        · exact h y hy
    · by_cases hx : holds x.cond fs = true ∧ o.rank ≤ x.rank
      · refine .inr ⟨[], x, r, rfl, hx.1, by simp, fun y hy hh => ?_⟩
        rw [e] at hy
        rcases List.mem_append.1 hy with hy | hy
        · have := h1 y hy hh; omega
        · rcases List.mem_cons.1 hy with rfl | hy
          · exact hx.2
          · have := h2 y hy hh; omega
      · refine .inr ⟨x :: l1, o, l2, by rw [e]; rfl, ho, fun y hy hh => ?_, h2⟩
        rcases List.mem_cons.1 hy with rfl | hy
        · have : ¬ o.rank ≤ y.rank := fun h => hx ⟨hh, h⟩
          omega
        · exact h1 y hy hh
theorem giv_none {l : List Ordr} {fs : Fs} (h : ∀ o ∈ l, holds o.cond fs = false) : giv l fs = -1 := givF_none fs l 0 (-1) 0 h
theorem giv_split {fs : Fs} {l1 l2 : List Ordr} {o : Ordr} (ho : holds o.cond fs = true) (h1 : ∀ x ∈ l1, holds x.cond fs = true → x.rank < o.rank) (h2 : ∀ x ∈ l2, holds x.cond fs = true → x.rank ≤ o.rank) : giv (l1 ++ o :: l2) fs = (l1.length : Int) := by
  have := givF_split fs o l2 ho h2 l1 0 (-1) 0 (fun h => by omega) h1
  rw [giv, this, Nat.zero_add]
/-- the order that is given holds, and none that holds has a greater rank -/
theorem giv_best (l : List Ordr) (fs : Fs) : (giv l fs = -1 ∧ ∀ o ∈ l, holds o.cond fs = false) ∨ ∃ (g : Nat) (o : Ordr), giv l fs = g ∧ l[g]? = some o ∧ holds o.cond fs = true ∧ ∀ x ∈ l, holds x.cond fs = true → x.rank ≤ o.rank := by
  rcases giv_cases fs l with h | ⟨l1, o, l2, rfl, ho, h1, h2⟩
  · exact .inl ⟨giv_none h, h⟩
  · refine .inr ⟨l1.length, o, giv_split ho h1 h2, by simp, ho, fun x hx hh => ?_⟩
    rcases List.mem_append.1 hx with hx | hx
    · have := h1 x hx hh; omega
    · rcases List.mem_cons.1 hx with rfl | hx
      · exact Int.le_refl _
      · exact h2 x hx hh
/-- conditions that hold alike give the same order -/
theorem givF_congr (fs gs : Fs) : ∀ (l : List Ordr) (i : Nat) (b br : Int), (∀ o ∈ l, holds o.cond fs = holds o.cond gs) → givF fs l i b br = givF gs l i b br
  | [], _, _, _, _ => rfl
  | o :: r, i, b, br, h => by
    have hr : ∀ x ∈ r, holds x.cond fs = holds x.cond gs := fun x hx => h x (by simp [hx])
    rw [givF, givF, h o (by simp), givF_congr fs gs r _ _ _ hr, givF_congr fs gs r _ _ _ hr]
/-- the orders at the places that are kept -/
def keepO (p : Nat → Bool) : Nat → List Ordr → List Ordr
  | _, [] => []
  | i, o :: r => if p i then o :: keepO p (i + 1) r else keepO p (i + 1) r
theorem keepO_mem (p : Nat → Bool) : ∀ (l : List Ordr) (i : Nat), ∀ x ∈ keepO p i l, x ∈ l
  | [], _, x, hx => by simp [keepO] at hx
  | o :: r, i, x, hx => by
    rw [keepO] at hx
    split at hx
    · rcases List.mem_cons.1 hx with rfl | hx
      · simp
      · simp [keepO_mem p r (i + 1) x hx]
    · simp [keepO_mem p r (i + 1) x hx]
theorem keepO_app (p : Nat → Bool) : ∀ (a b : List Ordr) (i : Nat), keepO p i (a ++ b) = keepO p i a ++ keepO p (i + a.length) b
  | [], b, i => by simp [keepO]
  | o :: r, b, i => by
    have e : i + (o :: r).length = i + 1 + r.length := by simp only [List.length_cons]; omega
    rw [List.cons_append, keepO, keepO, keepO_app p r b (i + 1), e]
    split <;> rfl
theorem keepO_len (p : Nat → Bool) : ∀ (l : List Ordr) (i : Nat), (keepO p i l).length ≤ l.length
  | [], _ => by simp [keepO]
  | o :: r, i => by
    have := keepO_len p r (i + 1)
    rw [keepO]
    split <;> simp <;> omega
theorem keepO_take (p : Nat → Bool) (l : List Ordr) (k : Nat) (hk : k < l.length) : keepO p 0 (l.take (k + 1)) = if p k then keepO p 0 (l.take k) ++ [l[k]] else keepO p 0 (l.take k) := by
  rw [List.take_succ_eq_append_getElem hk, keepO_app, List.length_take, Nat.zero_add, Nat.min_eq_left (by omega)]
  simp only [keepO]
  split <;> simp
/-- where the given order is kept, an order of the same name is given -/
theorem giv_keep (p : Nat → Bool) (l : List Ordr) (fs : Fs) (hp : ∀ g : Nat, giv l fs = g → p g = true) : (giv l fs = -1 ∧ giv (keepO p 0 l) fs = -1) ∨ ∃ (g k : Nat) (o : Ordr), giv l fs = g ∧ giv (keepO p 0 l) fs = k ∧ l[g]? = some o ∧ (keepO p 0 l)[k]? = some o := by
  rcases giv_cases fs l with h | ⟨l1, o, l2, rfl, ho, h1, h2⟩
  · exact .inl ⟨giv_none h, giv_none fun x hx => h x (keepO_mem p l 0 x hx)⟩
  · have hg := giv_split ho h1 h2
    have hk := hp _ hg
    have e : keepO p 0 (l1 ++ o :: l2) = keepO p 0 l1 ++ o :: keepO p (l1.length + 1) l2 := by
      rw [keepO_app, Nat.zero_add, keepO, hk, if_pos rfl]
    refine .inr ⟨l1.length, (keepO p 0 l1).length, o, hg, ?_, by simp, by rw [e]; simp⟩
    rw [e]
    exact giv_split ho (fun x hx => h1 x (keepO_mem p l1 0 x hx)) fun x hx => h2 x (keepO_mem p l2 _ x hx)
theorem nameG_keep (p : Nat → Bool) (l : List Ordr) (fs : Fs) (hp : ∀ g : Nat, giv l fs = g → p g = true) : nameG (keepO p 0 l) fs = nameG l fs := by
  unfold nameG
  rcases giv_keep p l fs hp with ⟨h1, h2⟩ | ⟨g, k, o, h1, h2, h3, h4⟩
  · rw [h1, h2]; rfl
  · rw [h1, h2]; simp [h3, h4]
theorem mem_askL (j x : Int) : ∀ cs : List Cnd, x ∈ askL j cs ↔ ∃ c ∈ cs, x ∈ Cw.ask j c
  | [] => by simp [askL]
  | c :: r => by simp [askL, mem_askL j x r]
theorem numsP_sub (j : Int) (a b : List Cnd) (h : ∀ c ∈ b, c ∈ a) : numsP j (a ++ b) = numsP j a := by
  refine ss_ext _ _ (ss_cpt _ (sortI_sorted _)) (ss_cpt _ (sortI_sorted _)) fun x => ?_
  rw [numsP, numsP, mem_cpt, mem_cpt, mem_sortI, mem_sortI, List.mem_append, List.mem_append, mem_askL, mem_askL]
  constructor
  · rintro (⟨c, hc, hx⟩ | hx)
    · rcases List.mem_append.1 hc with hc | hc
      · exact .inl ⟨c, hc, hx⟩
      · exact .inl ⟨c, h c hc, hx⟩
    · exact .inr hx
  · rintro (⟨c, hc, hx⟩ | hx)
    · exact .inl ⟨c, List.mem_append.2 (.inl hc), hx⟩
    · exact .inr hx
theorem candsP_sub (a b : List Cnd) (h : ∀ c ∈ b, c ∈ a) : candsP (a ++ b) = candsP a := by
  simp only [candsP, numsP_sub _ a b h]
theorem lensP_sub (a b : List Cnd) (h : ∀ c ∈ b, c ∈ a) : ∀ k, lensP (a ++ b) k = lensP a k
  | 0 => rfl
  | k + 1 => by simp only [lensP, lensP_sub a b h k, numsP_sub _ a b h]
theorem fewP_sub (a b : List Cnd) (h : ∀ c ∈ b, c ∈ a) : fewP (a ++ b) = fewP a := by
  unfold fewP; simp only [lensP_sub a b h]
/-- which places are used: those not among the unused -/
def used (l : List Ordr) (k : Nat) : Bool := hit l (tup (candsP (condsO l))) k
/-- for facts, the order that is given is used -/
theorem giv_used (l : List Ordr) (h : okO l) (fs : Fs) (hf : fs.ok = true) (g : Nat) (hg : giv l fs = g) : used l g = true := by
  obtain ⟨t, ht, hh⟩ := cands_enough (condsO l) (okL_of l h) fs hf
  have e : giv l (toFs t) = giv l fs := givF_congr _ _ l 0 (-1) 0 fun o ho => hh _ (List.mem_map.2 ⟨o, ho, rfl⟩)
  rw [used, hit, List.any_eq_true]
  exact ⟨t, ht, by rw [e, hg]; simp⟩
theorem mem_unusU (u : Nat → Bool) (n k : Nat) (hk : k < n) : ((k : Int) ∈ unusU u n) ↔ u k = false := by
  unfold unusU
  simp only [List.mem_map, List.mem_filter, List.mem_range, Bool.not_eq_true']
  constructor
  · rintro ⟨j, ⟨_, h⟩, e⟩
    have : j = k := by omega
    rw [← this]; exact h
  · exact fun h => ⟨k, ⟨hk, h⟩, rfl⟩
/-- without the unused ones the same is given for all facts -/
theorem sameO_used (l : List Ordr) (h1 : chk l = 0) (h2 : fewP (condsO l) = true) : sameO l (keepO (used l) 0 l) = (⟨0, 0, 0, 0, 0⟩, true, 0) := by
  have hz := chk_zero h1
  have hsub : ∀ c ∈ condsO (keepO (used l) 0 l), c ∈ condsO l := fun c hc => by
    obtain ⟨o, ho, e⟩ := List.mem_map.1 hc
    exact List.mem_map.2 ⟨o, keepO_mem _ _ _ o ho, e⟩
  have hc : chk (keepO (used l) 0 l) = 0 := by
    have h3 := keepO_len (used l) l 0
    unfold chk
    rw [if_neg (by omega), if_pos]
    rw [List.all_eq_true]
    exact fun o ho => List.all_eq_true.1 hz.1 o (keepO_mem _ _ _ o ho)
  unfold sameO
  rw [if_neg (by simpa using h1), if_neg (by simpa using hc), fewP_sub _ _ hsub, if_pos h2, candsP_sub _ _ hsub, findO]
  have e : (tup (candsP (condsO l))).find? (difO l (keepO (used l) 0 l)) = none := by
    rw [List.find?_eq_none]
    intro t ht
    have : nameG (keepO (used l) 0 l) (toFs t) = nameG l (toFs t) := nameG_keep _ _ _ fun g hg => by
      rw [used, hit, List.any_eq_true]
      exact ⟨t, ht, by rw [hg]; simp⟩
    simp [difO, this]
  rw [e]; rfl
end Go.AM

namespace Go.AM
open Go.Proofs Cw
set_option maxRecDepth 10000
set_option maxHeartbeats 4000000
theorem free29g (nl fu : Bool) (s : Nat) (xs : List Int) (hnl : xs = [] ∨ nl = false ∧ s = 1) (hl : xs.length ≤ 1000000) (v : Int) : APure Tryz.prog 29 [.fslc nl fu s (xs.map (iv .i64)), iv .i64 v] (bv (decide (v ∉ xs))) := by
  intro h n
  refine ACalls.pure (ACalls.entry (by kernel_rfl) fun hb _ => calls_of Tryz.func29 rfl (by kernel_rfl) (by simp [Tryz.ntmps29]) ?_)
  obtain ⟨T, hT⟩ : ∃ T, Hide (T = decide (v ∉ xs)) := ⟨_, rfl⟩
  rw [← hT.out]
  replace hnl : Hide _ := hnl
  repeat' (first | (refine ac_seq_h fun K hK => ?_) | (refine ac_region_h fun K hK => ?_; simp (disch := omega) [go_sem, *, Tryz.ntmps29]) | (apply Hide.out hK; clear hK K; try with_reducible dsimp only [thenA]) | (refine ac_block ?_))
  refine ac_loop_wk (fun s' => ∃ (i n' : Nat), n ≤ n' ∧ i ≤ xs.length ∧ (∀ x ∈ xs.take i, x ≠ v) ∧ s' = ⟨18, [(0, .fslc nl fu s (xs.map (iv .i64))), (1, iv .i64 v), (5, iv .i64 i)], h, n'⟩)
      (fun s' => xs.length - (intAt s' 5).toNat) ?_ ?_
  · exact loop_start (by simp [go_sem]) (Sub.refl _) ⟨0, _, by omega, by omega, by simp, rfl⟩
  · rintro s' ⟨i, n', hn', hi, hall, rfl⟩
    replace hall : Hide _ := hall
    by_cases hlt : i < xs.length
    · have hne : xs ≠ [] := fun e => by rw [e] at hlt; simp at hlt
      obtain ⟨rfl, rfl⟩ := hnl.out.resolve_left hne
      obtain ⟨x, hx⟩ : ∃ x, xs[i] = x := ⟨_, rfl⟩
      have hmem : x ∈ xs := hx ▸ List.getElem_mem hlt
      clear hne
      by_cases hv : x = v
      · have hTf : T = false := by rw [hT.out]; simpa [← hv] using hmem
        subst hTf
        subst hv
        replace hmem : Hide _ := trivial
        repeat' (first | (refine ac_seq_h fun K hK => ?_) | (refine ac_region_h fun K hK => ?_; simp (disch := omega) [go_sem, *, ilt_true, ile_true]) | (apply Hide.out hK; clear hK K; try with_reducible dsimp only [thenA]) | (apply Hide.out ht; clear ht hf Kt Kf) | (refine ac_block ?_) | (refine ac_skip ?_; simp only [thenA]) | (refine ac_cond_h fun Kt Kf ht hf => ?_; simp (disch := omega) [go_sem, *]; try (refine ⟨fun hc => ?_, fun hc => ?_⟩ <;> try (exfalso; omega))))
        (refine ac_ret ?_; try dsimp only [thenA, blockA]; refine ⟨by simp, _, (by first | rfl | (simp (disch := omega) [go_sem, upd_ne] <;> rfl)), ?_⟩; refine ret_id ⟨fun k hk => (by first | rfl | (repeat rw [upd_ne _ _ _ _ (by omega)])), (by simp [go_sem, below]), (by simp [go_sem] <;> omega), by simp, by simp⟩)
      · have hta : xs.take (i + 1) = xs.take i ++ [x] := by rw [List.take_succ_eq_append_getElem hlt, hx]
        replace hmem : Hide _ := trivial
        replace hta : Hide _ := hta
        have hvf : (x == v) = false := by simpa using hv
        replace hv : Hide _ := hv
        repeat' (first | (refine ac_seq_h fun K hK => ?_) | (refine ac_region_h fun K hK => ?_; simp (disch := omega) [go_sem, *, wrap64_id, ilt_true, ile_true]) | (apply Hide.out hK; clear hK K; try with_reducible dsimp only [thenA]) | (apply Hide.out ht; clear ht hf Kt Kf) | (apply Hide.out hf; clear ht hf Kt Kf) | (refine ac_block ?_) | (refine ac_skip ?_; simp only [thenA, blockA]) | (refine ac_cond_h fun Kt Kf ht hf => ?_; simp (disch := omega) [go_sem, *]; try (refine ⟨fun hc => ?_, fun hc => ?_⟩ <;> try (exfalso; omega))))
        exact round_end (by simp (disch := omega) [go_sem]) (Sub.refl _) ⟨i + 1, _, by omega, by omega, fun y hy => by
          rw [hta.out] at hy
          rcases List.mem_append.1 hy with hy | hy
          · exact hall.out y hy
          · rw [List.mem_singleton.1 hy]; exact hv.out, rfl⟩ (by simp [intAt, go_sem]; omega)
    · have hii : i = xs.length := by omega
      subst hii
      have hTt : T = true := by
        rw [hT.out, decide_eq_true_eq]
        intro hm
        exact hall.out v (by rw [List.take_length]; exact hm) rfl
      subst hTt
      clear hall
      repeat' (first | (refine ac_seq_h fun K hK => ?_) | (refine ac_region_h fun K hK => ?_; simp (disch := omega) [go_sem, *]) | (apply Hide.out hK; clear hK K; try with_reducible dsimp only [thenA]) | (apply Hide.out hf; clear ht hf Kt Kf) | (clear hK K; apply Hide.out hK; clear hK K; try with_reducible dsimp only [thenA]) | (refine ac_exit ?_; simp only [thenA, blockA, if_true]) | (refine ac_cond_h fun Kt Kf ht hf => ?_; simp (disch := omega) [go_sem, *]; try (refine ⟨fun hc => ?_, fun hc => ?_⟩ <;> try (exfalso; omega))))
      (refine ac_ret ?_; try dsimp only [thenA, blockA]; refine ⟨by simp, _, (by first | rfl | (simp (disch := omega) [go_sem, upd_ne] <;> rfl)), ?_⟩; refine ret_id ⟨fun k hk => (by first | rfl | (repeat rw [upd_ne _ _ _ _ (by omega)])), (by simp [go_sem, below]), (by simp [go_sem] <;> omega), by simp, by simp⟩)
theorem free29 (xs : List Int) (hl : xs.length ≤ 1000000) (v : Int) : APure Tryz.prog 29 [rowF xs, iv .i64 v] (bv (decide (v ∉ xs))) := by
  by_cases h0 : xs = []
  · subst h0; exact free29g true true 0 [] (.inl rfl) (by simp) v
  · have e : rowF xs = .fslc false false 1 (xs.map (iv .i64)) := by rw [rowF, if_neg h0]
    rw [e]; exact free29g false false 1 xs (.inr ⟨rfl, rfl⟩) hl v
theorem cellsO_len (o : Ordr) : (cellsOf (encO o)).length = 7 := by obtain ⟨a, b, c⟩ := o; cases c; simp [encO, cellsOf]
theorem elemsO : ∀ l : List Ordr, elems true 7 (l.map encO).length (flat (l.map encO)) = l.map encO
  | [] => rfl
  | ⟨nm, rk, .mk k f o n nl fu s ks⟩ :: r => by
    have ih := elemsO r
    have e : flat ((⟨nm, rk, .mk k f o n nl fu s ks⟩ :: r : List Ordr).map encO) = [sv nm, iv .i64 rk, iv .i64 k, iv .i64 f, iv .i64 o, iv .i64 n, .fslc nl fu s (encL ks)] ++ flat (r.map encO) := by simp [encO, flat, cellsOf]
    rw [e]
    simp only [elems, List.length_cons, chunk, List.map_cons, encO] at ih ⊢
    have e1 : List.drop 7 ([sv nm, iv .i64 rk, iv .i64 k, iv .i64 f, iv .i64 o, iv .i64 n, AV.fslc nl fu s (encL ks)] ++ flat (r.map encO)) = flat (r.map encO) := rfl
    have e2 : List.take 7 ([sv nm, iv .i64 rk, iv .i64 k, iv .i64 f, iv .i64 o, iv .i64 n, AV.fslc nl fu s (encL ks)] ++ flat (r.map encO)) = [sv nm, iv .i64 rk, iv .i64 k, iv .i64 f, iv .i64 o, iv .i64 n, AV.fslc nl fu s (encL ks)] := rfl
    rw [e1, e2, ih]; rfl
theorem ap_ord {nm m : Nat} {l : List Ordr} {x : Ordr} {h : AHeap} {b c : Bool} (hm : h m = acO (l.map encO)) (hl : l.length ≤ 1000) :
    aAppend Tryz.prog nm 42 (acV 7 m (l.map encO)) (.fslc b c 7 [encO x]) h = some (acV 7 nm ((l ++ [x]).map encO), (h.upd m none).upd nm (acO ((l ++ [x]).map encO))) := by
  have := ap_ac (P := Tryz.prog) (T := 42) (e := 60) (s := 7) (by_ := 80) (z := .agg [sv ByteArray.empty, iv .i64 0, iv .i64 0, iv .i64 0, iv .i64 0, iv .i64 0, .fslc true true 0 []]) (by kernel_rfl) (by kernel_rfl) (by kernel_rfl) (by kernel_rfl) (by simp [cellsOf, AV.scalar]) (nm := nm) (m := m) (L := l.map encO) (X := [encO x]) (nl := b) (full := c) hm (fun y hy => by obtain ⟨o, _, rfl⟩ := List.mem_map.1 hy; exact cellsO_len o) (by simp) (by simp; omega)
  rw [List.map_append]; exact this
end Go.AM
