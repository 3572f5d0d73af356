/- Copies of a version, by the program. Conditions: as each theorem says. -/
import Derived.Test.YtabidiilbgakoaaGreatDoorVb
import Derived.Test.YtabidiilbgakoaaGreatDoorAmh
namespace Go.AM
open Go.Proofs Cw Du
section
theorem getDV_set_ne (D : Array Bool) (i j : Nat) (h : i ≠ j) : (D.setIfInBounds i true).getD j false = D.getD j false := by
  simp only [Array.getD_eq_getD_getElem?, Array.getElem?_setIfInBounds, if_neg h]
theorem getDV_set_same (D : Array Bool) (i : Nat) (h : i < D.size) : (D.setIfInBounds i true).getD i false = true := by
  simp [Array.getD_eq_getD_getElem?, h]
theorem getDV_false {D : Array Bool} {i : Nat} (h : D.getD i true = false) : D.getD i false = false := by
  rw [Array.getD_eq_getD_getElem?] at h ⊢
  cases hd : D[i]? with
  | none => rfl
  | some b => rw [hd] at h; simpa using h
theorem getV_ne (t u : Nat) (x : AV) (s : List (Nat × AV)) (h : t ≠ u) : get ((t, x) :: s) u = get s u := by simp only [get]; rw [if_neg (fun e => h e.symm)]
theorem getV_same (t : Nat) (x : AV) (s : List (Nat × AV)) : get ((t, x) :: s) t = x := by simp [get]
def SLs (L : List (Nat × Nat)) (val : Nat → AV) (D : Array Bool) (ss : List (Nat × AV)) : Prop := ∀ p ∈ L, D.getD p.1 false = true → get ss p.2 = val p.1
theorem SLs.step {L : List (Nat × Nat)} {val : Nat → AV} {D : Array Bool} {ss : List (Nat × AV)} (h : SLs L val D ss) (i t : Nat) (v : AV) (hL : L.all (fun p => (p.2 == t) == (p.1 == i)) = true) (hv : ∀ p ∈ L, p.1 = i → val i = v) : SLs L val (D.setIfInBounds i true) ((t, v) :: ss) := by
  intro p hp hd
  have h1 := List.all_eq_true.1 hL p hp
  by_cases hi : p.1 = i
  · have ht : p.2 = t := by simpa [hi] using h1
    rw [ht, getV_same, hi, hv p hp hi]
  · have ht : p.2 ≠ t := by
      intro e; simp [e, hi] at h1
    rw [getV_ne _ _ _ _ (fun e => ht e.symm)]
    rw [getDV_set_ne _ _ _ (fun e => hi e.symm)] at hd
    exact h p hp hd
theorem SLs.skip {L : List (Nat × Nat)} {val : Nat → AV} {D : Array Bool} {ss : List (Nat × AV)} (h : SLs L val D ss) (i : Nat) (hL : L.all (fun p => p.1 != i) = true) : SLs L val (D.setIfInBounds i true) ss := by
  intro p hp hd
  have h1 := List.all_eq_true.1 hL p hp
  rw [getDV_set_ne _ _ _ (fun e => by simp [e] at h1)] at hd
  exact h p hp hd
end
def slV : List (Nat × Nat) := [(0, 5), (1, 6), (2, 7), (4, 9), (5, 10), (6, 11), (8, 13), (9, 14), (11, 15), (12, 16)]
def valV (n : Nat) (LA OA : AV) (i : Nat) : AV := if i = 2 then LA else if i = 6 then OA else if i = 5 ∨ i = 12 then .ptr n 3 else .ptr n 2
structure V1 (n base : Nat) (id fr : Int) (LA OA : AV) (bl bo : Bool) (LL OO : List AV) (h : AHeap) (mL mO : Nat) (D : Array Bool) (s : St) : Prop where
  nt : s.nt = 62
  le : base + 14 ≤ s.n
  g1 : get s.s 1 = .ptr n 0
  g2 : get s.s 2 = .ptr (n + 1) 0
  c1 : s.h (n + 1) = some (.cells [iv .i64 0, iv .i64 0, .fslc true true 0 [], .fslc true true 0 []])
  fx : ∀ x, x < n → s.h x = h x
  sl : SLs slV (valV n LA OA) D s.s
  c0 : ∃ a b, s.h n = some (.cells [iv .i64 id, iv .i64 fr, a, b]) ∧ (D.getD 10 false = false → a = LA) ∧ (D.getD 10 false = true → a = clV 8 mL bl LL) ∧ (D.getD 13 false = false → b = OA) ∧ (D.getD 13 false = true → b = clV 7 mO bo OO)
  d3 : D.getD 3 false = true → get s.s 8 = clV 8 mL bl LL ∧ base + 14 ≤ mL ∧ mL < s.n ∧ s.h mL = acO LL
  d7 : D.getD 7 false = true → get s.s 12 = clV 7 mO bo OO ∧ base + 14 ≤ mO ∧ mO < s.n ∧ s.h mO = acO OO
  dj : D.getD 3 false = true → D.getD 7 false = true → mL ≠ mO
  o10 : D.getD 10 false = true → D.getD 3 false = true
  o13 : D.getD 13 false = true → D.getD 7 false = true
section
variable {n base : Nat} {id fr : Int} {LA OA : AV} {bl bo : Bool} {LL OO : List AV} {h : AHeap} {mL mO : Nat} {D : Array Bool} {ss : List (Nat × AV)} {sh : AHeap} {sn : Nat}
theorem V1.plain (J : V1 n base id fr LA OA bl bo LL OO h mL mO D ⟨62, ss, sh, sn⟩) (i t : Nat) (v : AV) (hi : i ≠ 3 ∧ i ≠ 7 ∧ i ≠ 10 ∧ i ≠ 13) (ht : t ≠ 1 ∧ t ≠ 2 ∧ t ≠ 8 ∧ t ≠ 12) (hL : slV.all (fun p => (p.2 == t) == (p.1 == i)) = true) (hv : valV n LA OA i = v) :
    V1 n base id fr LA OA bl bo LL OO h mL mO (D.setIfInBounds i true) ⟨62, (t, v) :: ss, sh, sn⟩ := by
  obtain ⟨nt, le, g1, g2, c1, f, sl, c0, d3, d7, dj, o10, o13⟩ := J
  obtain ⟨i1, i2, i3, i4⟩ := hi
  obtain ⟨t1, t2, t3, t4⟩ := ht
  refine ⟨rfl, le, ?_, ?_, c1, f, sl.step i t v hL fun _ _ _ => hv, ?_, ?_, ?_, ?_, ?_, ?_⟩
  · simp only; rw [getV_ne _ _ _ _ t1]; exact g1
  · simp only; rw [getV_ne _ _ _ _ t2]; exact g2
  · rw [getDV_set_ne _ _ _ i3, getDV_set_ne _ _ _ i4]; exact c0
  · rw [getDV_set_ne _ _ _ i1]; simp only; rw [getV_ne _ _ _ _ t3]; exact d3
  · rw [getDV_set_ne _ _ _ i2]; simp only; rw [getV_ne _ _ _ _ t4]; exact d7
  · rw [getDV_set_ne _ _ _ i1, getDV_set_ne _ _ _ i2]; exact dj
  · rw [getDV_set_ne _ _ _ i1, getDV_set_ne _ _ _ i3]; exact o10
  · rw [getDV_set_ne _ _ _ i2, getDV_set_ne _ _ _ i4]; exact o13
theorem V1.call3 (J : V1 n base id fr LA OA bl bo LL OO h mL mO D ⟨62, ss, sh, sn⟩) (hsz : D.size = 14) (hl : D.getD 3 false = false) (hn : n + 2 ≤ base) {m nn : Nat} {hh : AHeap} (h1 : sn ≤ m) (h2 : m < nn) (h3 : hh m = acO LL) (h4 : ∀ x, x < sn → hh x = sh x) :
    V1 n base id fr LA OA bl bo LL OO h m mO (D.setIfInBounds 3 true) ⟨62, (8, clV 8 m bl LL) :: ss, hh, nn⟩ := by
  obtain ⟨nt, le, g1, g2, c1, f, sl, c0, d3, d7, dj, o10, o13⟩ := J
  simp only at le c1 f c0 d3 d7
  have h10 : D.getD 10 false = false := by
    cases e : D.getD 10 false with
    | false => rfl
    | true => rw [o10 e] at hl; cases hl
  refine ⟨rfl, by simp only; omega, ?_, ?_, ?_, ?_, sl.step 3 8 _ (by decide) (fun p hp e => by simp [slV] at hp; rcases hp with rfl | rfl | rfl | rfl | rfl | rfl | rfl | rfl | rfl | rfl <;> cases e), ?_, ?_, ?_, ?_, ?_, ?_⟩
  · simp only; rw [getV_ne _ _ _ _ (by decide)]; exact g1
  · simp only; rw [getV_ne _ _ _ _ (by decide)]; exact g2
  · simp only; rw [h4 _ (by omega)]; exact c1
  · intro x hx; simp only; rw [h4 _ (by omega)]; exact f x hx
  · rw [getDV_set_ne _ _ _ (by decide), getDV_set_ne _ _ _ (by decide)]
    simp only
    rw [h4 _ (by omega)]
    obtain ⟨a, b, e1, e2, e3, e4⟩ := c0
    exact ⟨a, b, e1, e2, fun e => (by rw [h10] at e; cases e), e4⟩
  · intro _
    refine ⟨?_, by omega, h2, h3⟩
    simp only; rw [getV_same]
  · rw [getDV_set_ne _ _ _ (by decide)]; simp only; rw [getV_ne _ _ _ _ (by decide)]
    intro e
    obtain ⟨e1, e2, e3, e4⟩ := d7 e
    exact ⟨e1, e2, by omega, by rw [h4 _ e3]; exact e4⟩
  · rw [getDV_set_ne _ 3 7 (by decide)]
    intro _ e
    have := (d7 e).2.2.1
    omega
  · intro _; exact getDV_set_same _ _ (by omega)
  · rw [getDV_set_ne _ _ _ (by decide), getDV_set_ne _ _ _ (by decide)]; exact o13
theorem V1.call7 (J : V1 n base id fr LA OA bl bo LL OO h mL mO D ⟨62, ss, sh, sn⟩) (hsz : D.size = 14) (hl : D.getD 7 false = false) (hn : n + 2 ≤ base) {m nn : Nat} {hh : AHeap} (h1 : sn ≤ m) (h2 : m < nn) (h3 : hh m = acO OO) (h4 : ∀ x, x < sn → hh x = sh x) :
    V1 n base id fr LA OA bl bo LL OO h mL m (D.setIfInBounds 7 true) ⟨62, (12, clV 7 m bo OO) :: ss, hh, nn⟩ := by
  obtain ⟨nt, le, g1, g2, c1, f, sl, c0, d3, d7, dj, o10, o13⟩ := J
  simp only at le c1 f c0 d3 d7
  have h13 : D.getD 13 false = false := by
    cases e : D.getD 13 false with
    | false => rfl
    | true => rw [o13 e] at hl; cases hl
  refine ⟨rfl, by simp only; omega, ?_, ?_, ?_, ?_, sl.step 7 12 _ (by decide) (fun p hp e => by simp [slV] at hp; rcases hp with rfl | rfl | rfl | rfl | rfl | rfl | rfl | rfl | rfl | rfl <;> cases e), ?_, ?_, ?_, ?_, ?_, ?_⟩
  · simp only; rw [getV_ne _ _ _ _ (by decide)]; exact g1
  · simp only; rw [getV_ne _ _ _ _ (by decide)]; exact g2
  · simp only; rw [h4 _ (by omega)]; exact c1
  · intro x hx; simp only; rw [h4 _ (by omega)]; exact f x hx
  · rw [getDV_set_ne _ _ _ (by decide), getDV_set_ne _ _ _ (by decide)]
    simp only
    rw [h4 _ (by omega)]
    obtain ⟨a, b, e1, e2, e3, e4, e5⟩ := c0
    exact ⟨a, b, e1, e2, e3, e4, fun e => (by rw [h13] at e; cases e)⟩
  · rw [getDV_set_ne _ _ _ (by decide)]; simp only; rw [getV_ne _ _ _ _ (by decide)]
    intro e
    obtain ⟨e1, e2, e3, e4⟩ := d3 e
    exact ⟨e1, e2, by omega, by rw [h4 _ e3]; exact e4⟩
  · intro _
    refine ⟨?_, by omega, h2, h3⟩
    simp only; rw [getV_same]
  · rw [getDV_set_ne _ 7 3 (by decide)]
    intro e _
    have := (d3 e).2.2.1
    omega
  · rw [getDV_set_ne _ _ _ (by decide), getDV_set_ne _ _ _ (by decide)]; exact o10
  · intro _; exact getDV_set_same _ _ (by omega)
theorem V1.put10 (J : V1 n base id fr LA OA bl bo LL OO h mL mO D ⟨62, ss, sh, sn⟩) (hsz : D.size = 14) (hl : D.getD 10 false = false) (hn : n + 2 ≤ base) (h3 : D.getD 3 false = true) :
    ∃ b, sh n = some (.cells [iv .i64 id, iv .i64 fr, LA, b]) ∧ V1 n base id fr LA OA bl bo LL OO h mL mO (D.setIfInBounds 10 true) ⟨62, ss, sh.upd n (some (.cells [iv .i64 id, iv .i64 fr, clV 8 mL bl LL, b])), sn⟩ := by
  obtain ⟨nt, le, g1, g2, c1, f, sl, c0, d3, d7, dj, o10, o13⟩ := J
  simp only at le c1 f c0 d3 d7
  obtain ⟨a, b, e1, e2, e3, e4⟩ := c0
  have ea := e2 hl
  subst ea
  refine ⟨b, e1, rfl, le, g1, g2, ?_, ?_, sl.skip 10 (by decide), ?_, ?_, ?_, ?_, ?_, ?_⟩
  · simp only; rw [upd_ne _ _ _ _ (by omega)]; exact c1
  · intro x hx; simp only; rw [upd_ne _ _ _ _ (by omega)]; exact f x hx
  · rw [getDV_set_ne _ 10 13 (by decide), getDV_set_same _ _ (by omega)]
    simp only
    rw [upd_same]
    exact ⟨_, b, rfl, fun e => (by cases e), fun _ => rfl, e4⟩
  · rw [getDV_set_ne _ _ _ (by decide)]; simp only
    intro e
    obtain ⟨k1, k2, k3, k4⟩ := d3 e
    exact ⟨k1, k2, k3, by rw [upd_ne _ _ _ _ (by omega)]; exact k4⟩
  · rw [getDV_set_ne _ _ _ (by decide)]; simp only
    intro e
    obtain ⟨k1, k2, k3, k4⟩ := d7 e
    exact ⟨k1, k2, k3, by rw [upd_ne _ _ _ _ (by omega)]; exact k4⟩
  · rw [getDV_set_ne _ _ _ (by decide), getDV_set_ne _ _ _ (by decide)]; exact dj
  · intro _; rw [getDV_set_ne _ _ _ (by decide)]; exact h3
  · rw [getDV_set_ne _ _ _ (by decide), getDV_set_ne _ _ _ (by decide)]; exact o13
theorem V1.put13 (J : V1 n base id fr LA OA bl bo LL OO h mL mO D ⟨62, ss, sh, sn⟩) (hsz : D.size = 14) (hl : D.getD 13 false = false) (hn : n + 2 ≤ base) (h7 : D.getD 7 false = true) :
    ∃ a, sh n = some (.cells [iv .i64 id, iv .i64 fr, a, OA]) ∧ V1 n base id fr LA OA bl bo LL OO h mL mO (D.setIfInBounds 13 true) ⟨62, ss, sh.upd n (some (.cells [iv .i64 id, iv .i64 fr, a, clV 7 mO bo OO])), sn⟩ := by
  obtain ⟨nt, le, g1, g2, c1, f, sl, c0, d3, d7, dj, o10, o13⟩ := J
  simp only at le c1 f c0 d3 d7
  obtain ⟨a, b, e1, e2, e3, e4, e5⟩ := c0
  have eb := e4 hl
  subst eb
  refine ⟨a, e1, rfl, le, g1, g2, ?_, ?_, sl.skip 13 (by decide), ?_, ?_, ?_, ?_, ?_, ?_⟩
  · simp only; rw [upd_ne _ _ _ _ (by omega)]; exact c1
  · intro x hx; simp only; rw [upd_ne _ _ _ _ (by omega)]; exact f x hx
  · rw [getDV_set_ne _ 13 10 (by decide), getDV_set_same _ _ (by omega)]
    simp only
    rw [upd_same]
    exact ⟨a, _, rfl, e2, e3, fun e => (by cases e), fun _ => rfl⟩
  · rw [getDV_set_ne _ _ _ (by decide)]; simp only
    intro e
    obtain ⟨k1, k2, k3, k4⟩ := d3 e
    exact ⟨k1, k2, k3, by rw [upd_ne _ _ _ _ (by omega)]; exact k4⟩
  · rw [getDV_set_ne _ _ _ (by decide)]; simp only
    intro e
    obtain ⟨k1, k2, k3, k4⟩ := d7 e
    exact ⟨k1, k2, k3, by rw [upd_ne _ _ _ _ (by omega)]; exact k4⟩
  · rw [getDV_set_ne _ _ _ (by decide), getDV_set_ne _ _ _ (by decide)]; exact dj
  · rw [getDV_set_ne _ _ _ (by decide), getDV_set_ne _ _ _ (by decide)]; exact o10
  · intro _; rw [getDV_set_ne _ _ _ (by decide)]; exact h7
end
end Go.AM
namespace Go.AM
open Go.Proofs Cw Du
set_option maxRecDepth 10000
set_option maxHeartbeats 4000000
theorem clV_or (s m : Nat) (nl : Bool) (L : List AV) : (∃ a b c, clV s m nl L = .fslc a b c []) ∨ ∃ len, clV s m nl L = .slc m 0 len s := by
  unfold clV; split
  · split <;> exact .inl ⟨_, _, _, rfl⟩
  · exact .inr ⟨_, rfl⟩
theorem elems_flat {s : Nat} : ∀ L : List AV, (∀ x ∈ L, ∃ cs, x = .agg cs ∧ cs.length = s) → elems true s L.length (flat L) = L
  | [], _ => rfl
  | x :: r, h => by
    obtain ⟨cs, rfl, hc⟩ := h x (by simp)
    have ih := elems_flat r fun y hy => h y (by simp [hy])
    have e : flat (.agg cs :: r) = cs ++ flat r := by simp [flat, cellsOf]
    rw [e]
    simp only [elems, List.length_cons, chunk, List.map_cons] at ih ⊢
    rw [← hc, List.take_left, List.drop_left, hc, ih]; rfl
def clF (s : Nat) (nl : Bool) (L : List AV) : AV := .fslc (if L.isEmpty then nl else false) L.isEmpty (if L.isEmpty && nl then 0 else s) L
theorem ret_clV2 {fl : Nat} {K : AV → AHeap → Nat → Prop} {a b : AV} {h : AHeap} {n mL mO s1 s2 : Nat} {bl bo : Bool} {L O L' O' : List AV} [Vars] (ha : ∀ m c, fz m c true a = a) (hb : ∀ m c, fz m c true b = b)
    (hL : ∀ x ∈ L', ∃ cs, x = .agg cs ∧ cs.length = s1) (hO : ∀ x ∈ O', ∃ cs, x = .agg cs ∧ cs.length = s2) (lL : L.length = L'.length) (lO : O.length = O'.length) (hd : mL ≠ mO) (h1 : h mL = acO L') (h2 : h mO = acO O')
    (hk : RetOk fl K (.agg [a, b, clF s1 bl L', clF s2 bo O']) ((h.upd mL none).upd mO none) n) : RetOk fl K (.agg [a, b, clV s1 mL bl L, clV s2 mO bo O]) h n := by
  have one : ∀ (s m : Nat) (nl : Bool) (X X' : List AV) (c : List AV), X.length = X'.length → X' ≠ [] → c = flat X' → (∀ x ∈ X', ∃ cs, x = .agg cs ∧ cs.length = s) → fz m c true (clV s m nl X) = clF s nl X' := by
    intro s m nl X X' c hl hne hc hx
    have hX : X ≠ [] := fun e => by subst e; exact hne (List.length_eq_zero_iff.1 hl.symm)
    have hfl := flat_len (s := s) (L := X') (fun x hx' => by obtain ⟨cs, rfl, h⟩ := hx x hx'; exact h)
    have he : X'.isEmpty = false := by simpa using hne
    rw [clV, if_neg hX, clF, he, fz, hl, hc, if_pos ⟨rfl, by omega, by simp⟩, List.drop_zero, elems_flat X' hx]; rfl
  have nil : ∀ (s m : Nat) (nl : Bool), clV s m nl [] = clF s nl [] := by
    intro s m nl; cases nl <;> rfl
  have oth : ∀ (s m m' : Nat) (nl : Bool) (X c : List AV), m ≠ m' → fz m' c true (clV s m nl X) = clV s m nl X := by
    intro s m m' nl X c hm
    unfold clV; split
    · split <;> rfl
    · rw [fz, if_neg (fun e => hm e.1)]
  have step2 : RetOk fl K (.agg [a, b, clF s1 bl L', clV s2 mO bo O]) (h.upd mL none) n := by
    by_cases hO0 : O' = []
    · subst hO0
      have : O = [] := List.length_eq_zero_iff.1 lO
      subst this
      rw [upd_none_eq (by rw [upd_ne _ _ _ _ (fun e => hd e.symm)]; exact h2)] at hk
      rw [nil]; exact hk
    · rw [acO_ne hO0] at h2
      refine ret_freeze true (m := mO) (c := flat O') (by rw [upd_ne _ _ _ _ (fun e => hd e.symm)]; exact h2) ?_
      have ef : fzT mO (flat O') true (.agg [a, b, clF s1 bl L', clV s2 mO bo O]) = .agg [a, b, clF s1 bl L', clF s2 bo O'] := by
        simp only [fzT, List.map_cons, List.map_nil, ha, hb]
        rw [one s2 mO bo O O' _ lO hO0 rfl hO]; rfl
      rw [ef]; exact hk
  by_cases hL0 : L' = []
  · subst hL0
    have : L = [] := List.length_eq_zero_iff.1 lL
    subst this
    rw [upd_none_eq h1] at step2
    rw [nil]; exact step2
  · rw [acO_ne hL0] at h1
    refine ret_freeze true (m := mL) (c := flat L') h1 ?_
    have ef : fzT mL (flat L') true (.agg [a, b, clV s1 mL bl L, clV s2 mO bo O]) = .agg [a, b, clF s1 bl L', clV s2 mO bo O] := by
      simp only [fzT, List.map_cons, List.map_nil, ha, hb]
      rw [one s1 mL bl L L' _ lL hL0 rfl hL, oth _ _ _ _ _ _ (fun e => hd e.symm)]
    rw [ef]; exact step2
theorem clI_or (nl : Bool) (xs : List Int) : ∃ a b c l, clI nl xs = .fslc a b c l := by
  unfold clI; split
  · split <;> exact ⟨_, _, _, _, rfl⟩
  · exact ⟨_, _, _, _, rfl⟩
theorem encLn_cp (l : Lin) : encLn (cpL l) = .agg [iv .i64 l.kind, sv l.tower, sv l.person, sv l.other, iv .i64 l.fr, iv .i64 l.to, iv .i64 l.ev, clI l.nl l.exc] := by
  unfold cpL clI encLn
  by_cases h : l.exc = []
  · rw [h]; cases l.nl <;> rfl
  · have : l.exc.isEmpty = false := by simpa using h
    rw [this, if_neg h]; rfl
theorem below_encV (m : Nat) (v : Ver) : below m (encV v) := by
  have h1 : ∀ L : List Lin, belowL m (L.map encLn) := fun L => by
    rw [belowL_iff]
    intro x hx
    obtain ⟨y, _, rfl⟩ := List.mem_map.1 hx
    have : belowL m (y.exc.map (iv .i64)) := by
      rw [belowL_iff]; intro z hz; obtain ⟨w, _, rfl⟩ := List.mem_map.1 hz; simp [below]
    simp [encLn, below, belowL, iv, sv, this]
  have h2 : ∀ L : List Ordr, belowL m (L.map encO) := fun L => by
    rw [belowL_iff]
    intro x hx
    obtain ⟨⟨a, b, c⟩, _, rfl⟩ := List.mem_map.1 hx
    obtain ⟨k, f, o, nn, nl, fu, s, ks⟩ := c
    simp [encO, below, belowL, iv, sv, belowK]
  simp [encV, below, belowL, iv, h1, h2]
def Q2 (D : Array Bool) : Prop := (D.getD 3 false = true → D.getD 2 false = true) ∧ (D.getD 7 false = true → D.getD 6 false = true)
theorem Q2.set {D : Array Bool} (q : Q2 D) (hsz : D.size = 14) (i : Nat) (h3 : i = 3 → D.getD 2 false = true) (h7 : i = 7 → D.getD 6 false = true) : Q2 (D.setIfInBounds i true) := by
  have key : ∀ j, (D.setIfInBounds i true).getD j false = if i = j ∧ j < 14 then true else D.getD j false := fun j => by
    by_cases h : i = j
    · subst h
      by_cases h2 : i < 14
      · rw [getDV_set_same _ _ (by omega), if_pos ⟨rfl, h2⟩]
      · rw [if_neg (by omega)]
        simp [Array.getD_eq_getD_getElem?, show ¬ i < D.size by omega]
    · rw [getDV_set_ne _ _ _ h, if_neg (by omega)]
  refine ⟨fun e => ?_, fun e => ?_⟩
  · rw [key] at e ⊢
    by_cases h : i = 3
    · rw [h3 h]; simp
    · rw [if_neg (by omega)] at e; rw [q.1 e]; simp
  · rw [key] at e ⊢
    by_cases h : i = 7
    · rw [h7 h]; simp
    · rw [if_neg (by omega)] at e; rw [q.2 e]; simp
theorem copied_spec (v : Ver) (hw : wfV v) : APure Tryz.prog 52 [encV v] (encV (cpV v)) := by
  intro h n
  refine ACalls.pure (ACalls.entry (by kernel_rfl) fun hb _ => calls_of Tryz.func52 rfl (by kernel_rfl) (by simp [Tryz.ntmps52]) ?_)
  have kL := cloneLn v.nlL v.fuL v.sL v.ls hw.l1 hw.l3
  have kO := cloneOr v.nlO v.fuO v.sO v.os hw.o1 hw.o4
  simp only [encV]
  obtain ⟨v1, v2, v3, v4, v5, v6, v7, v8, v9, v10⟩ := v
  simp only at kL kO ⊢
  replace hw : Hide _ := hw
  obtain ⟨LL, hLL⟩ : ∃ LL, List.map encLn v6 = LL := ⟨_, rfl⟩
  obtain ⟨OO, hOO⟩ : ∃ OO, List.map encO v10 = OO := ⟨_, rfl⟩
  rw [hLL] at kL ⊢
  rw [hOO] at kO ⊢
  replace hLL : Hide _ := hLL
  replace hOO : Hide _ := hOO
  replace kL : Hide _ := kL
  replace kO : Hide _ := kO
  repeat' (first | (refine ac_seq_h fun K hK => ?_) | (refine ac_region_h fun K hK => ?_; simp (disch := omega) [go_sem, *, Tryz.ntmps52]) | (apply Hide.out hK; clear hK K; try with_reducible dsimp only [thenA]))
  refine ac_midV (fun s' => ∃ (mL mO n2 : Nat) (H : AHeap), n + 2 ≤ mL ∧ mL < n2 ∧ n + 2 ≤ mO ∧ mO < n2 ∧ mL ≠ mO ∧ H n = some (.cells [iv .i64 v1, iv .i64 v2, clV 8 mL v3 LL, clV 7 mO v7 OO]) ∧ H (n + 1) = some (.cells [iv .i64 0, iv .i64 0, .fslc true true 0 [], .fslc true true 0 []]) ∧ H mL = acO LL ∧ H mO = acO OO ∧ (∀ x, x < n → H x = h x) ∧ s' = ⟨62, [(1, .ptr n 0), (2, .ptr (n + 1) 0)], H, n2⟩) ?_ ?_
  · rintro s' ⟨mL, mO, n2, H, p1, p2, p3, p4, p5, p6, p7, p8, p9, p10, rfl⟩
    clear kL kO
    refine hK.out _ ?_
    clear hK K
    refine ac_seq_h fun K hK => ?_
    refine ac_seq_h fun K hK => ?_
    refine ac_midV (fun s' => ∃ n3, n2 ≤ n3 ∧ s' = ⟨62, [(1, .ptr n 0), (2, .ptr (n + 1) 0), (20, iv .i64 v6.length), (21, iv .i64 0)], H, n3⟩) ?_ ?_
    · rintro s' ⟨n3, q1, rfl⟩
      refine hK.out _ ?_
      clear hK K
      repeat' (first | (refine ac_block ?_))
      refine ac_loop_wk (fun s' => ∃ (i n4 : Nat) (H' : AHeap), n2 ≤ n4 ∧ i ≤ v6.length ∧ H' n = some (.cells [iv .i64 v1, iv .i64 v2, clV 8 mL v3 LL, clV 7 mO v7 OO]) ∧ H' (n + 1) = some (.cells [iv .i64 0, iv .i64 0, .fslc true true 0 [], .fslc true true 0 []]) ∧ H' mL = acO (((v6.take i).map cpL).map encLn ++ (v6.drop i).map encLn) ∧ H' mO = acO OO ∧ (∀ x, x < n → H' x = h x) ∧ s' = ⟨62, [(1, .ptr n 0), (2, .ptr (n + 1) 0), (20, iv .i64 v6.length), (21, iv .i64 i)], H', n4⟩) (fun s' => v6.length - (intAt s' 21).toNat) ?_ ?_
      · exact loop_start (by simp [go_sem]) (Sub.refl _) ⟨0, _, _, by (try simp only); omega, by omega, p6, p7, by rw [p8, ← hLL.out]; rfl, p9, p10, rfl⟩
      · clear p8 p9 p6 p7 p10
        rintro s' ⟨i, n4, H', hn4, hi, g0, g1, g2, g3, g4, rfl⟩
        replace g4 : Hide _ := g4
        replace g3 : Hide _ := g3
        by_cases hlt : i < v6.length
        · obtain ⟨x, hx⟩ : ∃ x, v6[i] = x := ⟨_, rfl⟩
          have hdr : v6.drop i = x :: v6.drop (i + 1) := by rw [List.drop_eq_getElem_cons hlt, hx]
          have htk : v6.take (i + 1) = v6.take i ++ [x] := by rw [List.take_succ_eq_append_getElem hlt, hx]
          have hmem : x ∈ v6 := hx ▸ List.getElem_mem hlt
          have hLne : LL ≠ [] := fun e => by
            have := congrArg List.length (hLL.out.trans e); rw [List.length_map] at this; simp at this; rw [this] at hlt; simp at hlt
          have hLl : LL.length = v6.length := by rw [← hLL.out, List.length_map]
          rw [clV, if_neg hLne, hLl] at g0
          rw [hdr, List.map_cons, acO_ne (by simp)] at g2
          have hA : (((v6.take i).map cpL).map encLn).length = i := by rw [List.length_map, List.length_map, List.length_take]; omega
          have fa := flat_at (s := 8) (((v6.take i).map cpL).map encLn) ((v6.drop (i + 1)).map encLn) (encLn x) (fun y hy => by obtain ⟨z, _, rfl⟩ := List.mem_map.1 hy; rfl) rfl
          have hfA := flat_len (s := 8) (L := ((v6.take i).map cpL).map encLn) (fun y hy => by obtain ⟨z, _, rfl⟩ := List.mem_map.1 hy; rfl)
          rw [hA] at fa hfA
          obtain ⟨q1, q2, q3, q4, q5⟩ := hw.out.l2 x hmem
          have kx := cloneI x.nl x.fu x.s x.exc q1 (by omega)
          have hend : flat (((v6.take (i + 1)).map cpL).map encLn ++ (v6.drop (i + 1)).map encLn) = flat (((v6.take i).map cpL).map encLn) ++ (cellsOf (encLn (cpL x)) ++ flat ((v6.drop (i + 1)).map encLn)) := by
            rw [htk]
            simp [flat]
          have hcn : ((v6.take (i + 1)).map cpL).map encLn ++ (v6.drop (i + 1)).map encLn ≠ [] := by rw [htk]; simp
          have hl6 : v6.length ≤ 1000000 := hw.out.l3
          rw [encLn_cp] at hend
          obtain ⟨y1, y2, y3, y4, hcl⟩ := clI_or x.nl x.exc
          rw [hcl] at kx hend
          obtain ⟨x1, x2, x3, x4, x5, x6, x7, x8, x9, x10, x11⟩ := x
          simp only [cellsOf, encLn] at kx hend fa g2
          generalize List.map (iv .i64) x11 = XX at *
          generalize hcc : flat (((v6.take i).map cpL).map encLn ++ _ :: (v6.drop (i + 1)).map encLn) = C at *
          generalize flat (((v6.take i).map cpL).map encLn) = FA at *
          generalize flat ((v6.drop (i + 1)).map encLn) = FB at *
          obtain ⟨fd, ft, fe⟩ := fa
          have hCe : C = (FA ++ [iv .i64 x1, sv x2, sv x3, sv x4, iv .i64 x5, iv .i64 x6, iv .i64 x7]) ++ (.fslc x8 x9 x10 XX :: FB) := by
            have := (List.take_append_drop (i * 8) C).symm
            rw [ft, fd] at this
            rw [this]; simp
          have hl7 : (FA ++ [iv .i64 x1, sv x2, sv x3, sv x4, iv .i64 x5, iv .i64 x6, iv .i64 x7]).length = i * 8 + 7 := by rw [List.length_append, hfA]; rfl
          have fd7 : List.drop (i * 8 + 7) C = .fslc x8 x9 x10 XX :: FB := by rw [hCe]; exact List.drop_left' hl7
          have ft7 : List.take (i * 8 + 7) C = FA ++ [iv .i64 x1, sv x2, sv x3, sv x4, iv .i64 x5, iv .i64 x6, iv .i64 x7] := by rw [hCe]; exact List.take_left' hl7
          have fd8 : List.drop (i * 8 + 7 + 1) C = FB := by rw [← List.drop_drop, fd7]; rfl
          have hb8 : i * 8 + 7 + 1 ≤ C.length := by rw [hCe, List.length_append, hl7]; simp
          replace hCe : Hide _ := trivial
          replace hcc : Hide _ := trivial
          replace hend : Hide _ := hend
          replace hcn : Hide _ := hcn
          replace hdr : Hide _ := trivial
          replace htk : Hide _ := trivial
          replace hx : Hide _ := trivial
          clear hcl hA hmem q1 q2 q3 q4 q5 hfA fd ft fe hl7
          have hne : mL ≠ n := by omega
          have hne2 : n ≠ mL := by omega
          repeat' (first | (refine ac_seq_h fun K hK => ?_) | (refine ac_region_h fun K hK => ?_; simp (disch := omega) [go_sem, *, ilt_true]) | (apply Hide.out hK; clear hK K; try with_reducible dsimp only [thenA]) | (apply Hide.out ht; clear ht hf Kt Kf) | (refine ac_block ?_) | (refine ac_skip ?_; simp only [thenA]) | (refine ac_cond_h fun Kt Kf ht hf => ?_; simp (disch := omega) [go_sem, *]; try (refine ⟨fun hc => ?_, fun hc => ?_⟩ <;> try (exfalso; omega))))
          refine ac_chain_h [14] (fun h' => h' n = some (.cells [iv .i64 v1, iv .i64 v2, .slc mL 0 v6.length 8, clV 7 mO v7 OO]) ∧ h' mL = some (.cells C)) mixed (by kernel_rfl) (by simp (disch := omega) [go_sem, g0, g2]) fun K hK => ?_
          simp (disch := omega) [go_sem, *]
          repeat' (first | (refine aC_c (by simp [go_sem]) (by decide) (fun h' hh => by (try dsimp only at hh); (try simp (disch := omega) [go_sem, *, ilt_true, ile_true]); first | exact rfl | exact ⟨rfl, rfl, rfl⟩ | exact (kx).gcall ⟨rfl, rfl, rfl⟩) ?_; try simp only [pS_some]) | (refine aC_x (by simp [go_sem]) (by decide) (by (try simp (disch := omega) [go_sem, *]); first | exact rfl | exact ⟨rfl, rfl⟩ | exact ⟨rfl, rfl, rfl⟩ | exact (kx).gcall ⟨rfl, rfl, rfl⟩) (by first | exact .inl rfl | (right; simp (disch := omega) [go_sem, upd_ne, g0, g2])) ?_; try simp only [pS_none]) | (refine aC_end ?_; apply Hide.out hK; clear hK K; try with_reducible dsimp only [thenA]))
          repeat' (first | (refine ac_region_h fun K hK => ?_; simp (disch := omega) [go_sem, *, wrap64_id]) | (apply Hide.out hK; clear hK K; try with_reducible dsimp only [thenA]))
          refine round_end (by simp (disch := omega) [go_sem]) (Sub.refl _) ⟨i + 1, _, _, by (try simp only); omega, by omega, ?_, ?_, ?_, ?_, fun x hx => ?_, rfl⟩ (by simp [intAt, go_sem]; omega)
          · rw [upd_ne _ _ _ _ (by omega), clV, if_neg hLne, hLl]; exact g0
          · rw [upd_ne _ _ _ _ (by omega)]; exact g1
          · rw [upd_same, acO_ne hcn.out, hend.out]; simp
          · rw [upd_ne _ _ _ _ (by omega)]; exact g3.out
          · rw [upd_ne _ _ _ _ (by omega)]; exact g4.out x hx
        · have hii : i = v6.length := by omega
          subst hii
          rw [List.drop_length, List.take_length, List.map_nil, List.append_nil] at g2
          iterate 11 (first | (refine ac_seq_h fun K hK => ?_) | (refine ac_region_h fun K hK => ?_; simp (disch := omega) [go_sem, *]) | (apply Hide.out hK; clear hK K; try with_reducible dsimp only [thenA]) | (apply Hide.out hf; clear ht hf Kt Kf) | (clear hK K; apply Hide.out hK; clear hK K; try with_reducible dsimp only [thenA]) | (refine ac_exit ?_; simp only [thenA, blockA, if_true]) | (refine ac_cond_h fun Kt Kf ht hf => ?_; simp (disch := omega) [go_sem, *]; try (refine ⟨fun hc => ?_, fun hc => ?_⟩ <;> try (exfalso; omega))))
          refine ac_midV (fun s' => ∃ n5, n2 ≤ n5 ∧ s' = ⟨62, [(1, .ptr n 0), (2, .ptr (n + 1) 0), (42, iv .i64 v10.length), (43, iv .i64 0)], H', n5⟩) ?_ ?_
          · rintro s' ⟨n5, q5, rfl⟩
            refine hK.out _ ?_
            clear hK K
            repeat' (first | (refine ac_block ?_))
            refine ac_loop_wk (fun s' => ∃ (i n4 : Nat) (H2 : AHeap), n2 ≤ n4 ∧ i ≤ v10.length ∧ H2 n = some (.cells [iv .i64 v1, iv .i64 v2, clV 8 mL v3 LL, clV 7 mO v7 OO]) ∧ H2 (n + 1) = some (.cells [iv .i64 0, iv .i64 0, .fslc true true 0 [], .fslc true true 0 []]) ∧ H2 mO = acO (((v10.take i).map cpO).map encO ++ (v10.drop i).map encO) ∧ H2 mL = acO ((v6.map cpL).map encLn) ∧ (∀ x, x < n → H2 x = h x) ∧ s' = ⟨62, [(1, .ptr n 0), (2, .ptr (n + 1) 0), (42, iv .i64 v10.length), (43, iv .i64 i)], H2, n4⟩) (fun s' => v10.length - (intAt s' 43).toNat) ?_ ?_
            · exact loop_start (by simp [go_sem]) (Sub.refl _) ⟨0, _, _, by (try simp only); omega, by omega, g0, g1, by rw [g3.out, ← hOO.out]; rfl, g2, g4.out, rfl⟩
            · clear g0 g1 g2 g3 g4
              rintro s' ⟨i, n4, H2, hn4, hi, g0, g1, g2, g3, g4, rfl⟩
              replace g4 : Hide _ := g4
              replace g3 : Hide _ := g3
              by_cases hlt : i < v10.length
              · obtain ⟨x, hx⟩ : ∃ x, v10[i] = x := ⟨_, rfl⟩
                have hdr : v10.drop i = x :: v10.drop (i + 1) := by rw [List.drop_eq_getElem_cons hlt, hx]
                have htk : v10.take (i + 1) = v10.take i ++ [x] := by rw [List.take_succ_eq_append_getElem hlt, hx]
                have hmem : x ∈ v10 := hx ▸ List.getElem_mem hlt
                have hLne : OO ≠ [] := fun e => by
                  have := congrArg List.length (hOO.out.trans e); rw [List.length_map] at this; simp at this; rw [this] at hlt; simp at hlt
                have hLl : OO.length = v10.length := by rw [← hOO.out, List.length_map]
                rw [clV.eq_1 7, if_neg hLne, hLl] at g0
                rw [hdr, List.map_cons, acO_ne (by simp)] at g2
                have hA : (((v10.take i).map cpO).map encO).length = i := by rw [List.length_map, List.length_map, List.length_take]; omega
                have hE : ∀ L : List Ordr, ∀ y ∈ L.map encO, (cellsOf y).length = 7 := fun L y hy => by obtain ⟨⟨a, b, c⟩, _, rfl⟩ := List.mem_map.1 hy; cases c; rfl
                have fa := flat_at (s := 7) (((v10.take i).map cpO).map encO) ((v10.drop (i + 1)).map encO) (encO x) (hE _) (hE [x] _ (by simp))
                have hfA := flat_len (s := 7) (L := ((v10.take i).map cpO).map encO) (hE _)
                rw [hA] at fa hfA
                have kx := cond_spec 900 x.cond (hw.out.o3 x hmem).1 (by omega) (hw.out.o2 x hmem)
                have hcn : ((v10.take (i + 1)).map cpO).map encO ++ (v10.drop (i + 1)).map encO ≠ [] := by rw [htk]; simp
                have hl10 : v10.length ≤ 1000000 := hw.out.o4
                have hend : flat (((v10.take (i + 1)).map cpO).map encO ++ (v10.drop (i + 1)).map encO) = flat (((v10.take i).map cpO).map encO) ++ (cellsOf (encO (cpO x)) ++ flat ((v10.drop (i + 1)).map encO)) := by
                  rw [htk]
                  simp [flat]
                obtain ⟨x1, x2, c⟩ := x
                obtain ⟨c1, c2, c3, c4, c5, c6, c7, c8⟩ := c
                obtain ⟨d5, d6, d7, hcp⟩ := cpC_mk c1 c2 c3 c4 c5 c6 c7 c8
                simp only [cpO] at hend
                simp only at kx
                rw [hcp] at kx hend
                simp only [cellsOf, encO, encC] at kx hend fa g2
                generalize encL c8 = XX at *
                generalize encL (cpCL c8) = YY at *
                generalize hcc : flat (((v10.take i).map cpO).map encO ++ _ :: (v10.drop (i + 1)).map encO) = C at *
                generalize flat (((v10.take i).map cpO).map encO) = FA at *
                generalize flat ((v10.drop (i + 1)).map encO) = FB at *
                obtain ⟨fd, ft, fe⟩ := fa
                have hCe : C = (FA ++ [sv x1, iv .i64 x2]) ++ ([iv .i64 c1, iv .i64 c2, iv .i64 c3, iv .i64 c4, .fslc c5 c6 c7 XX] ++ FB) := by
                  have := (List.take_append_drop (i * 7) C).symm
                  rw [ft, fd] at this
                  rw [this]; simp
                have hl2 : (FA ++ [sv x1, iv .i64 x2]).length = i * 7 + 2 := by rw [List.length_append, hfA]; rfl
                have fd2 : List.drop (i * 7 + 2) C = [iv .i64 c1, iv .i64 c2, iv .i64 c3, iv .i64 c4, .fslc c5 c6 c7 XX] ++ FB := by rw [hCe]; exact List.drop_left' hl2
                have ft2 : List.take (i * 7 + 2) C = FA ++ [sv x1, iv .i64 x2] := by rw [hCe]; exact List.take_left' hl2
                have fd7 : List.drop (i * 7 + 2 + 5) C = FB := by rw [← List.drop_drop, fd2]; rfl
                have hb7 : i * 7 + 2 + 5 ≤ C.length := by rw [hCe, List.length_append, hl2]; simp
                replace hCe : Hide _ := trivial
                replace hcc : Hide _ := trivial
                replace hend : Hide _ := hend
                replace hcn : Hide _ := hcn
                replace hdr : Hide _ := trivial
                replace htk : Hide _ := trivial
                replace hx : Hide _ := trivial
                replace hE : Hide _ := trivial
                clear hcp hA hmem hfA fd ft fe hl2
                have hne : mO ≠ n := by omega
                have hne2 : n ≠ mO := by omega
                repeat' (first | (refine ac_seq_h fun K hK => ?_) | (refine ac_region_h fun K hK => ?_; simp (disch := omega) [go_sem, *, ilt_true]) | (apply Hide.out hK; clear hK K; try with_reducible dsimp only [thenA]) | (apply Hide.out ht; clear ht hf Kt Kf) | (refine ac_block ?_) | (refine ac_skip ?_; simp only [thenA]) | (refine ac_cond_h fun Kt Kf ht hf => ?_; simp (disch := omega) [go_sem, *]; try (refine ⟨fun hc => ?_, fun hc => ?_⟩ <;> try (exfalso; omega))))
                refine ac_chain_h [14] (fun h' => h' n = some (.cells [iv .i64 v1, iv .i64 v2, clV 8 mL v3 LL, .slc mO 0 v10.length 7]) ∧ h' mO = some (.cells C)) mixed (by kernel_rfl) (by simp (disch := omega) [go_sem, g0, g2]) fun K hK => ?_
                simp (disch := omega) [go_sem, *]
                repeat' (first | (refine aC_c (by simp [go_sem]) (by decide) (fun h' hh => by (try dsimp only at hh); (try simp (disch := omega) [go_sem, *, ilt_true, ile_true]); first | exact rfl | exact ⟨rfl, rfl, rfl⟩ | exact (kx).gcall ⟨rfl, rfl, rfl⟩) ?_; try simp only [pS_some]) | (refine aC_x (by simp [go_sem]) (by decide) (by (try simp (disch := omega) [go_sem, *]); first | exact rfl | exact ⟨rfl, rfl⟩ | exact ⟨rfl, rfl, rfl⟩ | exact (kx).gcall ⟨rfl, rfl, rfl⟩) (by first | exact .inl rfl | (right; simp (disch := omega) [go_sem, upd_ne, g0, g2])) ?_; try simp only [pS_none]) | (refine aC_end ?_; apply Hide.out hK; clear hK K; try with_reducible dsimp only [thenA]))
                repeat' (first | (refine ac_region_h fun K hK => ?_; simp (disch := omega) [go_sem, *, wrap64_id]) | (apply Hide.out hK; clear hK K; try with_reducible dsimp only [thenA]))
                refine round_end (by simp (disch := omega) [go_sem]) (Sub.refl _) ⟨i + 1, _, _, by (try simp only); omega, by omega, ?_, ?_, ?_, ?_, fun x hx => ?_, rfl⟩ (by simp [intAt, go_sem]; omega)
                · rw [upd_ne _ _ _ _ (by omega), clV.eq_1 7, if_neg hLne, hLl]; exact g0
                · rw [upd_ne _ _ _ _ (by omega)]; exact g1
                · rw [upd_same, acO_ne hcn.out, hend.out]; simp
                · rw [upd_ne _ _ _ _ (by omega)]; exact g3.out
                · rw [upd_ne _ _ _ _ (by omega)]; exact g4.out x hx
              · have hii : i = v10.length := by omega
                subst hii
                rw [List.drop_length, List.take_length, List.map_nil, List.append_nil] at g2
                have hl1 : LL.length = ((v6.map cpL).map encLn).length := by rw [← hLL.out]; simp
                have hl2 : OO.length = ((v10.map cpO).map encO).length := by rw [← hOO.out]; simp
                have hs1 : ∀ x ∈ (v6.map cpL).map encLn, ∃ cs, x = .agg cs ∧ cs.length = 8 := fun x hx => by obtain ⟨y, _, rfl⟩ := List.mem_map.1 hx; exact ⟨_, rfl, rfl⟩
                have hs2 : ∀ x ∈ (v10.map cpO).map encO, ∃ cs, x = .agg cs ∧ cs.length = 7 := fun x hx => by obtain ⟨⟨a, b, c⟩, _, rfl⟩ := List.mem_map.1 hx; cases c; exact ⟨_, rfl, rfl⟩
                have hfin : encV (cpV ⟨v1, v2, v3, v4, v5, v6, v7, v8, v9, v10⟩) = .agg [iv .i64 v1, iv .i64 v2, clF 8 v3 ((v6.map cpL).map encLn), clF 7 v7 ((v10.map cpO).map encO)] := by simp [encV, cpV, clF, List.isEmpty_map]
                have hbl : ∀ m, below m (encV (cpV ⟨v1, v2, v3, v4, v5, v6, v7, v8, v9, v10⟩)) := fun m => below_encV m _
                rw [hfin] at hbl
                replace hl1 : Hide _ := hl1
                replace hl2 : Hide _ := hl2
                replace hs1 : Hide _ := hs1
                replace hs2 : Hide _ := hs2
                replace hfin : Hide _ := hfin
                replace hbl : Hide _ := hbl
                replace g2 : Hide _ := g2
                have hne : mO ≠ n := by omega
                rcases clV_or 8 mL v3 LL with ⟨a1, a2, a3, e1⟩ | ⟨a1, e1⟩
                · rcases clV_or 7 mO v7 OO with ⟨b1, b2, b3, e2⟩ | ⟨b1, e2⟩
                  · rw [e1, e2] at g0
                    replace e1 : Hide _ := e1
                    replace e2 : Hide _ := e2
                    repeat' (first | (refine ac_seq_h fun K hK => ?_) | (refine ac_region_h fun K hK => ?_; simp (disch := omega) [go_sem, *]) | (apply Hide.out hK; clear hK K; try with_reducible dsimp only [thenA]) | (apply Hide.out hf; clear ht hf Kt Kf) | (clear hK K; apply Hide.out hK; clear hK K; try with_reducible dsimp only [thenA]) | (refine ac_exit ?_; simp only [thenA, blockA, if_true]) | (refine ac_cond_h fun Kt Kf ht hf => ?_; simp (disch := omega) [go_sem, *]; try (refine ⟨fun hc => ?_, fun hc => ?_⟩ <;> try (exfalso; omega))))
                    refine ac_ret ?_
                    try dsimp only [thenA, blockA]
                    refine ⟨by simp, _, (by first | rfl | (simp (disch := omega) [go_sem] <;> rfl)), ?_⟩
                    simp only [resVal]
                    rw [← e1.out, ← e2.out]
                    refine ret_clV2 (fun _ _ => rfl) (fun _ _ => rfl) hs1.out hs2.out hl1.out hl2.out p5 (by simp (disch := omega) only [upd_ne]; exact g3.out) (by simp (disch := omega) only [upd_ne]; exact g2.out) ?_
                    refine ret_id ⟨fun x hx => ?_, hbl.out _, hfin.out.symm, by simp, by simp⟩
                    simp (disch := omega) only [upd_ne]; exact g4.out x hx
                  · rw [e1, e2] at g0
                    replace e1 : Hide _ := e1
                    replace e2 : Hide _ := e2
                    repeat' (first | (refine ac_seq_h fun K hK => ?_) | (refine ac_region_h fun K hK => ?_; simp (disch := omega) [go_sem, *]) | (apply Hide.out hK; clear hK K; try with_reducible dsimp only [thenA]) | (apply Hide.out hf; clear ht hf Kt Kf) | (clear hK K; apply Hide.out hK; clear hK K; try with_reducible dsimp only [thenA]) | (refine ac_exit ?_; simp only [thenA, blockA, if_true]) | (refine ac_cond_h fun Kt Kf ht hf => ?_; simp (disch := omega) [go_sem, *]; try (refine ⟨fun hc => ?_, fun hc => ?_⟩ <;> try (exfalso; omega))))
                    refine ac_ret ?_
                    try dsimp only [thenA, blockA]
                    refine ⟨by simp, _, (by first | rfl | (simp (disch := omega) [go_sem] <;> rfl)), ?_⟩
                    simp only [resVal]
                    rw [← e1.out, ← e2.out]
                    refine ret_clV2 (fun _ _ => rfl) (fun _ _ => rfl) hs1.out hs2.out hl1.out hl2.out p5 (by simp (disch := omega) only [upd_ne]; exact g3.out) (by simp (disch := omega) only [upd_ne]; exact g2.out) ?_
                    refine ret_id ⟨fun x hx => ?_, hbl.out _, hfin.out.symm, by simp, by simp⟩
                    simp (disch := omega) only [upd_ne]; exact g4.out x hx
                · rcases clV_or 7 mO v7 OO with ⟨b1, b2, b3, e2⟩ | ⟨b1, e2⟩
                  · rw [e1, e2] at g0
                    replace e1 : Hide _ := e1
                    replace e2 : Hide _ := e2
                    repeat' (first | (refine ac_seq_h fun K hK => ?_) | (refine ac_region_h fun K hK => ?_; simp (disch := omega) [go_sem, *]) | (apply Hide.out hK; clear hK K; try with_reducible dsimp only [thenA]) | (apply Hide.out hf; clear ht hf Kt Kf) | (clear hK K; apply Hide.out hK; clear hK K; try with_reducible dsimp only [thenA]) | (refine ac_exit ?_; simp only [thenA, blockA, if_true]) | (refine ac_cond_h fun Kt Kf ht hf => ?_; simp (disch := omega) [go_sem, *]; try (refine ⟨fun hc => ?_, fun hc => ?_⟩ <;> try (exfalso; omega))))
                    refine ac_ret ?_
                    try dsimp only [thenA, blockA]
                    refine ⟨by simp, _, (by first | rfl | (simp (disch := omega) [go_sem] <;> rfl)), ?_⟩
                    simp only [resVal]
                    rw [← e1.out, ← e2.out]
                    refine ret_clV2 (fun _ _ => rfl) (fun _ _ => rfl) hs1.out hs2.out hl1.out hl2.out p5 (by simp (disch := omega) only [upd_ne]; exact g3.out) (by simp (disch := omega) only [upd_ne]; exact g2.out) ?_
                    refine ret_id ⟨fun x hx => ?_, hbl.out _, hfin.out.symm, by simp, by simp⟩
                    simp (disch := omega) only [upd_ne]; exact g4.out x hx
                  · rw [e1, e2] at g0
                    replace e1 : Hide _ := e1
                    replace e2 : Hide _ := e2
                    repeat' (first | (refine ac_seq_h fun K hK => ?_) | (refine ac_region_h fun K hK => ?_; simp (disch := omega) [go_sem, *]) | (apply Hide.out hK; clear hK K; try with_reducible dsimp only [thenA]) | (apply Hide.out hf; clear ht hf Kt Kf) | (clear hK K; apply Hide.out hK; clear hK K; try with_reducible dsimp only [thenA]) | (refine ac_exit ?_; simp only [thenA, blockA, if_true]) | (refine ac_cond_h fun Kt Kf ht hf => ?_; simp (disch := omega) [go_sem, *]; try (refine ⟨fun hc => ?_, fun hc => ?_⟩ <;> try (exfalso; omega))))
                    refine ac_ret ?_
                    try dsimp only [thenA, blockA]
                    refine ⟨by simp, _, (by first | rfl | (simp (disch := omega) [go_sem] <;> rfl)), ?_⟩
                    simp only [resVal]
                    rw [← e1.out, ← e2.out]
                    refine ret_clV2 (fun _ _ => rfl) (fun _ _ => rfl) hs1.out hs2.out hl1.out hl2.out p5 (by simp (disch := omega) only [upd_ne]; exact g3.out) (by simp (disch := omega) only [upd_ne]; exact g2.out) ?_
                    refine ret_id ⟨fun x hx => ?_, hbl.out _, hfin.out.symm, by simp, by simp⟩
                    simp (disch := omega) only [upd_ne]; exact g4.out x hx
          · replace hK : Hide _ := trivial
            by_cases hv6 : v10 = []
            · have hLe : OO = [] := by rw [← hOO.out, hv6]; rfl
              rw [hLe] at g0 g3
              subst hv6
              obtain ⟨a, b, c, hc⟩ : ∃ a b c, clV 7 mO v7 [] = .fslc a b c [] := by cases v7 <;> exact ⟨_, _, _, rfl⟩
              rw [hc] at g0
              repeat' (first | (refine ac_region_h fun K hK => ?_; simp (disch := omega) [go_sem, *]) | (apply Hide.out hK; clear hK K; try with_reducible dsimp only [thenA]))
              exact ⟨_, Wk.of (by simp [go_sem]) (Sub.refl _), _, by (try simp only); omega, rfl⟩
            · have hLne : OO ≠ [] := fun e => hv6 (by have := congrArg List.length (hOO.out.trans e); rw [List.length_map] at this; exact List.length_eq_zero_iff.1 this)
              have hLl : OO.length = v10.length := by rw [← hOO.out, List.length_map]
              rw [clV.eq_1 7, if_neg hLne, hLl] at g0
              repeat' (first | (refine ac_region_h fun K hK => ?_; simp (disch := omega) [go_sem, *]) | (apply Hide.out hK; clear hK K; try with_reducible dsimp only [thenA]))
              exact ⟨_, Wk.of (by simp [go_sem]) (Sub.refl _), _, by (try simp only); omega, rfl⟩
    · replace hK : Hide _ := trivial
      by_cases hv6 : v6 = []
      · have hLe : LL = [] := by rw [← hLL.out, hv6]; rfl
        rw [hLe] at p6 p8
        subst hv6
        obtain ⟨a, b, c, hc⟩ : ∃ a b c, clV 8 mL v3 [] = .fslc a b c [] := by cases v3 <;> exact ⟨_, _, _, rfl⟩
        rw [hc] at p6
        repeat' (first | (refine ac_region_h fun K hK => ?_; simp (disch := omega) [go_sem, *]) | (apply Hide.out hK; clear hK K; try with_reducible dsimp only [thenA]))
        exact ⟨_, Wk.of (by simp [go_sem]) (Sub.refl _), _, by (try simp only); omega, rfl⟩
      · have hLne : LL ≠ [] := fun e => hv6 (by have := congrArg List.length (hLL.out.trans e); rw [List.length_map] at this; exact List.length_eq_zero_iff.1 this)
        have hLl : LL.length = v6.length := by rw [← hLL.out, List.length_map]
        rw [clV, if_neg hLne, hLl] at p6
        repeat' (first | (refine ac_region_h fun K hK => ?_; simp (disch := omega) [go_sem, *]) | (apply Hide.out hK; clear hK K; try with_reducible dsimp only [thenA]))
        exact ⟨_, Wk.of (by simp [go_sem]) (Sub.refl _), _, by (try simp only); omega, rfl⟩
  · replace hK : Hide _ := trivial
    refine ac_inv (fun D t => Q2 D ∧ ∃ mL mO, V1 n (n + 2) v1 v2 (.fslc v3 v4 v5 LL) (.fslc v7 v8 v9 OO) v3 v7 LL OO h mL mO D t) mixed (by kernel_rfl) ?_ ?_ ?_
    · refine ⟨⟨fun e => by simp at e, fun e => by simp at e⟩, 0, 0, rfl, by show n + 2 + 14 ≤ n + 2 + _; simp, rfl, rfl, ?_, fun x hx => ?_, ?_, ?_, ?_, ?_, ?_, ?_, ?_⟩
      · simp (disch := omega) only [upd_same]
      · simp (disch := omega) only [upd_ne]
      · intro p hp e; simp [slV] at hp; rcases hp with rfl | rfl | rfl | rfl | rfl | rfl | rfl | rfl | rfl | rfl <;> simp at e
      · refine ⟨_, _, ?_, fun _ => rfl, fun e => ?_, fun _ => rfl, fun e => ?_⟩
        · simp (disch := omega) only [upd_ne, upd_same]
        · simp at e
        · simp at e
      · intro e; simp at e
      · intro e; simp at e
      · intro e; simp at e
      · intro e; simp at e
      · intro e; simp at e
    · rintro D s i o hsz ho hl hdep ⟨q2, mL, mO, J⟩
      have hsz : D.size = 14 := hsz
      have hi : i < 14 := (Array.getElem?_eq_some_iff.1 ho).1
      have hl := getDV_false hl
      obtain ⟨snt, ss, sh, sn⟩ := s
      have jnt : snt = 62 := J.nt
      subst jnt
      have j1 : get ss 1 = _ := J.g1
      have jle : n + 2 + 14 ≤ sn := J.le
      have hi2 : i = 0 ∨ i = 1 ∨ i = 2 ∨ i = 3 ∨ i = 4 ∨ i = 5 ∨ i = 6 ∨ i = 7 ∨ i = 8 ∨ i = 9 ∨ i = 10 ∨ i = 11 ∨ i = 12 ∨ i = 13 := by omega
      rcases hi2 with rfl | rfl | rfl | rfl | rfl | rfl | rfl | rfl | rfl | rfl | rfl | rfl | rfl | rfl
      · simp at ho; subst ho
        simp (disch := omega) [go_sem, j1]
        exact ⟨q2.set hsz 0 (fun e => by omega) (fun e => by omega), mL, mO, J.plain 0 5 _ (by decide) (by decide) (by decide) rfl⟩
      · simp at ho; subst ho
        have jp : get ss 5 = .ptr n 2 := J.sl (0, 5) (by decide) (hdep ⟨0, .data⟩ (by simp) rfl)
        simp (disch := omega) [go_sem, jp]
        exact ⟨q2.set hsz 1 (fun e => by omega) (fun e => by omega), mL, mO, J.plain 1 6 _ (by decide) (by decide) (by decide) rfl⟩
      · simp at ho; subst ho
        have jp : get ss 6 = .ptr n 2 := J.sl (1, 6) (by decide) (hdep ⟨1, .data⟩ (by simp) rfl)
        obtain ⟨a, b, e1, e2, e3, e4, e5⟩ := J.c0
        have e1 : sh n = _ := e1
        have hf : D.getD 10 false = false := by
          cases e : D.getD 10 false with
          | false => rfl
          | true => have := q2.1 (J.o10 e); rw [hl] at this; cases this
        have ea := e2 hf
        subst ea
        simp (disch := omega) [go_sem, jp, e1]
        exact ⟨q2.set hsz 2 (fun e => by omega) (fun e => by omega), mL, mO, J.plain 2 7 _ (by decide) (by decide) (by decide) rfl⟩
      · simp at ho; subst ho
        have hd := hdep ⟨2, .data⟩ (by simp) rfl
        have jp : get ss 7 = .fslc v3 v4 v5 LL := J.sl (2, 7) (by decide) hd
        simp (disch := omega) [go_sem, jp]
        refine .inl ((kL.out _ _).mono fun r hh nn hp => ?_)
        obtain ⟨m, z1, z2, rfl, z3, z4⟩ := hp
        simp [go_sem]
        exact ⟨q2.set hsz 3 (fun e => by first | exact hd | omega) (fun e => by first | exact hd | omega), m, mO, J.call3 hsz hl (by omega) z1 z2 z3 z4⟩
      · simp at ho; subst ho
        simp (disch := omega) [go_sem, j1]
        exact ⟨q2.set hsz 4 (fun e => by omega) (fun e => by omega), mL, mO, J.plain 4 9 _ (by decide) (by decide) (by decide) rfl⟩
      · simp at ho; subst ho
        have jp : get ss 9 = .ptr n 2 := J.sl (4, 9) (by decide) (hdep ⟨4, .data⟩ (by simp) rfl)
        simp (disch := omega) [go_sem, jp]
        exact ⟨q2.set hsz 5 (fun e => by omega) (fun e => by omega), mL, mO, J.plain 5 10 _ (by decide) (by decide) (by decide) rfl⟩
      · simp at ho; subst ho
        have jp : get ss 10 = .ptr n 3 := J.sl (5, 10) (by decide) (hdep ⟨5, .data⟩ (by simp) rfl)
        obtain ⟨a, b, e1, e2, e3, e4, e5⟩ := J.c0
        have e1 : sh n = _ := e1
        have hf : D.getD 13 false = false := by
          cases e : D.getD 13 false with
          | false => rfl
          | true => have := q2.2 (J.o13 e); rw [hl] at this; cases this
        have ea := e4 hf
        subst ea
        simp (disch := omega) [go_sem, jp, e1]
        exact ⟨q2.set hsz 6 (fun e => by omega) (fun e => by omega), mL, mO, J.plain 6 11 _ (by decide) (by decide) (by decide) rfl⟩
      · simp at ho; subst ho
        have hd := hdep ⟨6, .data⟩ (by simp) rfl
        have jp : get ss 11 = .fslc v7 v8 v9 OO := J.sl (6, 11) (by decide) hd
        simp (disch := omega) [go_sem, jp]
        refine .inl ((kO.out _ _).mono fun r hh nn hp => ?_)
        obtain ⟨m, z1, z2, rfl, z3, z4⟩ := hp
        simp [go_sem]
        exact ⟨q2.set hsz 7 (fun e => by first | exact hd | omega) (fun e => by first | exact hd | omega), mL, m, J.call7 hsz hl (by omega) z1 z2 z3 z4⟩
      · simp at ho; subst ho
        simp (disch := omega) [go_sem, j1]
        exact ⟨q2.set hsz 8 (fun e => by omega) (fun e => by omega), mL, mO, J.plain 8 13 _ (by decide) (by decide) (by decide) rfl⟩
      · simp at ho; subst ho
        have jp : get ss 13 = .ptr n 2 := J.sl (8, 13) (by decide) (hdep ⟨8, .data⟩ (by simp) rfl)
        simp (disch := omega) [go_sem, jp]
        exact ⟨q2.set hsz 9 (fun e => by omega) (fun e => by omega), mL, mO, J.plain 9 14 _ (by decide) (by decide) (by decide) rfl⟩
      · simp at ho; subst ho
        have jp : get ss 14 = .ptr n 2 := J.sl (9, 14) (by decide) (hdep ⟨9, .data⟩ (by simp) rfl)
        have hd := hdep ⟨3, .data⟩ (by simp) rfl
        have jv : get ss 8 = clV 8 mL v3 LL := (J.d3 hd).1
        obtain ⟨b, e1, J2⟩ := J.put10 hsz hl (by omega) hd
        rcases clV_or 8 mL v3 LL with ⟨x1, x2, x3, hCV⟩ | ⟨x1, hCV⟩ <;>
        · rw [hCV] at jv J2
          simp (disch := omega) [go_sem, jp, e1, jv]
          exact ⟨q2.set hsz 10 (fun e => by omega) (fun e => by omega), mL, mO, J2⟩
      · simp at ho; subst ho
        simp (disch := omega) [go_sem, j1]
        exact ⟨q2.set hsz 11 (fun e => by omega) (fun e => by omega), mL, mO, J.plain 11 15 _ (by decide) (by decide) (by decide) rfl⟩
      · simp at ho; subst ho
        have jp : get ss 15 = .ptr n 2 := J.sl (11, 15) (by decide) (hdep ⟨11, .data⟩ (by simp) rfl)
        simp (disch := omega) [go_sem, jp]
        exact ⟨q2.set hsz 12 (fun e => by omega) (fun e => by omega), mL, mO, J.plain 12 16 _ (by decide) (by decide) (by decide) rfl⟩
      · simp at ho; subst ho
        have jp : get ss 16 = .ptr n 3 := J.sl (12, 16) (by decide) (hdep ⟨12, .data⟩ (by simp) rfl)
        have hd := hdep ⟨7, .data⟩ (by simp) rfl
        have jv : get ss 12 = clV 7 mO v7 OO := (J.d7 hd).1
        obtain ⟨b, e1, J2⟩ := J.put13 hsz hl (by omega) hd
        rcases clV_or 7 mO v7 OO with ⟨x1, x2, x3, hCV⟩ | ⟨x1, hCV⟩ <;>
        · rw [hCV] at jv J2
          simp (disch := omega) [go_sem, jp, e1, jv]
          exact ⟨q2.set hsz 13 (fun e => by omega) (fun e => by omega), mL, mO, J2⟩
    · rintro D s hsz hall ⟨_, mL, mO, J⟩
      have ha : ∀ j, j < 14 → D.getD j false = true := fun j hj => by
        have := hall j hj
        rw [Array.getD_eq_getD_getElem?] at this ⊢
        have hjs : j < D.size := by have : D.size = 14 := hsz; omega
        rw [Array.getElem?_eq_getElem hjs] at this ⊢
        exact this
      obtain ⟨_, z1, z2, z3⟩ := J.d3 (ha 3 (by omega))
      obtain ⟨_, z4, z5, z6⟩ := J.d7 (ha 7 (by omega))
      obtain ⟨a, b, e1, e2, e3, e4, e5⟩ := J.c0
      rw [e3 (ha 10 (by omega)), e5 (ha 13 (by omega))] at e1
      obtain ⟨snt, ss, sh, sn⟩ := s
      have jnt : snt = 62 := J.nt
      subst jnt
      have j1 : get ss 1 = _ := J.g1
      have j2 : get ss 2 = _ := J.g2
      exact ⟨_, Wk.of (by simp [go_sem, j1, j2]) (Sub.refl _), mL, mO, _, _, by omega, z2, by omega, z5, J.dj (ha 3 (by omega)) (ha 7 (by omega)), e1, J.c1, z3, z6, J.fx, rfl⟩
end Go.AM
