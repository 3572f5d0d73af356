/- Conditions, orders and watches: printed, as tokens, read, plainly. Conditions: as each theorem says. -/
import Derived.KernelRfl
import Derived.Test.YtabidiilbgakoaaGreatDoorRa
namespace Go.AM
open Go.Proofs Cw Du
set_option maxRecDepth 10000
def plK (x : Int × List TT) (a : Int) : List TT := if x.1 < a then mT wOpen :: (x.2 ++ [mT qE]) else x.2
def cnK (k f o n : Int) (L : List (Int × List TT)) : List TT :=
  if k = 1 then [mT (Q2 f), mT (opT o), nT n]
  else if k = 2 then mT wNot :: plK (L.getD 0 (0, [])) 2
  else if k = 3 then plK (L.getD 0 (0, [])) 1 ++ mT Q1 :: plK (L.getD 1 (0, [])) 2
  else plK (L.getD 0 (0, [])) 0 ++ mT wOr :: plK (L.getD 1 (0, [])) 1
mutual
def cTk : Cnd → List TT
  | .mk k f o n _ _ _ ks => cnK k f o n (cTkL ks)
def cTkL : List Cnd → List (Int × List TT)
  | [] => []
  | c :: r => (lvl c, cTk c) :: cTkL r
end
mutual
def ZI : Cnd → Cnd
  | .mk k f o n _ _ _ ks => .mk k f o n ks.isEmpty ks.isEmpty (if ks.isEmpty then 0 else 5) (jH ks)
def jH : List Cnd → List Cnd
  | [] => []
  | c :: r => ZI c :: jH r
end
theorem ok_kinds {c : Cnd} (h : Cw.ok c = true) : (∃ f o n nl fu s, c = .mk 1 f o n nl fu s [] ∧ (0 ≤ f ∧ f ≤ 4) ∧ (1 ≤ o ∧ o ≤ 6) ∧ 0 ≤ n ∧ n ≤ 10000) ∨ (∃ nl fu s a, c = .mk 2 0 0 0 nl fu s [a] ∧ Cw.ok a = true ∧ tot a < tot c) ∨
    (∃ k nl fu s a b, c = .mk k 0 0 0 nl fu s [a, b] ∧ (k = 3 ∨ k = 4) ∧ Cw.ok a = true ∧ Cw.ok b = true ∧ tot a < tot c ∧ tot b < tot c) := by
  obtain ⟨k, f, o, n, nl, fu, s, ks⟩ := c
  simp only [Cw.ok, Bool.and_eq_true] at h
  obtain ⟨h1, h2⟩ := h
  unfold zw at h1
  split at h1
  · rename_i hk
    simp only [Bool.and_eq_true, decide_eq_true_eq, wi] at h1
    obtain ⟨⟨⟨a, b⟩, c⟩, d⟩ := h1
    left
    obtain rfl := List.eq_nil_of_length_eq_zero d
    exact ⟨f, o, n, nl, fu, s, by rw [hk], a, b, c⟩
  · simp only [Bool.and_eq_true, decide_eq_true_eq, Bool.or_eq_true] at h1
    obtain ⟨⟨⟨h1, rfl⟩, rfl⟩, rfl⟩ := h1
    right
    rcases h1 with ⟨rfl, hl⟩ | ⟨hk, hl⟩
    · left
      obtain ⟨a, rfl⟩ := List.length_eq_one_iff.1 hl
      simp only [okL, Bool.and_true] at h2
      exact ⟨nl, fu, s, a, rfl, h2, by simp only [tot, totL]; omega⟩
    · right
      obtain ⟨a, b, rfl⟩ : ∃ a b, ks = [a, b] := by
        match ks, hl with
        | [a, b], _ => exact ⟨a, b, rfl⟩
      simp only [okL, Bool.and_true, Bool.and_eq_true] at h2
      exact ⟨k, nl, fu, s, a, b, rfl, hk, h2.1, h2.2, by simp only [tot, totL]; omega, by simp only [tot, totL]; omega⟩
def pM (T : List Tk) (md : Md) (p : Nat) : PR Cnd := prM T (4 * T.length + 4) md p
theorem pM_eq {T : List Tk} {md : Md} {p : Nat} (hp : p ≤ T.length) : pM T md p = prM T (4 * T.length + 4 + 1) md p := by
  rw [pM, prM_more T (4 * T.length + 4) md p hp (by cases md <;> simp only [bdM] <;> omega)]
theorem pM_nt {T : List Tk} {p : Nat} (hp : p ≤ T.length) : pM T .nt p =
    if isM T p wNot then (match pM T .nt (p + 1) with | .ok (c, q) => .ok (cNot c, q) | .error k => .error k)
    else if isM T p wOpen then (match pM T .or (p + 1) with | .ok (c, q) => if isM T q qE then .ok (c, q + 1) else .error q | .error k => .error k)
    else jz T p := by rw [pM_eq hp, prM]; rfl
theorem pM_an {T : List Tk} {p : Nat} (hp : p ≤ T.length) : pM T .an p = match pM T .nt p with | .ok (c, q) => pM T (.anL c) q | .error k => .error k := by rw [pM_eq hp, prM]; rfl
theorem pM_or {T : List Tk} {p : Nat} (hp : p ≤ T.length) : pM T .or p = match pM T .an p with | .ok (c, q) => pM T (.orL c) q | .error k => .error k := by rw [pM_eq hp, prM]; rfl
theorem pM_anL {T : List Tk} {p : Nat} {c : Cnd} (hp : p ≤ T.length) : pM T (.anL c) p = if isM T p Q1 then (match pM T .nt (p + 1) with | .ok (d, q) => pM T (.anL (cAnd c d)) q | .error k => .error k) else .ok (c, p) := by rw [pM_eq hp, prM]; rfl
theorem pM_orL {T : List Tk} {p : Nat} {c : Cnd} (hp : p ≤ T.length) : pM T (.orL c) p = if isM T p wOr then (match pM T .an (p + 1) with | .ok (d, q) => pM T (.orL (cOr c d)) q | .error k => .error k) else .ok (c, p) := by rw [pM_eq hp, prM]; rfl
theorem cTk_ne : ∀ (m : Nat) (c : Cnd), tot c ≤ m → Cw.ok c = true → cTk c ≠ [] := by
  intro m c hm hc
  rcases ok_kinds hc with ⟨f, o, n, nl, fu, s, rfl, _⟩ | ⟨nl, fu, s, a, rfl, _⟩ | ⟨k, nl, fu, s, a, b, rfl, hk, _⟩
  · simp [cTk, cnK]
  · simp [cTk, cnK]
  · rcases hk with rfl | rfl
    · simp [cTk, cnK]
    · simp [cTk, cnK]
structure CSee (T : List Tk) (c : Cnd) : Prop where
  nt : ∀ p L, 2 ≤ lvl c → Sees T p (cTk c ++ L) → pM T .nt p = .ok (ZI c, p + (cTk c).length)
  an : ∀ p L, 1 ≤ lvl c → Sees T p (cTk c ++ L) → pM T .an p = pM T (.anL (ZI c)) (p + (cTk c).length)
  or : ∀ p L, Sees T p (cTk c ++ L) → isM T (p + (cTk c).length) Q1 = false → pM T .or p = pM T (.orL (ZI c)) (p + (cTk c).length)
theorem QV {T : List Tk} {c : Cnd} (hc : Cw.ok c = true) {p : Nat} {L : List TT} (h : Sees T p (cTk c ++ L)) : p + (cTk c).length ≤ T.length := h.left.len (cTk_ne _ c (Nat.le_refl _) hc)
theorem par_see {T : List Tk} {x : Cnd} (hx : Cw.ok x = true) (C : CSee T x) {p : Nat} {L : List TT} (h : Sees T p (mT wOpen :: (cTk x ++ [mT qE]) ++ L)) : pM T .nt p = .ok (ZI x, p + (mT wOpen :: (cTk x ++ [mT qE])).length) := by
  have h' : Sees T p (mT wOpen :: (cTk x ++ (mT qE :: L))) := by simpa using h
  have h1 := h'.tail
  have h2 := h1.right
  have l0 := h'.le
  have l1 := QV hx h1
  have n1 : isM T p wNot = false := by rw [zf h']; rfl
  have n2 : isM T p wOpen = true := by rw [zf h']; rfl
  have n3 : isM T (p + 1 + (cTk x).length) Q1 = false := by rw [zf h2]; rfl
  have n4 : isM T (p + 1 + (cTk x).length) wOr = false := by rw [zf h2]; rfl
  have n5 : isM T (p + 1 + (cTk x).length) qE = true := by rw [zf h2]; rfl
  rw [pM_nt (by simp only [List.length_cons] at l0; omega), n1, n2, if_neg (by simp), if_pos rfl, C.or _ _ h1 n3, pM_orL l1, n4, if_neg (by simp)]
  simp only [n5, if_true]
  congr 2
  simp only [List.length_cons, List.length_append, List.length_nil]; omega
theorem pl2_see {T : List Tk} {x : Cnd} (hx : Cw.ok x = true) (C : CSee T x) {p : Nat} {L : List TT} (h : Sees T p (plK (lvl x, cTk x) 2 ++ L)) : pM T .nt p = .ok (ZI x, p + (plK (lvl x, cTk x) 2).length) := by
  unfold plK at h ⊢
  split at h
  · rename_i hl
    rw [if_pos hl]
    exact par_see hx C h
  · rename_i hl
    rw [if_neg hl]
    exact C.nt p L (by simp only at hl; omega) h
theorem pl1_see {T : List Tk} {x : Cnd} (hx : Cw.ok x = true) (C : CSee T x) {p : Nat} {L : List TT} (h : Sees T p (plK (lvl x, cTk x) 1 ++ L)) : pM T .an p = pM T (.anL (ZI x)) (p + (plK (lvl x, cTk x) 1).length) := by
  unfold plK at h ⊢
  split at h
  · rename_i hl
    rw [if_pos hl, pM_an (by have := h.left.len (by simp); omega), par_see hx C h]
  · rename_i hl
    rw [if_neg hl]
    exact C.an p L (by simp only at hl; omega) h
theorem pl0_see {x : Cnd} : plK (lvl x, cTk x) 0 = cTk x := by
  have : ¬ lvl x < 0 := by obtain ⟨k, f, o, n, nl, fu, s, ks⟩ := x; simp only [lvl]; split <;> (try split) <;> omega
  unfold plK; exact if_neg this
theorem fac_five {f : Int} (h0 : 0 ≤ f) (h4 : f ≤ 4) : f = 0 ∨ f = 1 ∨ f = 2 ∨ f = 3 ∨ f = 4 := by omega
theorem op_six {o : Int} (h0 : 1 ≤ o) (h4 : o ≤ 6) : o = 1 ∨ o = 2 ∨ o = 3 ∨ o = 4 ∨ o = 5 ∨ o = 6 := by omega
theorem fac_idx {f : Int} (h0 : 0 ≤ f) (h4 : f ≤ 4) : jV (Q2 f) J5 0 = f ∧ ((Q2 f).data.toList == wNot.data.toList) = false ∧ ((Q2 f).data.toList == wOpen.data.toList) = false := by
  rcases fac_five h0 h4 with rfl | rfl | rfl | rfl | rfl <;> exact ⟨by simp [jV, J5, Q2, ByteArray.toList_eq], rfl, rfl⟩
theorem op_idx {o : Int} (h0 : 1 ≤ o) (h4 : o ≤ 6) : jV (opT o) opsL 0 = o := by
  rcases op_six h0 h4 with rfl | rfl | rfl | rfl | rfl | rfl <;> simp [jV, opsL, opT, ByteArray.toList_eq]
theorem cond_see (T : List Tk) : ∀ (m : Nat) (c : Cnd), tot c ≤ m → Cw.ok c = true → CSee T c := by
  intro m
  induction m with
  | zero => intro c hm; have := Ja c; omega
  | succ m ih =>
    intro c hm hc
    rcases ok_kinds hc with ⟨f, o, n, nl, fu, s, rfl, hf, ho, hn, _⟩ | ⟨nl, fu, s, a, rfl, ha, ta⟩ | ⟨k, nl, fu, s, a, b, rfl, hk, ha, hb, ta, tb⟩
    · -- a leaf
      have e0 : cTk (.mk 1 f o n nl fu s []) = [mT (Q2 f), mT (opT o), nT n] := by simp [cTk, cnK]
      have en : ZI (.mk 1 f o n nl fu s []) = cIs f o n := by simp [ZI, jH]
      have hl : lvl (.mk 1 f o n nl fu s []) = 2 := by simp [lvl]
      have hnt : ∀ p L, Sees T p (cTk (.mk 1 f o n nl fu s []) ++ L) → pM T .nt p = .ok (ZI (.mk 1 f o n nl fu s []), p + (cTk (.mk 1 f o n nl fu s [])).length) := by
        intro p L h
        rw [e0] at h ⊢
        rw [en]
        have l0 := h.le
        obtain ⟨f1, f2, f3⟩ := fac_idx hf.1 hf.2
        have n1 : isM T p wNot = false := by rw [zf h]; exact f2
        have n2 : isM T p wOpen = false := by rw [zf h]; exact f3
        have n3 : factI T p = f := by rw [factI, textM_mark h]; exact f1
        have n4 : opI T (p + 1) = o := by rw [opI, textM_mark h.tail]; exact op_idx ho.1 ho.2
        have n5 := JR h.tail.tail hn
        rw [pM_nt (by simp only [List.length_cons] at l0; omega), n1, n2, if_neg (by simp), if_neg (by simp), jz, n3, n4, if_neg (by omega), if_neg (by omega), n5]
        rfl
      have han : ∀ p L, Sees T p (cTk (.mk 1 f o n nl fu s []) ++ L) → pM T .an p = pM T (.anL (ZI (.mk 1 f o n nl fu s []))) (p + (cTk (.mk 1 f o n nl fu s [])).length) := by
        intro p L h
        have := QV hc h
        rw [pM_an (by omega), hnt p L h]
      refine ⟨fun p L _ h => hnt p L h, fun p L _ h => han p L h, fun p L h hne => ?_⟩
      have := QV hc h
      rw [pM_or (by omega), han p L h, pM_anL this, hne, if_neg (by simp)]
    · have Ca := ih a (by omega) ha
      have e0 : cTk (.mk 2 0 0 0 nl fu s [a]) = mT wNot :: plK (lvl a, cTk a) 2 := by simp [cTk, cTkL, cnK]
      have en : ZI (.mk 2 0 0 0 nl fu s [a]) = cNot (ZI a) := by simp [ZI, jH]
      have hnt : ∀ p L, Sees T p (cTk (.mk 2 0 0 0 nl fu s [a]) ++ L) → pM T .nt p = .ok (ZI (.mk 2 0 0 0 nl fu s [a]), p + (cTk (.mk 2 0 0 0 nl fu s [a])).length) := by
        intro p L h
        rw [e0] at h ⊢
        rw [en]
        have l0 := h.le
        have n1 : isM T p wNot = true := by rw [zf h]; rfl
        have h2 : Sees T (p + 1) (plK (lvl a, cTk a) 2 ++ L) := h.tail
        rw [pM_nt (by simp only [List.length_cons] at l0; omega), n1, if_pos rfl, pl2_see ha Ca h2]
        simp only [List.length_cons]
        congr 2
        omega
      have han : ∀ p L, Sees T p (cTk (.mk 2 0 0 0 nl fu s [a]) ++ L) → pM T .an p = pM T (.anL (ZI (.mk 2 0 0 0 nl fu s [a]))) (p + (cTk (.mk 2 0 0 0 nl fu s [a])).length) := by
        intro p L h
        have := QV hc h
        rw [pM_an (by omega), hnt p L h]
      refine ⟨fun p L _ h => hnt p L h, fun p L _ h => han p L h, fun p L h hne => ?_⟩
      have := QV hc h
      rw [pM_or (by omega), han p L h, pM_anL this, hne, if_neg (by simp)]
    · have Ca := ih a (by omega) ha
      have Cb := ih b (by omega) hb
      rcases hk with rfl | rfl
      · have e0 : cTk (.mk 3 0 0 0 nl fu s [a, b]) = plK (lvl a, cTk a) 1 ++ mT Q1 :: plK (lvl b, cTk b) 2 := by simp [cTk, cTkL, cnK]
        have en : ZI (.mk 3 0 0 0 nl fu s [a, b]) = cAnd (ZI a) (ZI b) := by simp [ZI, jH]
        have hl : lvl (.mk 3 0 0 0 nl fu s [a, b]) = 1 := by simp [lvl]
        have han : ∀ p L, Sees T p (cTk (.mk 3 0 0 0 nl fu s [a, b]) ++ L) → pM T .an p = pM T (.anL (ZI (.mk 3 0 0 0 nl fu s [a, b]))) (p + (cTk (.mk 3 0 0 0 nl fu s [a, b])).length) := by
          intro p L h
          rw [e0] at h ⊢
          rw [en]
          have h' : Sees T p (plK (lvl a, cTk a) 1 ++ (mT Q1 :: (plK (lvl b, cTk b) 2 ++ L))) := by simpa using h
          have h2 := h'.right
          have l2 := h2.le
          have n1 : isM T (p + (plK (lvl a, cTk a) 1).length) Q1 = true := by rw [zf h2]; rfl
          rw [pl1_see ha Ca h', pM_anL (by simp only [List.length_cons] at l2; omega), n1, if_pos rfl, pl2_see hb Cb h2.tail]
          simp only [List.length_append, List.length_cons]
          congr 1
          omega
        refine ⟨fun p L h2 => by rw [hl] at h2; omega, fun p L _ h => han p L h, fun p L h hne => ?_⟩
        have := QV hc h
        rw [pM_or (by omega), han p L h, pM_anL this, hne, if_neg (by simp)]
      · have e0 : cTk (.mk 4 0 0 0 nl fu s [a, b]) = cTk a ++ mT wOr :: plK (lvl b, cTk b) 1 := by
          have : cTk (.mk 4 0 0 0 nl fu s [a, b]) = plK (lvl a, cTk a) 0 ++ mT wOr :: plK (lvl b, cTk b) 1 := by simp [cTk, cTkL, cnK]
          rw [this, pl0_see]
        have en : ZI (.mk 4 0 0 0 nl fu s [a, b]) = cOr (ZI a) (ZI b) := by simp [ZI, jH]
        have hl : lvl (.mk 4 0 0 0 nl fu s [a, b]) = 0 := by simp [lvl]
        refine ⟨fun p L h2 => by rw [hl] at h2; omega, fun p L h2 => by rw [hl] at h2; omega, fun p L h hne => ?_⟩
        have hle := QV hc h
        rw [e0] at h hne hle ⊢
        rw [en]
        have h' : Sees T p (cTk a ++ (mT wOr :: (plK (lvl b, cTk b) 1 ++ L))) := by simpa using h
        have h2 := h'.right
        have l2 := h2.le
        have n0 : isM T (p + (cTk a).length) Q1 = false := by rw [zf h2]; rfl
        have n1 : isM T (p + (cTk a).length) wOr = true := by rw [zf h2]; rfl
        have eq : p + (cTk a ++ mT wOr :: plK (lvl b, cTk b) 1).length = p + (cTk a).length + 1 + (plK (lvl b, cTk b) 1).length := by simp only [List.length_append, List.length_cons]; omega
        rw [eq] at hne hle ⊢
        rw [Ca.or p _ h' n0, pM_orL (by simp only [List.length_cons] at l2; omega), n1, if_pos rfl, pl1_see hb Cb h2.tail, pM_anL hle, hne, if_neg (by simp)]
theorem condM_see {T : List Tk} {c : Cnd} (hc : Cw.ok c = true) {p : Nat} {L : List TT} (h : Sees T p (cTk c ++ L)) (h1 : isM T (p + (cTk c).length) Q1 = false) (h2 : isM T (p + (cTk c).length) wOr = false) : condM T p = .ok (ZI c, p + (cTk c).length) := by
  show pM T .or p = _
  rw [(cond_see T _ c (Nat.le_refl _) hc).or p L h h1, pM_orL (QV hc h), h2, if_neg (by simp)]
end Go.AM
namespace Go.AM
open Go.Proofs Cw Du
set_option maxRecDepth 10000
def rkTk (o : Ordr) : List TT := if o.rank = 0 then [] else [mT Q6, nT o.rank]
def J0 (o : Ordr) : List TT := mT Jx :: nmT o.name :: (rkTk o ++ (mT wIf :: (cTk o.cond ++ [mT Zv])))
def j4 (o : Ordr) : Ordr := ⟨o.name, o.rank, ZI o.cond⟩
theorem orderM_see {T : List Tk} {p : Nat} {o : Ordr} {L : List TT} (ho : Zz o = true) (h : Sees T p (J0 o ++ L)) : isM T p Jx = true ∧ ZG T (p + 1) = .ok (j4 o, p + (J0 o).length) := by
  have h' : Sees T p (mT Jx :: nmT o.name :: (rkTk o ++ (mT wIf :: (cTk o.cond ++ (mT Zv :: L))))) := by simpa [J0] using h
  obtain ⟨_, hr, _, hc, _⟩ := QT ho
  refine ⟨by rw [zf h']; rfl, ?_⟩
  have h1 := h'.tail
  have h2 := h1.tail
  have h3 := h2.right
  have h4 := h3.tail
  have h5 := h4.right
  have e1 := JB h1
  have e3 : isM T (p + 1 + 1 + (rkTk o).length) wIf = true := by rw [zf h3]; rfl
  have e5 : isM T (p + 1 + 1 + (rkTk o).length + 1 + (cTk o.cond).length) Zv = true := by rw [zf h5]; rfl
  have e4 := condM_see hc h4 (by rw [zf h5]; rfl) (by rw [zf h5]; rfl)
  have e2 : (if isM T (p + 1 + 1) Q6 then jc T (p + 1 + 1 + 1) else .ok (0, p + 1 + 1)) = (.ok (o.rank, p + 1 + 1 + (rkTk o).length) : PR Int) := by
    by_cases h0 : o.rank = 0
    · have ek : rkTk o = [] := by rw [rkTk, if_pos h0]
      rw [ek] at h2 ⊢
      have n : isM T (p + 1 + 1) Q6 = false := by rw [zf (w := wIf) (L := cTk o.cond ++ (mT Zv :: L)) h2]; rfl
      rw [n, h0]; rfl
    · have ek : rkTk o = [mT Q6, nT o.rank] := by rw [rkTk, if_neg h0]
      rw [ek] at h2 ⊢
      have n : isM T (p + 1 + 1) Q6 = true := by rw [zf h2]; rfl
      rw [n, if_pos rfl, JR h2.tail hr]; rfl
  rw [ZG, e1]
  simp only [e2, e3, e4, e5, if_true]
  have : p + (J0 o).length = p + 1 + 1 + (rkTk o).length + 1 + (cTk o.cond).length + 1 := by simp only [J0, List.length_cons, List.length_append, List.length_nil]; omega
  rw [this]
  rfl
theorem lnTk_ne (l : Lin) : QC l ≠ [] := by
  unfold QC hdTk; (repeat' split) <;> simp
def wTk (ls : List Lin) (os : List Ordr) : List TT := ls.flatMap QC ++ os.flatMap J0
theorem srcM_os {T : List Tk} : ∀ (os : List Ordr) (f p : Nat) (a : List Lin) (b : List Ordr), (∀ o ∈ os, Zz o = true) → os.length + 1 ≤ f → p + (os.flatMap J0).length = T.length → Sees T p (os.flatMap J0 ++ []) → Qa T f p a b = .ok (a, b ++ os.map j4)
  | [], f, p, a, b, _, hf, hp, _ => by
    obtain ⟨f, rfl⟩ : ∃ g, f = g + 1 := ⟨f - 1, by omega⟩
    rw [Qa, if_pos (by simp at hp; omega)]; simp
  | o :: os, f, p, a, b, ho, hf, hp, h => by
    obtain ⟨f, rfl⟩ : ∃ g, f = g + 1 := ⟨f - 1, by omega⟩
    have e : (o :: os).flatMap J0 = J0 o ++ os.flatMap J0 := rfl
    rw [e, List.append_assoc] at h
    rw [e, List.length_append] at hp
    obtain ⟨h1, h2⟩ := orderM_see (ho o (by simp)) h
    have hl : 0 < (J0 o).length := by simp [J0]
    rw [Qa, if_neg (by omega), if_pos h1, h2]
    simp only
    rw [srcM_os os f _ a _ (fun x hx => ho x (by simp [hx])) (by simp at hf; omega) (by omega) h.right]
    simp
theorem srcM_ls {T : List Tk} : ∀ (ls : List Lin) (os : List Ordr) (f p : Nat) (a : List Lin), (∀ l ∈ ls, ZQ l = true) → (∀ o ∈ os, Zz o = true) → ls.length + os.length + 1 ≤ f → p + (wTk ls os).length = T.length → Sees T p (wTk ls os ++ []) → Qa T f p a [] = .ok (a ++ ls.map Zq, os.map j4)
  | [], os, f, p, a, _, ho, hf, hp, h => by
    have := srcM_os os f p a [] ho (by simpa using hf) hp h
    simpa using this
  | l :: ls, os, f, p, a, hl, ho, hf, hp, h => by
    obtain ⟨f, rfl⟩ : ∃ g, f = g + 1 := ⟨f - 1, by omega⟩
    have e : wTk (l :: ls) os = QC l ++ wTk ls os := by simp [wTk]
    rw [e, List.append_assoc] at h
    rw [e, List.length_append] at hp
    have h1 := lineM_see (hl l (by simp)) h
    have h0 := lnTk_ord h
    have hlt : 0 < (QC l).length := List.length_pos_iff.2 (lnTk_ne l)
    rw [Qa, if_neg (by omega), h0, if_neg (by simp), h1]
    simp only
    rw [srcM_ls ls os f _ _ (fun x hx => hl x (by simp [hx])) ho (by simp at hf; omega) (by omega) h.right]
    simp
/-! texts -/
theorem brk_nil : brk [] := fun c r e => by cases e
theorem jU (r : List UInt8) : brk (32 :: r) := fun c r' e => by cases e; left; rfl
theorem brk_59 (r : List UInt8) : brk (59 :: r) := fun c r' e => by cases e; right; left; rfl
theorem brk_44 (r : List UInt8) : brk (44 :: r) := fun c r' e => by cases e; right; right; left; rfl
theorem brk_41 (r : List UInt8) : brk (41 :: r) := fun c r' e => by cases e; right; right; right; left; rfl
theorem brk_app {a b : List UInt8} (ha : brk a) (hb : a = [] → brk b) : brk (a ++ b) := by
  cases a with
  | nil => exact hb rfl
  | cons x r => intro c r' e; exact ha c r (by simp only [List.cons_append, List.cons.injEq] at e; rw [e.1])
theorem Lx.brT {a a2 : List UInt8} {L L2 : List TT} (h : Lx true a L) (h2 : Lx true a2 L2) (hb : brk a2) : Lx true (a ++ a2) (L ++ L2) := by
  cases a2 with
  | nil =>
    intro s pre rest acc hs hr
    rw [List.append_nil] at hs ⊢
    obtain ⟨acc1, e1, e2⟩ := h s pre rest acc hs hr
    obtain ⟨acc2, e3, e4⟩ := h2 s (pre ++ a) rest acc1 (by rw [hs]; simp) hr
    refine ⟨acc2, ?_, by rw [e4, e2, List.append_assoc]⟩
    rw [e1, ← List.length_append, e3]; simp
  | cons x r => exact h.br h2 hb (by simp)
theorem Lx.res {w : ByteArray} (hw : WdOk w.data.toList) (hi : inS w resl = true) : Lx true w.data.toList [mT w] := by
  have := Lx.word hw
  have e : (⟨w.data.toList.toArray⟩ : ByteArray) = w := by apply ByteArray.ext; simp
  rw [e, hi] at this
  exact this
theorem Lx.dec {n : Int} (h0 : 0 ≤ n) (h1 : n ≤ 10000) : Lx true (dec n).data.toList [nT n] := by
  have := Lx.num (dec_ok h0 h1)
  have e : (⟨(Du.dec n).data.toList.toArray⟩ : ByteArray) = Du.dec n := by apply ByteArray.ext; simp
  rw [e] at this
  exact this
theorem Lx.sp : Lx false [32] [] := Lx.skip (.inl rfl)
theorem Lx.lf : Lx false [10] [] := Lx.skip (.inr rfl)
theorem Lx.wsp {w : List UInt8} {L : List TT} (h : Lx true w L) : Lx false (w ++ [32]) L := by
  have := h.br Lx.sp (jU _) (by simp)
  rwa [List.append_nil] at this
theorem Lx.spw {w : List UInt8} {L : List TT} (h : Lx true w L) : Lx false (32 :: (w ++ [32])) L := Lx.sp.app h.wsp
theorem apL (a b : ByteArray) : (a ++ b).data.toList = a.data.toList ++ b.data.toList := by rw [ByteArray.data_append, Array.toList_append]
end Go.AM
namespace Go.AM
open Go.Proofs Cw Du
set_option maxRecDepth 10000
theorem fac_lex {f : Int} (h0 : 0 ≤ f) (h4 : f ≤ 4) : Lx true (Q2 f).data.toList [mT (Q2 f)] := by
  rcases fac_five h0 h4 with rfl | rfl | rfl | rfl | rfl <;> exact Lx.res ⟨⟨_, _, rfl, by decide⟩, by decide, by decide⟩ (by kernel_rfl)
theorem op_lex {o : Int} (h0 : 1 ≤ o) (h4 : o ≤ 6) : Lx true (opT o).data.toList [mT (opT o)] := by
  rcases op_six h0 h4 with rfl | rfl | rfl | rfl | rfl | rfl
  · exact (Lx.mark (c := 61) (by decide)).weak
  · exact (Lx.two (c := 33) (by decide)).weak
  · exact Lx.one (c := 60) (by decide)
  · exact (Lx.two (c := 60) (by decide)).weak
  · exact Lx.one (c := 62) (by decide)
  · exact (Lx.two (c := 62) (by decide)).weak
theorem lxNot : Lx true [110, 111, 116] [mT wNot] := Lx.res (w := wNot) ⟨⟨_, _, rfl, by decide⟩, by decide, by decide⟩ (by kernel_rfl)
theorem lxAnd : Lx true [97, 110, 100] [mT Q1] := Lx.res (w := Q1) ⟨⟨_, _, rfl, by decide⟩, by decide, by decide⟩ (by kernel_rfl)
theorem lxOr : Lx true [111, 114] [mT wOr] := Lx.res (w := wOr) ⟨⟨_, _, rfl, by decide⟩, by decide, by decide⟩ (by kernel_rfl)
theorem lxOn : Lx true [111, 110] [mT wOn] := Lx.res (w := wOn) ⟨⟨_, _, rfl, by decide⟩, by decide, by decide⟩ (by kernel_rfl)
theorem lxFrom : Lx true [102, 114, 111, 109] [mT JN] := Lx.res (w := JN) ⟨⟨_, _, rfl, by decide⟩, by decide, by decide⟩ (by kernel_rfl)
theorem lxTo : Lx true [116, 111] [mT wTo] := Lx.res (w := wTo) ⟨⟨_, _, rfl, by decide⟩, by decide, by decide⟩ (by kernel_rfl)
theorem lxEvery : Lx true [101, 118, 101, 114, 121] [mT JE] := Lx.res (w := JE) ⟨⟨_, _, rfl, by decide⟩, by decide, by decide⟩ (by kernel_rfl)
theorem lxExcept : Lx true [101, 120, 99, 101, 112, 116] [mT Z1] := Lx.res (w := Z1) ⟨⟨_, _, rfl, by decide⟩, by decide, by decide⟩ (by kernel_rfl)
theorem lxWatch : Lx true [119, 97, 116, 99, 104] [mT Jp] := Lx.res (w := Jp) ⟨⟨_, _, rfl, by decide⟩, by decide, by decide⟩ (by kernel_rfl)
theorem lxBy : Lx true [98, 121] [mT wBy] := Lx.res (w := wBy) ⟨⟨_, _, rfl, by decide⟩, by decide, by decide⟩ (by kernel_rfl)
theorem lxRest : Lx true [114, 101, 115, 116] [mT wRest] := Lx.res (w := wRest) ⟨⟨_, _, rfl, by decide⟩, by decide, by decide⟩ (by kernel_rfl)
theorem lxCancel : Lx true [99, 97, 110, 99, 101, 108] [mT Jc] := Lx.res (w := Jc) ⟨⟨_, _, rfl, by decide⟩, by decide, by decide⟩ (by kernel_rfl)
theorem lxSwap : Lx true [115, 119, 97, 112] [mT wSwap] := Lx.res (w := wSwap) ⟨⟨_, _, rfl, by decide⟩, by decide, by decide⟩ (by kernel_rfl)
theorem lxOrder : Lx true [111, 114, 100, 101, 114] [mT Jx] := Lx.res (w := Jx) ⟨⟨_, _, rfl, by decide⟩, by decide, by decide⟩ (by kernel_rfl)
theorem lxRank : Lx true [114, 97, 110, 107] [mT Q6] := Lx.res (w := Q6) ⟨⟨_, _, rfl, by decide⟩, by decide, by decide⟩ (by kernel_rfl)
theorem lxIf : Lx true [105, 102] [mT wIf] := Lx.res (w := wIf) ⟨⟨_, _, rfl, by decide⟩, by decide, by decide⟩ (by kernel_rfl)
theorem plc_lex {x : Cnd} (h : Lx true (shC x).data.toList (cTk x)) (a : Int) : Lx true (plc (lvl x, shC x) a).data.toList (plK (lvl x, cTk x) a) := by
  unfold plc plK
  by_cases hl : lvl x < a
  · rw [if_pos (show (lvl x, shC x).1 < a from hl), if_pos (show (lvl x, cTk x).1 < a from hl), apL, apL, List.append_assoc]
    exact (Lx.mark (c := 40) (by decide)).app (h.br (Lx.mark (c := 41) (by decide)).weak (brk_41 _) (by simp))
  · rw [if_neg (show ¬ (lvl x, shC x).1 < a from hl), if_neg (show ¬ (lvl x, cTk x).1 < a from hl)]
    exact h
theorem cond_lex : ∀ (m : Nat) (c : Cnd), tot c ≤ m → Cw.ok c = true → Lx true (shC c).data.toList (cTk c) := by
  intro m
  induction m with
  | zero => intro c hm; have := Ja c; omega
  | succ m ih =>
    intro c hm hc
    rcases ok_kinds hc with ⟨f, o, n, nl, fu, s, rfl, hf, ho, hn, hn2⟩ | ⟨nl, fu, s, a, rfl, ha, ta⟩ | ⟨k, nl, fu, s, a, b, rfl, hk, ha, hb, ta, tb⟩
    · have e0 : cTk (.mk 1 f o n nl fu s []) = [mT (Q2 f)] ++ ([] ++ ([mT (opT o)] ++ ([] ++ [nT n]))) := by simp [cTk, cnK]
      have e1 : (shC (.mk 1 f o n nl fu s [])).data.toList = (Q2 f).data.toList ++ ([32] ++ ((opT o).data.toList ++ ([32] ++ (dec n).data.toList))) := by simp [shC, shN, spT]
      rw [e0, e1]
      exact (fac_lex hf.1 hf.2).br (Lx.sp.app ((op_lex ho.1 ho.2).br (Lx.sp.app (Lx.dec hn hn2)) (jU _) (by simp))) (jU _) (by simp)
    · have e0 : cTk (.mk 2 0 0 0 nl fu s [a]) = [mT wNot] ++ plK (lvl a, cTk a) 2 := by simp [cTk, cTkL, cnK]
      have e1 : (shC (.mk 2 0 0 0 nl fu s [a])).data.toList = ([110, 111, 116] ++ [32]) ++ (plc (lvl a, shC a) 2).data.toList := by simp [shC, shN, shL]
      rw [e0, e1]
      exact (lxNot.wsp).app (plc_lex (ih a (by omega) ha) 2)
    · rcases hk with rfl | rfl
      · have e0 : cTk (.mk 3 0 0 0 nl fu s [a, b]) = plK (lvl a, cTk a) 1 ++ ([mT Q1] ++ plK (lvl b, cTk b) 2) := by simp [cTk, cTkL, cnK]
        have e1 : (shC (.mk 3 0 0 0 nl fu s [a, b])).data.toList = (plc (lvl a, shC a) 1).data.toList ++ ((32 :: ([97, 110, 100] ++ [32])) ++ (plc (lvl b, shC b) 2).data.toList) := by simp [shC, shN, shL]
        rw [e0, e1]
        exact (plc_lex (ih a (by omega) ha) 1).br ((lxAnd.spw).app (plc_lex (ih b (by omega) hb) 2)) (jU _) (by simp)
      · have e0 : cTk (.mk 4 0 0 0 nl fu s [a, b]) = plK (lvl a, cTk a) 0 ++ ([mT wOr] ++ plK (lvl b, cTk b) 1) := by simp [cTk, cTkL, cnK]
        have e1 : (shC (.mk 4 0 0 0 nl fu s [a, b])).data.toList = (plc (lvl a, shC a) 0).data.toList ++ ((32 :: ([111, 114] ++ [32])) ++ (plc (lvl b, shC b) 1).data.toList) := by simp [shC, shN, shL]
        rw [e0, e1]
        exact (plc_lex (ih a (by omega) ha) 0).br ((lxOr.spw).app (plc_lex (ih b (by omega) hb) 1)) (jU _) (by simp)
theorem fr_lex {l : Lin} (h : PrOk l) : Lx true (frT l).data.toList (frTk l) ∧ brk (frT l).data.toList := by
  obtain ⟨_, _, _, _, ⟨f0, f1⟩, ⟨o0, o1⟩, _⟩ := h
  by_cases hc : l.fr = l.to ∧ l.ev = 1
  · have e0 : frTk l = [mT wOn] ++ [nT l.fr] := by rw [frTk, if_pos hc]; rfl
    have e1 : (frT l).data.toList = (32 :: ([111, 110] ++ [32])) ++ (dec l.fr).data.toList := by rw [frT, if_pos hc]; simp
    rw [e0, e1]
    exact ⟨(lxOn.spw).app (Lx.dec f0 (by omega)), jU _⟩
  · have e0 : frTk l = [mT JN] ++ ([nT l.fr] ++ ([mT wTo] ++ [nT l.to])) := by rw [frTk, if_neg hc]; rfl
    have e1 : (frT l).data.toList = (32 :: ([102, 114, 111, 109] ++ [32])) ++ ((dec l.fr).data.toList ++ ((32 :: ([116, 111] ++ [32])) ++ (dec l.to).data.toList)) := by rw [frT, if_neg hc]; simp
    rw [e0, e1]
    exact ⟨(lxFrom.spw).app ((Lx.dec f0 (by omega)).br ((lxTo.spw).app (Lx.dec o0 (by omega))) (jU _) (by simp)), jU _⟩
theorem each_lex {l : Lin} (h : PrOk l) : Lx true (Js l).data.toList (Z9 l) ∧ brk (Js l).data.toList := by
  obtain ⟨_, _, _, _, _, _, ⟨v0, v1⟩, _⟩ := h
  by_cases hc : l.ev = 1
  · have e0 : Z9 l = [] := by rw [Z9, if_pos hc]
    have e1 : (Js l).data.toList = [] := by rw [Js, if_pos hc]
    rw [e0, e1]
    exact ⟨Lx.nil.weak, brk_nil⟩
  · have e0 : Z9 l = [mT JE] ++ [nT l.ev] := by rw [Z9, if_neg hc]; rfl
    have e1 : (Js l).data.toList = (32 :: ([101, 118, 101, 114, 121] ++ [32])) ++ (dec l.ev).data.toList := by rw [Js, if_neg hc]; simp
    rw [e0, e1]
    exact ⟨(lxEvery.spw).app (Lx.dec v0 (by omega)), jU _⟩
theorem exTk_snoc (l : List Int) (d : Int) : exTk (l ++ [d]) = exTk l ++ ([mT (if l = [] then Z1 else JD)] ++ [nT d]) := by
  cases l with
  | nil => rfl
  | cons x r =>
    have e1 : jl (r ++ [d]) = jl r ++ [mT JD, nT d] := by simp [jl]
    show mT Z1 :: nT x :: jl (r ++ [d]) = _
    rw [e1, if_neg (by simp)]
    rfl
theorem ex_lex {xs : List Int} (hx : ∀ d ∈ xs, 0 ≤ d ∧ d ≤ 1000) : ∀ i, i ≤ xs.length → Lx true (exT xs i).data.toList (exTk (xs.take i)) ∧ brk (exT xs i).data.toList
  | 0, _ => ⟨Lx.nil.weak, brk_nil⟩
  | i + 1, hi => by
    obtain ⟨h1, h2⟩ := ex_lex hx i (by omega)
    have hg : xs.getD i 0 = xs[i] := by rw [List.getD_eq_getElem?_getD, List.getElem?_eq_getElem (by omega)]; rfl
    have hd := hx _ (List.getElem_mem (show i < xs.length by omega))
    have et : xs.take (i + 1) = xs.take i ++ [xs[i]] := by rw [List.take_add_one, List.getElem?_eq_getElem (by omega)]; rfl
    have e1 : (exT xs (i + 1)).data.toList = (exT xs i).data.toList ++ ((sepT i).data.toList ++ (dec xs[i]).data.toList) := by rw [exT, hg, apL, apL]
    rw [e1, et, exTk_snoc]
    by_cases h0 : i = 0
    · subst h0
      have e2 : (sepT 0).data.toList = 32 :: ([101, 120, 99, 101, 112, 116] ++ [32]) := rfl
      rw [e2, if_pos (by simp)]
      exact ⟨h1.brT ((lxExcept.spw).app (Lx.dec hd.1 (by omega))) (jU _), brk_app h2 fun _ => jU _⟩
    · have e2 : (sepT i).data.toList = [44] ++ [32] := by rw [sepT, if_neg h0]; rfl
      have hne : xs.take i ≠ [] := by
        intro e
        have := congrArg List.length e
        rw [List.length_take, List.length_nil] at this
        omega
      rw [e2, if_neg hne]
      exact ⟨h1.brT (((Lx.mark (c := 44) (by decide)).app Lx.sp).app (Lx.dec hd.1 (by omega))) (brk_44 _), brk_app h2 fun _ => brk_44 _⟩
theorem hd_lex {l : Lin} (h : ZQ l = true) : Lx true (hdT l).data.toList (hdTk l) := by
  unfold ZQ at h
  unfold hdT hdTk
  split at h
  · rename_i hk
    simp only [Bool.and_eq_true] at h
    rw [if_pos hk, if_pos hk]
    have e1 : ((⟨#[119, 97, 116, 99, 104, 32]⟩ : ByteArray) ++ l.tower ++ ⟨#[32, 98, 121, 32]⟩ ++ l.person).data.toList = ([119, 97, 116, 99, 104] ++ [32]) ++ (l.tower.data.toList ++ ((32 :: ([98, 121] ++ [32])) ++ l.person.data.toList)) := by simp
    rw [e1]
    exact (lxWatch.wsp).app ((Lx.name h.1.1.1).br ((lxBy.spw).app (Lx.name h.1.1.2)) (jU _) (by simp))
  · split at h
    · rename_i hk0 hk
      simp only [Bool.and_eq_true] at h
      rw [if_neg hk0, if_pos hk, if_neg hk0, if_pos hk]
      have e1 : ((⟨#[114, 101, 115, 116, 32]⟩ : ByteArray) ++ l.person).data.toList = ([114, 101, 115, 116] ++ [32]) ++ l.person.data.toList := by simp
      rw [e1]
      exact (lxRest.wsp).app (Lx.name h.1.1.2)
    · split at h
      · rename_i hk0 hk1 hk
        simp only [Bool.and_eq_true] at h
        rw [if_neg hk0, if_neg hk1, if_pos hk, if_neg hk0, if_neg hk1, if_pos hk]
        have e1 : ((⟨#[99, 97, 110, 99, 101, 108, 32]⟩ : ByteArray) ++ l.tower).data.toList = ([99, 97, 110, 99, 101, 108] ++ [32]) ++ l.tower.data.toList := by simp
        rw [e1]
        exact (lxCancel.wsp).app (Lx.name h.1.1.1)
      · split at h
        · rename_i hk0 hk1 hk2 hk
          simp only [Bool.and_eq_true] at h
          rw [if_neg hk0, if_neg hk1, if_neg hk2, if_neg hk0, if_neg hk1, if_neg hk2]
          have e1 : ((⟨#[115, 119, 97, 112, 32]⟩ : ByteArray) ++ l.person ++ spT ++ l.other).data.toList = ([115, 119, 97, 112] ++ [32]) ++ (l.person.data.toList ++ ([32] ++ l.other.data.toList)) := by simp [spT]
          rw [e1]
          exact (lxSwap.wsp).app ((Lx.name h.1.1.1.2).br (Lx.sp.app (Lx.name h.1.1.2)) (jU _) (by simp))
        · cases h
theorem lxEnd : Lx false [59, 10] [mT Zv] := (Lx.mark (c := 59) (by decide)).app Lx.lf
theorem line_lex {l : Lin} (h : ZQ l = true) : Lx false (qQ l).data.toList (QC l) := by
  obtain ⟨hp, _⟩ := Qo h
  have hx := hp.2.2.2.2.2.2.2.2
  have h1 := hd_lex h
  obtain ⟨h2, b2⟩ := fr_lex hp
  obtain ⟨h3, b3⟩ := each_lex hp
  obtain ⟨h4, b4⟩ := ex_lex hx l.exc.length (Nat.le_refl _)
  rw [List.take_length] at h4
  have := (((h1.brT h2 b2).brT h3 b3).brT h4 b4).br lxEnd (brk_59 _) (by simp)
  have e1 : (qQ l).data.toList = (((hdT l).data.toList ++ (frT l).data.toList ++ (Js l).data.toList) ++ (exT l.exc l.exc.length).data.toList) ++ [59, 10] := by simp [qQ, dayT, endT]
  have e2 : QC l = ((hdTk l ++ frTk l ++ Z9 l) ++ exTk l.exc) ++ [mT Zv] := by simp [QC, dayTk]
  rw [e1, e2]
  exact this
theorem ord_lex {o : Ordr} (h : Zz o = true) : Lx false (qk o).data.toList (J0 o) := by
  obtain ⟨_, r0, r1, hc, _⟩ := QT h
  have hn : Zn o.name = true := by simp only [Zz, Bool.and_eq_true] at h; exact h.1.1
  have hC := cond_lex _ o.cond (Nat.le_refl _) hc
  have hT : Lx false ((32 :: ([105, 102] ++ [32])) ++ ((shC o.cond).data.toList ++ [59, 10])) ([mT wIf] ++ (cTk o.cond ++ [mT Zv])) := (lxIf.spw).app (hC.br lxEnd (brk_59 _) (by simp))
  by_cases h0 : o.rank = 0
  · have e1 : (qk o).data.toList = ([111, 114, 100, 101, 114] ++ [32]) ++ (o.name.data.toList ++ ((32 :: ([105, 102] ++ [32])) ++ ((shC o.cond).data.toList ++ [59, 10]))) := by simp [qk, rkT, h0]
    have e2 : J0 o = [mT Jx] ++ ([nmT o.name] ++ ([mT wIf] ++ (cTk o.cond ++ [mT Zv]))) := by simp [J0, rkTk, h0]
    rw [e1, e2]
    exact (lxOrder.wsp).app ((Lx.name hn).br hT (jU _) (by simp))
  · have e1 : (qk o).data.toList = ([111, 114, 100, 101, 114] ++ [32]) ++ (o.name.data.toList ++ ((32 :: ([114, 97, 110, 107] ++ [32])) ++ ((dec o.rank).data.toList ++ ((32 :: ([105, 102] ++ [32])) ++ ((shC o.cond).data.toList ++ [59, 10]))))) := by simp [qk, rkT, h0]
    have e2 : J0 o = [mT Jx] ++ ([nmT o.name] ++ ([mT Q6] ++ ([nT o.rank] ++ ([mT wIf] ++ (cTk o.cond ++ [mT Zv]))))) := by simp [J0, rkTk, h0]
    rw [e1, e2]
    exact (lxOrder.wsp).app ((Lx.name hn).br ((lxRank.spw).app ((Lx.dec r0 (by omega)).br hT (jU _) (by simp))) (jU _) (by simp))
theorem catT_lex {α : Type} (f : α → ByteArray) (g : α → List TT) (B : ByteArray) (M : List TT) (hB : Lx false B.data.toList M) (l : List α) (h : ∀ x ∈ l, Lx false (f x).data.toList (g x)) : ∀ i, i ≤ l.length → Lx false (JK f B l i).data.toList (M ++ (l.take i).flatMap g)
  | 0, _ => by simpa [JK] using hB
  | i + 1, hi => by
    have ih := catT_lex f g B M hB l h i (by omega)
    have hx : l[i]? = some l[i] := List.getElem?_eq_getElem (by omega)
    have et : l.take (i + 1) = l.take i ++ [l[i]] := by rw [List.take_add_one, hx]; rfl
    rw [JK, hx]
    simp only
    rw [apL, et, List.flatMap_append, List.flatMap_singleton, ← List.append_assoc]
    exact ih.app (h _ (List.getElem_mem _))
theorem text_lex {ls : List Lin} {os : List Ordr} (hl : ∀ l ∈ ls, ZQ l = true) (ho : ∀ o ∈ os, Zz o = true) : Lx false (txT ls os).data.toList (wTk ls os) := by
  have h1 := catT_lex qQ QC ⟨#[]⟩ [] Lx.nil ls (fun x hx => line_lex (hl x hx)) ls.length (Nat.le_refl _)
  rw [List.take_length, List.nil_append] at h1
  have h2 := catT_lex qk J0 _ _ h1 os (fun x hx => ord_lex (ho x hx)) os.length (Nat.le_refl _)
  rw [List.take_length] at h2
  exact h2
theorem watch_back {ls : List Lin} {os : List Ordr} (hl : ∀ l ∈ ls, ZQ l = true) (ho : ∀ o ∈ os, Zz o = true) : ∃ T, Jn (txT ls os) 0 [] = .ok T ∧ ∀ f, T.length + 1 ≤ f → Qa T f 0 [] [] = .ok (ls.map Zq, os.map j4) := by
  obtain ⟨T, h1, h2⟩ := (text_lex hl ho).weak.whole
  refine ⟨T, h1, fun f hf => ?_⟩
  have hlen : T.length = (wTk ls os).length := by rw [← h2, List.length_map]
  have key : ∀ {α : Type} (g : α → List TT) (l : List α), (∀ x, 0 < (g x).length) → l.length ≤ (l.flatMap g).length := by
    intro α g l hg
    induction l with
    | nil => simp
    | cons x r ih => rw [List.flatMap_cons, List.length_append, List.length_cons]; have := hg x; omega
  have k1 := key QC ls fun x => List.length_pos_iff.2 (lnTk_ne x)
  have k2 := key J0 os fun x => by simp [J0]
  have hw : (wTk ls os).length = (ls.flatMap QC).length + (os.flatMap J0).length := by simp [wTk]
  have := srcM_ls ls os f 0 [] hl ho (by omega) (by omega) (show Sees T 0 (wTk ls os ++ []) from ⟨[], by simpa using h2⟩)
  simpa using this
theorem cond_back {c : Cnd} (hc : Cw.ok c = true) : ∃ T, Jn (shC c) 0 [] = .ok T ∧ condM T 0 = .ok (ZI c, T.length) := by
  obtain ⟨T, h1, h2⟩ := (cond_lex _ c (Nat.le_refl _) hc).whole
  refine ⟨T, h1, ?_⟩
  have hlen : T.length = (cTk c).length := by rw [← h2, List.length_map]
  have hout : ∀ w : ByteArray, (([] : List UInt8) == w.data.toList) = false → isM T (0 + (cTk c).length) w = false := fun w hw => by
    unfold isM
    rw [Qs (by omega), ByteArray.toList_eq, ByteArray.toList_eq]; exact hw
  have := condM_see hc (p := 0) (L := []) (show Sees T 0 (cTk c ++ []) from ⟨[], by simpa using h2⟩) (hout _ rfl) (hout _ rfl)
  rw [this, hlen, Nat.zero_add]
end Go.AM
