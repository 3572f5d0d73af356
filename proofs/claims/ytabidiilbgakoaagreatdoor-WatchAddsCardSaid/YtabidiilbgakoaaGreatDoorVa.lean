/- Versions as plain data; walks of small functions. Conditions: as each theorem says. -/
import Derived.Test.YtabidiilbgakoaaGreatDoorDe
namespace Go.AM
open Cw Du
structure Ver where
  id : Int
  fr : Int
  nlL : Bool
  fuL : Bool
  sL : Nat
  ls : List Lin
  nlO : Bool
  fuO : Bool
  sO : Nat
  os : List Ordr
def Ver.chk (v : Ver) : Int := chkW v.ls v.os
def encV (v : Ver) : AV := .agg [iv .i64 v.id, iv .i64 v.fr, .fslc v.nlL v.fuL v.sL (v.ls.map encLn), .fslc v.nlO v.fuO v.sO (v.os.map encO)]
structure wfV (v : Ver) : Prop where
  l1 : v.ls = [] ∨ v.nlL = false ∧ v.sL = 8
  l2 : smL v.ls
  l3 : v.ls.length ≤ 1000000
  o1 : v.os = [] ∨ v.nlO = false ∧ v.sO = 7
  o2 : wfO v.os
  o3 : smO v.os
  o4 : v.os.length ≤ 1000000
def errV (vs : List Ver) (i : Nat) (v : Ver) : Int :=
  if wi v.id 1 1099511627776 = false ∨ wi v.fr 0 400 = false ∨ (0 < i ∧ v.fr ≤ ((vs[i - 1]?).map Ver.fr).getD 0) then 1 else if (vs.take i).any (fun x => decide (x.id = v.id)) then 6 else v.chk
def goV (vs : List Ver) : Nat → Nat → Int × Nat
  | 0, _ => (0, 0)
  | k + 1, i => match vs[i]? with
    | none => (0, 0)
    | some v => if errV vs i v = 0 then goV vs k (i + 1) else (errV vs i v, i)
def chkV (vs : List Ver) : Int × Nat := if 20 < vs.length then (2, 0) else goV vs vs.length 0
theorem goV_step {vs : List Ver} {i : Nat} {v : Ver} (h : vs[i]? = some v) : goV vs (vs.length - i) i = if errV vs i v = 0 then goV vs (vs.length - (i + 1)) (i + 1) else (errV vs i v, i) := by
  have hi : i < vs.length := (List.getElem?_eq_some_iff.1 h).1
  have e : vs.length - i = (vs.length - (i + 1)) + 1 := by omega
  rw [e, goV, h]
theorem goV_end {vs : List Ver} {i : Nat} (h : vs.length ≤ i) : goV vs (vs.length - i) i = (0, 0) := by
  rw [Nat.sub_eq_zero_of_le h]; rfl
theorem goV_zero (vs : List Ver) : ∀ (k i : Nat), (goV vs k i).1 = 0 → ∀ j v, i ≤ j → j < i + k → vs[j]? = some v → errV vs j v = 0
  | 0, i, _, j, v, h1, h2, _ => by omega
  | k + 1, i, h, j, v, h1, h2, hv => by
    rw [goV] at h
    cases hx : vs[i]? with
    | none =>
      have : vs.length ≤ i := List.getElem?_eq_none_iff.1 hx
      have : j < vs.length := (List.getElem?_eq_some_iff.1 hv).1
      omega
    | some x =>
      rw [hx] at h
      simp only at h
      split at h
      · rename_i he
        rcases Nat.lt_or_ge i j with h3 | h3
        · exact goV_zero vs k (i + 1) h j v h3 (by omega) hv
        · have : j = i := by omega
          subst this
          rw [hx] at hv; cases hv; exact he
      · rename_i he; exact absurd h he
theorem chkV_zero {vs : List Ver} (h : (chkV vs).1 = 0) : vs.length ≤ 20 ∧ ∀ j v, vs[j]? = some v → errV vs j v = 0 := by
  unfold chkV at h
  split at h
  · cases h
  · exact ⟨by omega, fun j v hv => goV_zero vs _ 0 h j v (Nat.zero_le _) (by have := (List.getElem?_eq_some_iff.1 hv).1; omega) hv⟩
theorem errV_zero {vs : List Ver} {i : Nat} {v : Ver} (h : errV vs i v = 0) : wi v.id 1 1099511627776 = true ∧ wi v.fr 0 400 = true ∧ (0 < i → ((vs[i - 1]?).map Ver.fr).getD 0 < v.fr) ∧ (∀ x ∈ vs.take i, x.id ≠ v.id) ∧ v.chk = 0 := by
  unfold errV at h
  split at h
  · cases h
  · rename_i h1
    split at h
    · cases h
    · rename_i h2
      rw [not_or, not_or, not_and] at h1
      refine ⟨by simpa using h1.1, by simpa using h1.2.1, fun hi => by have := h1.2.2 hi; omega, fun x hx e => h2 ?_, h⟩
      rw [List.any_eq_true]
      exact ⟨x, hx, by simpa using e⟩
def srt (vs : List Ver) : Prop := vs.Pairwise fun a b => a.fr < b.fr
theorem srt_of : ∀ (vs : List Ver), (∀ i v w, vs[i]? = some v → vs[i + 1]? = some w → v.fr < w.fr) → srt vs
  | [], _ => List.Pairwise.nil
  | [x], _ => List.pairwise_singleton _ _
  | x :: y :: r, h => by
    have h1 := srt_of (y :: r) (fun i v w a b => h (i + 1) v w (by simpa using a) (by simpa using b))
    have h2 : x.fr < y.fr := h 0 x y rfl rfl
    refine List.pairwise_cons.2 ⟨fun z hz => ?_, h1⟩
    rcases List.mem_cons.1 hz with rfl | hz
    · exact h2
    · have := (List.pairwise_cons.1 h1).1 z hz
      omega
theorem chkV_srt {vs : List Ver} (h : (chkV vs).1 = 0) : srt vs := by
  obtain ⟨_, h2⟩ := chkV_zero h
  refine srt_of vs fun i v w hv hw => ?_
  have := (errV_zero (h2 _ _ hw)).2.2.1 (by omega)
  rw [Nat.add_sub_cancel, hv] at this
  exact this
def ltF (v x : Ver) : Bool := decide (x.fr < v.fr)
def insV (vs : List Ver) (v : Ver) : List Ver := vs.takeWhile (ltF v) ++ v :: vs.dropWhile (ltF v)
theorem insV_of {P Q : List Ver} {v : Ver} (hP : ∀ x ∈ P, x.fr < v.fr) (hQ : ∀ x ∈ Q, ¬ x.fr < v.fr) : insV (P ++ Q) v = P ++ v :: Q := by
  have e1 : (P ++ Q).takeWhile (ltF v) = P := by
    rw [List.takeWhile_append_of_pos (fun x hx => by simpa [ltF] using hP x hx)]
    cases Q with
    | nil => simp
    | cons q r =>
      have : ltF v q = false := by have := hQ q (by simp); simp [ltF]; omega
      simp [this]
  have e2 : (P ++ Q).dropWhile (ltF v) = Q := by
    rw [List.dropWhile_append_of_pos (fun x hx => by simpa [ltF] using hP x hx)]
    cases Q with
    | nil => simp
    | cons q r =>
      have : ltF v q = false := by have := hQ q (by simp); simp [ltF]; omega
      simp [this]
  rw [insV, e1, e2]
theorem insV_len (vs : List Ver) (v : Ver) : (insV vs v).length = vs.length + 1 := by
  have := congrArg List.length (List.takeWhile_append_dropWhile (p := ltF v) (l := vs))
  rw [List.length_append] at this
  rw [insV, List.length_append, List.length_cons]; omega
theorem mem_insV {vs : List Ver} {v x : Ver} (h : x ∈ insV vs v) : x = v ∨ x ∈ vs := by
  have e := List.takeWhile_append_dropWhile (p := ltF v) (l := vs)
  rw [insV, List.mem_append, List.mem_cons] at h
  rw [← e, List.mem_append]
  rcases h with h | h | h
  · exact .inr (.inl h)
  · exact .inl h
  · exact .inr (.inr h)
def clashV (vs : List Ver) (v : Ver) : Bool := vs.any fun x => decide (x.id = v.id) || decide (x.fr = v.fr)
def addV (vs : List Ver) (v : Ver) : List Ver × Int :=
  if (chkV vs).1 ≠ 0 then ([], (chkV vs).1) else if clashV vs v then ([], 6) else if (chkV (insV vs v)).1 ≠ 0 then ([], (chkV (insV vs v)).1) else (insV vs v, 0)
def atV (vs : List Ver) (v : Ver) : Nat → Nat
  | 0 => 0
  | i + 1 => match vs[i]? with
    | some x => if x.fr < v.fr then i + 1 else atV vs v i
    | none => atV vs v i
theorem atV_le (vs : List Ver) (v : Ver) : ∀ i, atV vs v i ≤ i
  | 0 => Nat.le_refl _
  | i + 1 => by
    have := atV_le vs v i
    rw [atV]; split
    · split <;> omega
    · omega
theorem atV_low {P Q : List Ver} {v : Ver} (hP : ∀ x ∈ P, x.fr < v.fr) : ∀ i, i ≤ P.length → atV (P ++ Q) v i = i
  | 0, _ => rfl
  | i + 1, h => by
    have e : (P ++ Q)[i]? = some P[i] := by rw [List.getElem?_append_left (by omega)]; exact List.getElem?_eq_getElem (by omega)
    rw [atV, e]
    simp only
    rw [if_pos (hP _ (List.getElem_mem (by omega)))]
theorem atV_high {P Q : List Ver} {v : Ver} (hP : ∀ x ∈ P, x.fr < v.fr) (hQ : ∀ x ∈ Q, ¬ x.fr < v.fr) : ∀ i, P.length ≤ i → i ≤ (P ++ Q).length → atV (P ++ Q) v i = P.length
  | i, h1, h2 => by
    rcases Nat.lt_or_ge P.length i with h3 | h3
    · obtain ⟨j, rfl⟩ : ∃ j, i = j + 1 := ⟨i - 1, by omega⟩
      have hj : j < (P ++ Q).length := by omega
      have e : (P ++ Q)[j]? = some (P ++ Q)[j] := List.getElem?_eq_getElem hj
      have e2 : ¬ ((P ++ Q)[j]).fr < v.fr := by
        rw [List.getElem_append_right (by omega)]
        exact hQ _ (List.getElem_mem _)
      rw [atV, e]
      simp only
      rw [if_neg e2]
      exact atV_high hP hQ j (by omega) (by omega)
    · have : i = P.length := by omega
      subst this
      exact atV_low hP _ (Nat.le_refl _)
theorem srt_split {vs : List Ver} (h : srt vs) (v : Ver) : (∀ x ∈ vs.takeWhile (ltF v), x.fr < v.fr) ∧ ∀ x ∈ vs.dropWhile (ltF v), ¬ x.fr < v.fr := by
  induction vs with
  | nil => exact ⟨fun x hx => by simp at hx, fun x hx => by simp at hx⟩
  | cons y r ih =>
    obtain ⟨h1, h2⟩ := List.pairwise_cons.1 h
    obtain ⟨i1, i2⟩ := ih h2
    by_cases hy : y.fr < v.fr
    · have : ltF v y = true := by simpa [ltF] using hy
      rw [List.takeWhile_cons, List.dropWhile_cons, if_pos this, if_pos this]
      refine ⟨fun x hx => ?_, i2⟩
      rcases List.mem_cons.1 hx with rfl | hx
      · exact hy
      · exact i1 x hx
    · have : ¬ ltF v y = true := by simpa [ltF] using hy
      rw [List.takeWhile_cons, List.dropWhile_cons, if_neg this, if_neg this]
      refine ⟨fun x hx => by simp at hx, fun x hx => ?_⟩
      rcases List.mem_cons.1 hx with rfl | hx
      · exact hy
      · have := h1 x hx; omega
theorem atV_ins {vs : List Ver} (h : srt vs) (v : Ver) : vs.take (atV vs v vs.length) ++ v :: vs.drop (atV vs v vs.length) = insV vs v := by
  obtain ⟨h1, h2⟩ := srt_split h v
  have e := List.takeWhile_append_dropWhile (p := ltF v) (l := vs)
  have k := atV_high h1 h2 vs.length (by have := congrArg List.length e; rw [List.length_append] at this; omega) (by rw [e]; exact Nat.le_refl _)
  rw [e] at k
  rw [k, insV]
  congr 1
  · have := List.take_left' (l₁ := vs.takeWhile (ltF v)) (l₂ := vs.dropWhile (ltF v)) rfl
    rwa [e] at this
  · have := List.drop_left' (l₁ := vs.takeWhile (ltF v)) (l₂ := vs.dropWhile (ltF v)) rfl
    rw [e] at this; rw [this]
def zeroV : Ver := ⟨0, 0, true, true, 0, [], true, true, 0, []⟩
def inF (vs : List Ver) (day : Int) : Option Ver := (vs.filter fun x => decide (x.fr ≤ day)).getLast?
def forceV (vs : List Ver) (day : Int) : Ver × Int :=
  if (chkV vs).1 ≠ 0 then (zeroV, (chkV vs).1) else if wi day 0 400 = false then (zeroV, 1) else match inF vs day with
    | some v => (v, 0)
    | none => (zeroV, 5)
theorem inF_take {vs : List Ver} {day : Int} {i : Nat} {v : Ver} (h : vs[i]? = some v) : inF (vs.take (i + 1)) day = if v.fr ≤ day then some v else inF (vs.take i) day := by
  have hi : i < vs.length := (List.getElem?_eq_some_iff.1 h).1
  have e : vs.take (i + 1) = vs.take i ++ [v] := by
    rw [List.take_succ_eq_append_getElem hi]
    rw [List.getElem?_eq_getElem hi] at h
    cases h; rfl
  rw [e, inF, List.filter_append]
  by_cases hc : v.fr ≤ day
  · rw [if_pos hc]; simp [hc]
  · rw [if_neg hc]; simp [hc, inF]
mutual
def cpC : Cnd → Cnd
  | .mk k f o n nl _ _ ks => if ks.isEmpty then .mk k f o n nl true (if nl then 0 else 5) [] else .mk k f o n false false 5 (cpCL ks)
def cpCL : List Cnd → List Cnd
  | [] => []
  | c :: r => cpC c :: cpCL r
end
theorem cpCL_map : ∀ l : List Cnd, cpCL l = l.map cpC
  | [] => rfl
  | c :: r => by rw [cpCL, cpCL_map r, List.map_cons]
def cpL (l : Lin) : Lin := if l.exc.isEmpty then { l with fu := true, s := if l.nl then 0 else 1 } else { l with nl := false, fu := false, s := 1 }
def cpO (o : Ordr) : Ordr := { o with cond := cpC o.cond }
def cpV (v : Ver) : Ver :=
  ⟨v.id, v.fr, if v.ls.isEmpty then v.nlL else false, v.ls.isEmpty, if v.ls.isEmpty && v.nlL then 0 else 8, v.ls.map cpL, if v.os.isEmpty then v.nlO else false, v.os.isEmpty, if v.os.isEmpty && v.nlO then 0 else 7, v.os.map cpO⟩
mutual
def sayC : Cnd → Cnd
  | .mk k f o n _ _ _ ks => .mk k f o n true true 0 (sayCL ks)
def sayCL : List Cnd → List Cnd
  | [] => []
  | c :: r => sayC c :: sayCL r
end
theorem sayCL_map : ∀ l : List Cnd, sayCL l = l.map sayC
  | [] => rfl
  | c :: r => by rw [sayCL, sayCL_map r, List.map_cons]
mutual
theorem sayC_cp : ∀ c : Cnd, sayC (cpC c) = sayC c
  | .mk k f o n nl fu s ks => by
    rw [cpC]
    split
    · rename_i h
      have : ks = [] := by simpa using h
      subst this; rfl
    · rw [sayC, sayC, sayCL_cp ks]
theorem sayCL_cp : ∀ l : List Cnd, sayCL (cpCL l) = sayCL l
  | [] => rfl
  | c :: r => by rw [cpCL, sayCL, sayCL, sayC_cp c, sayCL_cp r]
end
def sayL (l : Lin) : List Int × List (List UInt8) × List Int := ([l.kind, l.fr, l.to, l.ev], [l.tower.toList, l.person.toList, l.other.toList], l.exc)
def sayO (o : Ordr) : List UInt8 × Int × Cnd := (o.name.toList, o.rank, sayC o.cond)
def sayV (v : Ver) : (Int × Int) × List (List Int × List (List UInt8) × List Int) × List (List UInt8 × Int × Cnd) := ((v.id, v.fr), v.ls.map sayL, v.os.map sayO)
theorem say_cpL (l : Lin) : sayL (cpL l) = sayL l := by
  unfold cpL; split <;> rfl
theorem say_cpO (o : Ordr) : sayO (cpO o) = sayO o := by
  simp only [sayO, cpO, sayC_cp]
theorem say_cpV (v : Ver) : sayV (cpV v) = sayV v := by
  simp only [sayV, cpV, List.map_map]
  congr 2
  · exact List.map_congr_left fun l _ => say_cpL l
  · exact List.map_congr_left fun o _ => say_cpO o
theorem force_ins {vs : List Ver} {v : Ver} {day : Int} (hs : srt vs) (hne : ∀ x ∈ vs, x.fr ≠ v.fr) :
    (v.fr ≤ day → (∀ x ∈ vs, v.fr < x.fr → day < x.fr) → inF (insV vs v) day = some v) ∧ ((day < v.fr ∨ ∃ x ∈ vs, v.fr < x.fr ∧ x.fr ≤ day) → inF (insV vs v) day = inF vs day) := by
  obtain ⟨h1, h2⟩ := srt_split hs v
  have e := List.takeWhile_append_dropWhile (p := ltF v) (l := vs)
  have hQ : ∀ x ∈ vs.dropWhile (ltF v), v.fr < x.fr := fun x hx => by
    have a := h2 x hx
    have b := hne x (by rw [← e]; exact List.mem_append.2 (.inr hx))
    omega
  have hQm : ∀ x ∈ vs, v.fr < x.fr → x ∈ vs.dropWhile (ltF v) := fun x hx hlt => by
    rw [← e] at hx
    rcases List.mem_append.1 hx with h | h
    · have := h1 x h; omega
    · exact h
  have hvs : inF vs day = ((vs.takeWhile (ltF v)).filter (fun x => decide (x.fr ≤ day)) ++ (vs.dropWhile (ltF v)).filter (fun x => decide (x.fr ≤ day))).getLast? := by
    rw [← List.filter_append, e]; rfl
  have hin : inF (insV vs v) day = ((vs.takeWhile (ltF v)).filter (fun x => decide (x.fr ≤ day)) ++ (v :: vs.dropWhile (ltF v)).filter (fun x => decide (x.fr ≤ day))).getLast? := by
    rw [insV, inF, List.filter_append]
  refine ⟨fun hv hn => ?_, fun hc => ?_⟩
  · have e1 : (vs.dropWhile (ltF v)).filter (fun x => decide (x.fr ≤ day)) = [] := by
      rw [List.filter_eq_nil_iff]
      intro x hx
      have := hn x (by rw [← e]; exact List.mem_append.2 (.inr hx)) (hQ x hx)
      simp; omega
    rw [hin, List.filter_cons, if_pos (by simpa using hv), e1]; simp
  · rw [hin, hvs]
    by_cases hv : v.fr ≤ day
    · obtain ⟨x, hx, hx1, hx2⟩ := hc.resolve_left (by omega)
      have hm : x ∈ (vs.dropWhile (ltF v)).filter (fun x => decide (x.fr ≤ day)) := List.mem_filter.2 ⟨hQm x hx hx1, by simpa using hx2⟩
      have hne2 : (vs.dropWhile (ltF v)).filter (fun x => decide (x.fr ≤ day)) ≠ [] := fun e => by rw [e] at hm; simp at hm
      rw [List.filter_cons, if_pos (by simpa using hv)]
      generalize (vs.dropWhile (ltF v)).filter (fun x => decide (x.fr ≤ day)) = Z at *
      obtain ⟨a, b, rfl⟩ : ∃ a b, Z = a ++ [b] := ⟨Z.dropLast, Z.getLast hne2, (List.dropLast_concat_getLast hne2).symm⟩
      rw [show v :: (a ++ [b]) = (v :: a) ++ [b] from rfl, ← List.append_assoc, ← List.append_assoc]
      rw [List.getLast?_concat, List.getLast?_concat]
    · rw [List.filter_cons, if_neg (by simpa using hv)]
end Go.AM
namespace Go.AM
open Go.Proofs Cw Du
set_option maxRecDepth 10000
set_option maxHeartbeats 4000000
theorem ac_midV {P : Program} {fl : Nat} {c : Code} {K : St → Prop} {Q : Exit → St → Prop} {st : St} (Mid : St → Prop) (h2 : ∀ s, Mid s → K s) (h1 : ACode P fl c (thenA (fun s => ∃ s', Wk s s' ∧ Mid s') Q) st) : ACode P fl c (thenA K Q) st :=
  ac_post h1 fun e s hq => by
    cases e with
    | normal => obtain ⟨s', k, m⟩ := hq; exact ⟨s', k, h2 s' m⟩
    | _ => exact ⟨s, ⟨rfl, rfl, fun _ => .inr rfl, fun _ _ e => e⟩, hq⟩
def idxV {α : Type} (q : α → Bool) : List α → Nat → Int
  | [], _ => -1
  | x :: r, i => if q x then i else idxV q r (i + 1)
theorem idxV_iff {α : Type} (q : α → Bool) : ∀ (l : List α) (i : Nat), 0 ≤ idxV q l i ↔ l.any q = true
  | [], _ => by simp [idxV]
  | x :: r, i => by
    have ih := idxV_iff q r (i + 1)
    cases hx : q x with
    | true => rw [idxV, hx, if_pos rfl]; simp [hx]
    | false => rw [idxV, hx, if_neg (by simp), ih]; simp [hx]
theorem idxV_in {α : Type} (q : α → Bool) (l : List α) (i : Nat) : decide (idxV q l i ≥ 0) = l.any q := by
  rw [Bool.eq_iff_iff, decide_eq_true_eq]; exact idxV_iff q l i
theorem indexV (g : FuncId) (caps : List AV) (q : Ver → Bool) (nl fu : Bool) (s : Nat) (l : List Ver) (hq : ∀ x ∈ l, APure Tryz.prog g (encV x :: caps) (bv (q x))) (hnl : l = [] ∨ nl = false ∧ s = 4) (hl : l.length ≤ 1000000) : APure Tryz.prog 99 [.fslc nl fu s (l.map encV), .func (.func g) [] caps] (iv .i64 (idxV q l 0)) := by
  intro h n
  refine ACalls.pure (ACalls.entry (by kernel_rfl) fun hb _ => calls_of Tryz.func99 rfl (by kernel_rfl) (by simp [Tryz.ntmps99]) ?_)
  obtain ⟨T, hT⟩ : ∃ T, Hide (T = idxV q l 0) := ⟨_, rfl⟩
  rw [← hT.out]
  replace hnl : Hide _ := hnl
  replace hq : Hide _ := hq
  repeat' (first | (refine ac_seq_h fun K hK => ?_) | (refine ac_region_h fun K hK => ?_; simp (disch := omega) [go_sem, *, Tryz.ntmps99]) | (apply Hide.out hK; clear hK K; try with_reducible dsimp only [thenA]) | (refine ac_block ?_))
  refine ac_loop_wk (fun s' => ∃ (i : Nat) (n' : Nat), n ≤ n' ∧ i ≤ l.length ∧ idxV q (l.drop i) i = T ∧ s' = ⟨19, [(0, .fslc nl fu s (l.map encV)), (1, .func (.func g) [] caps), (7, iv .i64 l.length), (8, iv .i64 i)], h, n'⟩)
      (fun s' => l.length - (intAt s' 8).toNat) ?_ ?_
  · exact loop_start (by simp [go_sem]) (Sub.refl _) ⟨0, _, by omega, by omega, hT.out.symm, rfl⟩
  · rintro s' ⟨i, n', hn', hi, hc, rfl⟩
    by_cases hlt : i < l.length
    · obtain ⟨x, hx⟩ : ∃ x, l[i] = x := ⟨_, rfl⟩
      have hne : l ≠ [] := fun e => by rw [e] at hlt; simp at hlt
      obtain ⟨rfl, rfl⟩ := hnl.out.resolve_left hne
      have hdr : l.drop i = x :: l.drop (i + 1) := by rw [List.drop_eq_getElem_cons hlt, hx]
      rw [hdr, idxV] at hc
      have k1 := hq.out x (hx ▸ List.getElem_mem hlt)
      simp only [encV] at k1
      have hex : encV l[i] = .agg [iv .i64 x.id, iv .i64 x.fr, .fslc x.nlL x.fuL x.sL (x.ls.map encLn), .fslc x.nlO x.fuO x.sO (x.os.map encO)] := by rw [hx]; rfl
      clear hdr hne
      replace hx : Hide _ := hx
      generalize hz : q x = z at *
      replace hz : Hide _ := trivial
      obtain ⟨x1, x2, x3, x4, x5, x6, x7, x8, x9, x10⟩ := x
      simp only at k1 hex
      generalize List.map encLn x6 = LL at *
      generalize List.map encO x10 = OO at *
      cases z with
      | true =>
        rw [if_pos rfl] at hc
        subst hc
        repeat' (first | (refine ac_seq_h fun K hK => ?_) | (refine ac_region_h fun K hK => ?_; simp (disch := omega) [go_sem, *, ilt_true, ile_true]) | (apply Hide.out hK; clear hK K; try with_reducible dsimp only [thenA]) | (apply Hide.out ht; clear ht hf Kt Kf) | (with_reducible refine APure.gcall (k1) ?_; try simp (disch := omega) [go_sem, *]) | (refine ac_block ?_) | (refine ac_skip ?_; simp only [thenA]) | (refine ac_cond_h fun Kt Kf ht hf => ?_; simp (disch := omega) [go_sem, *]; try (refine ⟨fun hc => ?_, fun hc => ?_⟩ <;> try (exfalso; omega))))
        exact zR
      | false =>
        rw [if_neg (by simp)] at hc
        replace hc : Hide _ := hc
        repeat' (first | (refine ac_seq_h fun K hK => ?_) | (refine ac_region_h fun K hK => ?_; simp (disch := omega) [go_sem, *, wrap64_id, ilt_true, ile_true]) | (apply Hide.out hK; clear hK K; try with_reducible dsimp only [thenA]) | (apply Hide.out ht; clear ht hf Kt Kf) | (apply Hide.out hf; clear ht hf Kt Kf) | (with_reducible refine APure.gcall (k1) ?_; try simp (disch := omega) [go_sem, *]) | (refine ac_block ?_) | (refine ac_skip ?_; simp only [thenA, blockA]) | (refine ac_cond_h fun Kt Kf ht hf => ?_; simp (disch := omega) [go_sem, *]; try (refine ⟨fun hc => ?_, fun hc => ?_⟩ <;> try (exfalso; omega))))
        exact round_end (by simp (disch := omega) [go_sem]) (Sub.refl _) ⟨i + 1, _, by omega, by omega, hc.out, rfl⟩ (by simp [intAt, go_sem]; omega)
    · rw [List.drop_eq_nil_of_le (by omega), idxV] at hc
      subst hc
      repeat' (first | (refine ac_seq_h fun K hK => ?_) | (refine ac_region_h fun K hK => ?_; simp (disch := omega) [go_sem, *, ilt_false]) | (apply Hide.out hK; clear hK K; try with_reducible dsimp only [thenA]) | (apply Hide.out hf; clear ht hf Kt Kf) | (clear hK K; apply Hide.out hK; clear hK K; try with_reducible dsimp only [thenA]) | (refine ac_exit ?_; simp only [thenA, blockA, if_true]) | (refine ac_cond_h fun Kt Kf ht hf => ?_; simp (disch := omega) [go_sem, *]; try (refine ⟨fun hc => ?_, fun hc => ?_⟩ <;> try (exfalso; omega))))
      exact zR
theorem containsV (g : FuncId) (caps : List AV) (q : Ver → Bool) (nl fu : Bool) (s : Nat) (l : List Ver) (hq : ∀ x ∈ l, APure Tryz.prog g (encV x :: caps) (bv (q x))) (hnl : l = [] ∨ nl = false ∧ s = 4) (hl : l.length ≤ 1000000) : APure Tryz.prog 44 [.fslc nl fu s (l.map encV), .func (.func g) [] caps] (bv (l.any q)) := by
  intro h n
  have k1 := indexV g caps q nl fu s l hq hnl hl
  rw [← idxV_in q l 0]
  refine ACalls.pure (ACalls.entry (by kernel_rfl) fun hb _ => calls_of Tryz.func44 rfl (by kernel_rfl) (by simp [Tryz.ntmps44]) ?_)
  generalize idxV q l 0 = x at *
  generalize List.map encV l = L at *
  clear hnl hq
  repeat' (first | (refine ac_seq_h fun K hK => ?_) | (refine ac_region_h fun K hK => ?_; simp (disch := omega) [go_sem, *, Tryz.ntmps44 ]) | (apply Hide.out hK; clear hK K; try with_reducible dsimp only [thenA]) | (with_reducible refine APure.gcall (k1) ?_; try simp (disch := omega) [go_sem, * ]))
  exact zR
theorem cv1_spec (v x : Ver) : APure Tryz.prog 45 [encV x, .fptr [iv .i64 v.id, iv .i64 v.fr, .fslc v.nlL v.fuL v.sL (v.ls.map encLn), .fslc v.nlO v.fuO v.sO (v.os.map encO)]] (bv (decide (x.id = v.id))) := by
  intro h n
  refine ACalls.pure (ACalls.entry (by kernel_rfl) fun hb _ => calls_of Tryz.func45 rfl (by kernel_rfl) (by simp [Tryz.ntmps45]) ?_)
  obtain ⟨x1, x2, x3, x4, x5, x6, x7, x8, x9, x10⟩ := x
  obtain ⟨v1, v2, v3, v4, v5, v6, v7, v8, v9, v10⟩ := v
  simp only [encV]
  generalize List.map encLn x6 = L1 at *
  generalize List.map encO x10 = O1 at *
  generalize List.map encLn v6 = L2 at *
  generalize List.map encO v10 = O2 at *
  rw [show decide (x1 = v1) = (x1 == v1) from by rw [Bool.eq_iff_iff]; simp]
  repeat' (first | (refine ac_seq_h fun K hK => ?_) | (refine ac_region_h fun K hK => ?_; simp (disch := omega) [go_sem, *, Tryz.ntmps45]) | (apply Hide.out hK; clear hK K; try with_reducible dsimp only [thenA]))
  exact zR
theorem add1_spec (v x : Ver) : APure Tryz.prog 47 [encV x, .fptr [iv .i64 v.id, iv .i64 v.fr, .fslc v.nlL v.fuL v.sL (v.ls.map encLn), .fslc v.nlO v.fuO v.sO (v.os.map encO)]] (bv (decide (x.id = v.id) || decide (x.fr = v.fr))) := by
  intro h n
  refine ACalls.pure (ACalls.entry (by kernel_rfl) fun hb _ => calls_of Tryz.func47 rfl (by kernel_rfl) (by simp [Tryz.ntmps47]) ?_)
  obtain ⟨x1, x2, x3, x4, x5, x6, x7, x8, x9, x10⟩ := x
  obtain ⟨v1, v2, v3, v4, v5, v6, v7, v8, v9, v10⟩ := v
  simp only [encV]
  generalize List.map encLn x6 = L1 at *
  generalize List.map encO x10 = O1 at *
  generalize List.map encLn v6 = L2 at *
  generalize List.map encO v10 = O2 at *
  by_cases e1 : x1 = v1
  · subst e1
    rw [decide_eq_true rfl, Bool.true_or]
    repeat' (first | (refine ac_seq_h fun K hK => ?_) | (refine ac_region_h fun K hK => ?_; simp (disch := omega) [go_sem, *, Tryz.ntmps47]) | (apply Hide.out hK; clear hK K; try with_reducible dsimp only [thenA]))
    exact zR
  · have b1 : (x1 == v1) = false := by simpa using e1
    by_cases e2 : x2 = v2
    · subst e2
      rw [decide_eq_true rfl, Bool.or_true]
      repeat' (first | (refine ac_seq_h fun K hK => ?_) | (refine ac_region_h fun K hK => ?_; simp (disch := omega) [go_sem, *, Tryz.ntmps47]) | (apply Hide.out hK; clear hK K; try with_reducible dsimp only [thenA]))
      exact zR
    · have b2 : (x2 == v2) = false := by simpa using e2
      rw [decide_eq_false e1, decide_eq_false e2, Bool.or_false]
      repeat' (first | (refine ac_seq_h fun K hK => ?_) | (refine ac_region_h fun K hK => ?_; simp (disch := omega) [go_sem, *, Tryz.ntmps47]) | (apply Hide.out hK; clear hK K; try with_reducible dsimp only [thenA]))
      exact zR
theorem add2_spec (x v : Ver) (k : APure Tryz.prog 51 [iv .i64 x.fr, iv .i64 v.fr] (iv .i64 (if x.fr < v.fr then -1 else if v.fr < x.fr then 1 else 0))) : APure Tryz.prog 50 [encV x, encV v] (iv .i64 (if x.fr < v.fr then -1 else if v.fr < x.fr then 1 else 0)) := by
  intro h n
  refine ACalls.pure (ACalls.entry (by kernel_rfl) fun hb _ => calls_of Tryz.func50 rfl (by kernel_rfl) (by simp [Tryz.ntmps50]) ?_)
  obtain ⟨x1, x2, x3, x4, x5, x6, x7, x8, x9, x10⟩ := x
  obtain ⟨v1, v2, v3, v4, v5, v6, v7, v8, v9, v10⟩ := v
  simp only [encV] at k ⊢
  generalize List.map encLn x6 = L1 at *
  generalize List.map encO x10 = O1 at *
  generalize List.map encLn v6 = L2 at *
  generalize List.map encO v10 = O2 at *
  generalize (if x2 < v2 then (-1 : Int) else if v2 < x2 then 1 else 0) = r at *
  repeat' (first | (refine ac_seq_h fun K hK => ?_) | (refine ac_region_h fun K hK => ?_; simp (disch := omega) [go_sem, *, upd_ne, Tryz.ntmps50 ]) | (apply Hide.out hK; clear hK K; try with_reducible dsimp only [thenA]) | (with_reducible refine APure.gcall (k) ?_; try simp (disch := omega) [go_sem, * ]))
  exact zR
end Go.AM
