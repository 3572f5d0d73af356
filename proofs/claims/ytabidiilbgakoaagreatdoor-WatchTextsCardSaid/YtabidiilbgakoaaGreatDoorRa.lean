/- Texts that are printed, as tokens; tokens, read, plainly. Conditions: as each theorem says. -/
import Derived.Test.YtabidiilbgakoaaGreatDoorQa
namespace Go.AM
open Go.Proofs Cw Du
set_option maxRecDepth 10000
abbrev TT := Int × ByteArray × Nat
def tt (t : Tk) : TT := (t.kind, t.text, t.val)
def brk (l : List UInt8) : Prop := ∀ c r, l = c :: r → c.toNat = 32 ∨ c.toNat = 59 ∨ c.toNat = 44 ∨ c.toNat = 41 ∨ c.toNat = 10
def Lx (b : Bool) (a : List UInt8) (L : List TT) : Prop :=
  ∀ (s : ByteArray) (pre rest : List UInt8) (acc : List Tk), s.data.toList = pre ++ (a ++ rest) → (b = true → brk rest) →
    ∃ acc', Jn s pre.length acc = Jn s (pre.length + a.length) acc' ∧ acc'.map tt = acc.map tt ++ L
theorem Lx.nil : Lx false [] [] := fun s pre rest acc _ _ => ⟨acc, rfl, by simp⟩
theorem Lx.app {b : Bool} {a a2 : List UInt8} {L L2 : List TT} (h : Lx false a L) (h2 : Lx b a2 L2) : Lx b (a ++ a2) (L ++ L2) := by
  intro s pre rest acc hs hb
  obtain ⟨acc1, e1, e2⟩ := h s pre (a2 ++ rest) acc (by rw [hs, List.append_assoc]) (by simp)
  obtain ⟨acc2, e3, e4⟩ := h2 s (pre ++ a) rest acc1 (by rw [hs]; simp) hb
  refine ⟨acc2, ?_, by rw [e4, e2, List.append_assoc]⟩
  rw [e1, ← List.length_append, e3, List.length_append, List.length_append, Nat.add_assoc]
theorem Lx.br {b : Bool} {a a2 : List UInt8} {L L2 : List TT} (h : Lx true a L) (h2 : Lx b a2 L2) (hb : brk a2) (hne : a2 ≠ []) : Lx b (a ++ a2) (L ++ L2) := by
  intro s pre rest acc hs hb2
  obtain ⟨acc1, e1, e2⟩ := h s pre (a2 ++ rest) acc (by rw [hs, List.append_assoc]) (fun _ c r e => by
    cases a2 with
    | nil => exact absurd rfl hne
    | cons c2 r2 =>
      simp only [List.cons_append, List.cons.injEq] at e
      obtain ⟨rfl, rfl⟩ := e
      exact hb c2 r2 rfl)
  obtain ⟨acc2, e3, e4⟩ := h2 s (pre ++ a) rest acc1 (by rw [hs]; simp) hb2
  refine ⟨acc2, ?_, by rw [e4, e2, List.append_assoc]⟩
  rw [e1, ← List.length_append, e3, List.length_append, List.length_append, Nat.add_assoc]
theorem Lx.weak {a : List UInt8} {L : List TT} (h : Lx false a L) : Lx true a L := fun s pre rest acc hs _ => h s pre rest acc hs (by simp)
theorem at_pre {s : ByteArray} {pre rest : List UInt8} {c : UInt8} (hs : s.data.toList = pre ++ c :: rest) : s.data.toList[pre.length]? = some c := by
  rw [hs, List.getElem?_append_right (Nat.le_refl _), Nat.sub_self]; rfl
theorem at_next {s : ByteArray} {pre rest : List UInt8} {c : UInt8} (hs : s.data.toList = pre ++ c :: rest) : s.data.toList[pre.length + 1]? = rest[0]? := by
  rw [hs, List.getElem?_append_right (by omega), show pre.length + 1 - pre.length = 1 by omega]; rfl
theorem qn {s : ByteArray} {pre w rest : List UInt8} (hs : s.data.toList = pre ++ (w ++ rest)) : s.extract pre.length (pre.length + w.length) = ⟨w.toArray⟩ := by
  apply ByteArray.ext
  apply Array.ext'
  rw [ByteArray.data_extract, Array.toList_extract, List.extract_eq_take_drop, hs, List.drop_left, show pre.length + w.length - pre.length = w.length by omega, List.take_left]
theorem run_pre {p : Nat → Bool} {s : ByteArray} {pre w rest : List UInt8} (hs : s.data.toList = pre ++ (w ++ rest)) (hw : ∀ c ∈ w, p c.toNat = true) (hr : ∀ c r, rest = c :: r → p c.toNat = false) : JU p s pre.length = pre.length + w.length := by
  unfold JU
  rw [hs, List.drop_left, List.takeWhile_append_of_pos (by intro a ha; exact hw a ha)]
  have : rest.takeWhile (fun u => p u.toNat) = [] := by
    cases rest with
    | nil => rfl
    | cons c r => simp [List.takeWhile, hr c r rfl]
  rw [this, List.append_nil]
theorem Lx.skip {c : UInt8} (h : c.toNat = 32 ∨ c.toNat = 10) : Lx false [c] [] := by
  intro s pre rest acc hs _
  refine ⟨acc, ?_, by simp⟩
  rw [JI (at_pre hs), Ze, if_pos (by omega)]
  rfl
theorem brk_pl {rest : List UInt8} (hb : brk rest) : ∀ c r, rest = c :: r → js c.toNat = false ∧ jk c.toNat = false ∧ uppr c.toNat = false ∧ c.toNat ≠ 61 := by
  intro c r e
  have := hb c r e
  refine ⟨?_, ?_, ?_, by omega⟩
  · simp only [js, JM, jk]; simp; omega
  · simp only [jk]; simp; omega
  · simp only [uppr]; simp; omega
structure WdOk (w : List UInt8) : Prop where
  hd : ∃ c r, w = c :: r ∧ JM c.toNat = true
  all : ∀ c ∈ w, js c.toNat = true
  len : w.length ≤ 24
theorem low_no {u : Nat} (h : JM u = true) : ¬ (u = 32 ∨ u = 9 ∨ u = 10) ∧ u ≠ 35 := by
  simp only [JM, Bool.and_eq_true, decide_eq_true_eq] at h; omega
theorem Lx.word {w : List UInt8} (hw : WdOk w) : Lx true w [(if inS ⟨w.toArray⟩ resl then 3 else 1, ⟨w.toArray⟩, 0)] := by
  intro s pre rest acc hs hb
  obtain ⟨⟨c, r, rfl, hc⟩, h2, h3⟩ := hw
  have hs' : s.data.toList = pre ++ c :: (r ++ rest) := by rw [hs]; rfl
  have hrun := run_pre hs h2 (fun c r e => (brk_pl (hb rfl) c r e).1)
  have hn := low_no hc
  have hS : Ze s pre.length c.toNat = .tok (if inS ⟨(c :: r).toArray⟩ resl then 3 else 1) 0 (pre.length + (c :: r).length) := by
    rw [Ze, if_neg hn.1, if_neg hn.2, if_pos hc, hrun, qn hs, if_neg (by omega)]
  rw [JI (at_pre hs'), hS]
  dsimp only
  rw [qn hs]
  exact ⟨_, rfl, by simp only [List.map_append, List.map_cons, List.map_nil, tt]⟩
theorem dig_no {u : Nat} (h : jk u = true) : ¬ (u = 32 ∨ u = 9 ∨ u = 10) ∧ u ≠ 35 ∧ JM u = false := by
  simp only [jk, Bool.and_eq_true, decide_eq_true_eq] at h
  refine ⟨by omega, by omega, ?_⟩
  simp only [JM]; simp; omega
structure NmOk (w : List UInt8) (n : Nat) : Prop where
  hd : ∃ c r, w = c :: r ∧ (c.toNat = 48 → r = [])
  all : dgts w
  val : valN w = n
  le : n ≤ 10000
theorem Lx.num {w : List UInt8} {n : Nat} (hw : NmOk w n) : Lx true w [(2, ⟨w.toArray⟩, n)] := by
  intro s pre rest acc hs hb
  obtain ⟨⟨c, r, rfl, hc⟩, h2, h3, h4⟩ := hw
  have hs' : s.data.toList = pre ++ c :: (r ++ rest) := by rw [hs]; rfl
  have hd : ∀ x ∈ c :: r, jk x.toNat = true := fun x hx => by
    have := h2 x hx
    simp only [jk]; simp; omega
  have hcd := hd c (by simp)
  have hn := dig_no hcd
  have hE : qi s pre.length c.toNat = pre.length + (c :: r).length := by
    unfold qi
    split
    · rename_i h48
      rw [hc h48]; rfl
    · exact run_pre hs hd (fun c r e => (brk_pl (hb rfl) c r e).2.1)
  have hV : Go.AM.numV s pre.length c.toNat = n := by
    unfold Go.AM.numV
    rw [hE, qn hs]; exact h3
  have hN : nxt s (pre.length + (c :: r).length) (fun w => js w || uppr w) = false := by
    unfold nxt
    rw [hs, List.getElem?_append_right (by omega), show pre.length + (c :: r).length - pre.length = (c :: r).length by omega, List.getElem?_append_right (Nat.le_refl _), Nat.sub_self]
    cases rest with
    | nil => rfl
    | cons x y =>
      obtain ⟨a1, _, a3, _⟩ := brk_pl (hb rfl) x y rfl
      simp [a1, a3]
  have hS : Ze s pre.length c.toNat = .tok 2 n (pre.length + (c :: r).length) := by
    rw [Ze, if_neg hn.1, if_neg hn.2.1, hn.2.2, if_neg (by simp), if_pos hcd, hV, hE, if_neg (by omega), hN, if_neg (by simp)]
  rw [JI (at_pre hs'), hS]
  dsimp only
  rw [qn hs]
  exact ⟨_, rfl, by simp only [List.map_append, List.map_cons, List.map_nil, tt]⟩
theorem mark_no {u : Nat} (h : u = 59 ∨ u = 44 ∨ u = 40 ∨ u = 41 ∨ u = 61 ∨ u = 60 ∨ u = 62 ∨ u = 33) : ¬ (u = 32 ∨ u = 9 ∨ u = 10) ∧ u ≠ 35 ∧ JM u = false ∧ jk u = false := by
  refine ⟨by omega, by omega, ?_, ?_⟩
  · simp only [JM]; simp; omega
  · simp only [jk]; simp; omega
theorem Lx.mark {c : UInt8} (h : c.toNat = 59 ∨ c.toNat = 44 ∨ c.toNat = 40 ∨ c.toNat = 41 ∨ c.toNat = 61) : Lx false [c] [(3, ⟨#[c]⟩, 0)] := by
  intro s pre rest acc hs _
  have hn := mark_no (u := c.toNat) (by omega)
  have hm : mkL s pre.length c.toNat = 1 := by rw [mkL, if_pos (by omega)]
  have he : s.extract pre.length (pre.length + 1) = ⟨#[c]⟩ := qn (w := [c]) hs
  have hS : Ze s pre.length c.toNat = .tok 3 0 (pre.length + 1) := by
    rw [Ze, if_neg hn.1, if_neg hn.2.1, hn.2.2.1, if_neg (by simp), hn.2.2.2, if_neg (by simp), hm, if_neg (by simp)]
  rw [JI (at_pre hs), hS]
  dsimp only
  rw [he]
  exact ⟨_, rfl, by simp only [List.map_append, List.map_cons, List.map_nil, tt]⟩
theorem Lx.one {c : UInt8} (h : c.toNat = 60 ∨ c.toNat = 62) : Lx true [c] [(3, ⟨#[c]⟩, 0)] := by
  intro s pre rest acc hs hb
  have hn := mark_no (u := c.toNat) (by omega)
  have hm : mkL s pre.length c.toNat = 1 := by
    rw [mkL, if_neg (by omega), if_pos (by omega), at_next hs, if_neg]
    cases rest with
    | nil => simp
    | cons x y =>
      have := (brk_pl (hb rfl) x y rfl).2.2.2
      intro e
      have e' : x = 61 := Option.some.inj e
      exact this (by rw [e']; rfl)
  have he : s.extract pre.length (pre.length + 1) = ⟨#[c]⟩ := qn (w := [c]) hs
  have hS : Ze s pre.length c.toNat = .tok 3 0 (pre.length + 1) := by
    rw [Ze, if_neg hn.1, if_neg hn.2.1, hn.2.2.1, if_neg (by simp), hn.2.2.2, if_neg (by simp), hm, if_neg (by simp)]
  rw [JI (at_pre hs), hS]
  dsimp only
  rw [he]
  exact ⟨_, rfl, by simp only [List.map_append, List.map_cons, List.map_nil, tt]⟩
theorem Lx.two {c : UInt8} (h : c.toNat = 60 ∨ c.toNat = 62 ∨ c.toNat = 33) : Lx false [c, 61] [(3, ⟨#[c, 61]⟩, 0)] := by
  intro s pre rest acc hs hb
  have hs' : s.data.toList = pre ++ c :: (61 :: rest) := hs
  have hn := mark_no (u := c.toNat) (by omega)
  have h61 : s.data.toList[pre.length + 1]? = some 61 := by rw [at_next hs']; rfl
  have hm : mkL s pre.length c.toNat = 2 := by
    rw [mkL, if_neg (by omega)]
    by_cases h2 : c.toNat = 60 ∨ c.toNat = 62
    · rw [if_pos h2, if_pos h61]
    · rw [if_neg h2, if_pos ⟨by omega, h61⟩]
  have he : s.extract pre.length (pre.length + 2) = ⟨#[c, 61]⟩ := qn (w := [c, 61]) hs
  have hS : Ze s pre.length c.toNat = .tok 3 0 (pre.length + 2) := by
    rw [Ze, if_neg hn.1, if_neg hn.2.1, hn.2.2.1, if_neg (by simp), hn.2.2.2, if_neg (by simp), hm, if_neg (by simp)]
  rw [JI (at_pre hs'), hS]
  dsimp only
  rw [he]
  exact ⟨_, rfl, by simp only [List.map_append, List.map_cons, List.map_nil, tt]⟩
theorem Lx.whole {s : ByteArray} {L : List TT} (h : Lx true s.data.toList L) : ∃ T, Jn s 0 [] = .ok T ∧ T.map tt = L := by
  obtain ⟨acc, e1, e2⟩ := h s [] [] [] (by simp) (fun _ c r e => by cases e)
  refine ⟨acc, ?_, by simpa using e2⟩
  rw [List.length_nil] at e1
  rw [e1, Nat.zero_add, ZT, lexA_end]
theorem dec_ok {n : Int} (h0 : 0 ≤ n) (h1 : n ≤ 10000) : NmOk (dec n).data.toList n.toNat := by
  obtain ⟨u, rfl⟩ : ∃ u : Nat, n = u := ⟨n.toNat, by omega⟩
  have hd : (dec (u : Int)).data.toList = Go.Lib.decDigits u := by unfold dec; rw [Go.Lib.itoa_nonneg]
  rw [hd, Int.toNat_natCast]
  have key : ∀ (k u : Nat), u < 10 ^ (k + 1) → (∃ c r, Go.Lib.decDigits u = c :: r ∧ (c.toNat = 48 → r = [] ∧ u = 0)) ∧ dgts (Go.Lib.decDigits u) ∧ valN (Go.Lib.decDigits u) = u := by
    intro k
    induction k with
    | zero =>
      intro u hu
      have hu : u < 10 := by simpa using hu
      rw [Go.Lib.decDigits_one hu]
      have hc : (UInt8.ofNat (48 + u)).toNat = 48 + u := by rw [UInt8.toNat_ofNat']; omega
      refine ⟨⟨_, _, rfl, fun h => ⟨rfl, by omega⟩⟩, fun c h => ?_, ?_⟩
      · rw [List.mem_singleton] at h; subst h; omega
      · simp [valN]; omega
    | succ k ih =>
      intro u hu
      by_cases h10 : u < 10
      · exact ih u (by have : 10 ≤ 10 ^ (k + 1) := by rw [Nat.pow_succ]; have := Nat.pow_pos (n := k) (by decide : 0 < 10); omega
                       omega)
      · have hq : u / 10 < 10 ^ (k + 1) := by rw [Nat.pow_succ] at hu; omega
        obtain ⟨⟨c, r, e1, e2⟩, e3, e4⟩ := ih (u / 10) hq
        rw [Go.Lib.decDigits, dif_neg h10]
        have hc : (UInt8.ofNat (48 + u % 10)).toNat = 48 + u % 10 := by rw [UInt8.toNat_ofNat']; omega
        refine ⟨⟨c, r ++ [UInt8.ofNat (48 + u % 10)], by rw [e1]; rfl, fun h => by have := (e2 h).2; omega⟩, fun x h => ?_, ?_⟩
        · rcases List.mem_append.1 h with h | h
          · exact e3 x h
          · rw [List.mem_singleton] at h; subst h; omega
        · rw [valN_snoc, e4, hc]; omega
  obtain ⟨⟨c, r, e1, e2⟩, e3, e4⟩ := key 20 u (by omega)
  exact ⟨⟨c, r, e1, fun h => (e2 h).1⟩, e3, e4, by omega⟩
theorem name_wd {s : ByteArray} (h : Zn s = true) : WdOk s.data.toList ∧ inS s resl = false := by
  unfold Zn at h
  simp only [Bool.and_eq_true, decide_eq_true_eq, Bool.not_eq_true'] at h
  obtain ⟨⟨⟨⟨h1, h2⟩, h3⟩, h4⟩, h5⟩ := h
  refine ⟨⟨?_, ?_, by rw [ZT]; exact h2⟩, h4⟩
  · cases hs : s.data.toList with
    | nil => rw [hs] at h3; cases h3
    | cons c r => rw [hs] at h3; exact ⟨c, r, rfl, h3⟩
  · intro c hc
    unfold runE at h5
    have hl : (s.data.toList.takeWhile fun u => js u.toNat).length = s.data.toList.length := by rw [h5, ZT]
    have hp := (List.takeWhile_prefix (l := s.data.toList) (fun u => js u.toNat)).eq_of_length hl
    rw [← hp] at hc
    exact List.all_eq_true.1 (List.all_takeWhile (p := fun u : UInt8 => js u.toNat) (l := s.data.toList)) c hc
theorem Lx.name {s : ByteArray} (h : Zn s = true) : Lx true s.data.toList [(1, s, 0)] := by
  obtain ⟨h1, h2⟩ := name_wd h
  have := Lx.word h1
  have e : (⟨s.data.toList.toArray⟩ : ByteArray) = s := by apply ByteArray.ext; simp
  rw [e, h2] at this
  exact this
end Go.AM
namespace Go.AM
open Cw Du
theorem jE {s : ByteArray} (h : Zn s = true) : 1 ≤ s.size ∧ s.size ≤ 24 := by
  unfold Zn at h
  simp only [Bool.and_eq_true, decide_eq_true_eq] at h
  exact ⟨h.1.1.1.1, h.1.1.1.2⟩
theorem jg {s : ByteArray} (h : empB s = true) : s = ⟨#[]⟩ := by
  unfold empB at h
  exact toList_inj (by rw [List.isEmpty_iff.1 h, ByteArray.toList_eq])
theorem ascG_mem : ∀ (l : List Int) (p : Int), ascG p l = true → ∀ d ∈ l, 0 ≤ d ∧ d ≤ 400
  | [], _, _, d, hd => by cases hd
  | x :: r, p, h, d, hd => by
    simp only [ascG, wi, Bool.and_eq_true, decide_eq_true_eq] at h
    rcases List.mem_cons.1 hd with rfl | hd
    · exact h.1.1
    · exact ascG_mem r x h.2 d hd
theorem daysOk_num {l : Lin} (h : Jy l = true) : (0 ≤ l.fr ∧ l.fr ≤ 1000) ∧ (0 ≤ l.to ∧ l.to ≤ 1000) ∧ (0 ≤ l.ev ∧ l.ev ≤ 1000) ∧ l.exc.length ≤ 20 ∧ ∀ d ∈ l.exc, 0 ≤ d ∧ d ≤ 1000 := by
  simp only [Jy, Ji, wi, Bool.and_eq_true, decide_eq_true_eq] at h
  obtain ⟨⟨⟨⟨⟨a1, a2⟩, a3⟩, a4, a5⟩, a6⟩, a7⟩ := h
  refine ⟨⟨a1, by omega⟩, ⟨by omega, by omega⟩, ⟨by omega, by omega⟩, by omega, fun d hd => ?_⟩
  have := ascG_mem _ _ a7 d hd
  omega
theorem Qo {l : Lin} (h : ZQ l = true) : PrOk l ∧ l.tower.size ≤ 24 ∧ l.person.size ≤ 24 ∧ l.other.size ≤ 24 ∧ l.exc.length ≤ 20 := by
  have e0 : (⟨#[]⟩ : ByteArray).size = 0 := rfl
  unfold ZQ at h
  have key : ∀ (t p o d : Bool), t = true → p = true → o = true → d = true → (t && p && o && d) = true := by simp
  have all : (l.kind = 1 ∨ l.kind = 2 ∨ l.kind = 3 ∨ l.kind = 4) ∧ l.tower.size ≤ 24 ∧ l.person.size ≤ 24 ∧ l.other.size ≤ 24 ∧ Jy l = true := by
    by_cases h1 : l.kind = 1
    · rw [if_pos h1] at h
      simp only [Bool.and_eq_true] at h
      obtain ⟨⟨⟨a, b⟩, c⟩, d⟩ := h
      exact ⟨.inl h1, (jE a).2, (jE b).2, by rw [jg c, e0]; omega, d⟩
    · rw [if_neg h1] at h
      by_cases h2 : l.kind = 2
      · rw [if_pos h2] at h
        simp only [Bool.and_eq_true] at h
        obtain ⟨⟨⟨a, b⟩, c⟩, d⟩ := h
        exact ⟨.inr (.inl h2), by rw [jg a, e0]; omega, (jE b).2, by rw [jg c, e0]; omega, d⟩
      · rw [if_neg h2] at h
        by_cases h3 : l.kind = 3
        · rw [if_pos h3] at h
          simp only [Bool.and_eq_true] at h
          obtain ⟨⟨⟨a, b⟩, c⟩, d⟩ := h
          exact ⟨.inr (.inr (.inl h3)), (jE a).2, by rw [jg b, e0]; omega, by rw [jg c, e0]; omega, d⟩
        · rw [if_neg h3] at h
          by_cases h4 : l.kind = 4
          · rw [if_pos h4] at h
            simp only [Bool.and_eq_true] at h
            obtain ⟨⟨⟨⟨a, b⟩, c⟩, _⟩, d⟩ := h
            exact ⟨.inr (.inr (.inr h4)), by rw [jg a, e0]; omega, (jE b).2, (jE c).2, d⟩
          · rw [if_neg h4] at h; cases h
  obtain ⟨hk, t1, t2, t3, hd⟩ := all
  obtain ⟨d1, d2, d3, d4, d5⟩ := daysOk_num hd
  exact ⟨⟨hk, by omega, by omega, by omega, d1, d2, d3, by omega, d5⟩, t1, t2, t3, d4⟩
theorem linT_size {l : Lin} (h : ZQ l = true) : 0 < (qQ l).size ∧ (qQ l).size ≤ 2000 := by
  obtain ⟨⟨_, _, _, _, ⟨f0, f1⟩, ⟨o0, o1⟩, ⟨v0, v1⟩, _, hx⟩, t1, t2, t3, hl⟩ := Qo h
  have a1 := Zd f0 (by omega)
  have a2 := Zd o0 (by omega)
  have a3 := Zd v0 (by omega)
  have a4 := exT_size hx l.exc.length
  have e1 : (⟨#[119, 97, 116, 99, 104, 32]⟩ : ByteArray).size = 6 := rfl
  have e2 : (⟨#[32, 98, 121, 32]⟩ : ByteArray).size = 4 := rfl
  have e3 : (⟨#[114, 101, 115, 116, 32]⟩ : ByteArray).size = 5 := rfl
  have e4 : (⟨#[99, 97, 110, 99, 101, 108, 32]⟩ : ByteArray).size = 7 := rfl
  have e5 : (⟨#[115, 119, 97, 112, 32]⟩ : ByteArray).size = 5 := rfl
  have e6 : (⟨#[32, 111, 110, 32]⟩ : ByteArray).size = 4 := rfl
  have e7 : (⟨#[32, 102, 114, 111, 109, 32]⟩ : ByteArray).size = 6 := rfl
  have e8 : (⟨#[32, 116, 111, 32]⟩ : ByteArray).size = 4 := rfl
  have e9 : (⟨#[32, 101, 118, 101, 114, 121, 32]⟩ : ByteArray).size = 7 := rfl
  have e10 : spT.size = 1 := rfl
  have e11 : (⟨#[]⟩ : ByteArray).size = 0 := rfl
  have e12 : endT.size = 2 := rfl
  have h1 : (hdT l).size ≤ 100 := by unfold hdT; (repeat' split) <;> simp only [ByteArray.size_append] <;> omega
  have h2 : (frT l).size ≤ 100 := by unfold frT; split <;> simp only [ByteArray.size_append] <;> omega
  have h3 : (Js l).size ≤ 100 := by unfold Js; split <;> (try simp only [ByteArray.size_append]) <;> omega
  simp only [qQ, dayT, ByteArray.size_append]
  omega
def rkT (o : Ordr) : ByteArray := if o.rank = 0 then ⟨#[]⟩ else (⟨#[32, 114, 97, 110, 107, 32]⟩ : ByteArray) ++ dec o.rank
def qk (o : Ordr) : ByteArray := (⟨#[111, 114, 100, 101, 114, 32]⟩ : ByteArray) ++ o.name ++ rkT o ++ (⟨#[32, 105, 102, 32]⟩ ++ shC o.cond ++ ⟨#[59, 10]⟩)
theorem QT {o : Ordr} (h : Zz o = true) : o.name.size ≤ 24 ∧ 0 ≤ o.rank ∧ o.rank ≤ 100 ∧ Cw.ok o.cond = true ∧ tot o.cond ≤ 60 := by
  simp only [Zz, Cw.formed, wi, Bool.and_eq_true, decide_eq_true_eq] at h
  obtain ⟨⟨a, b, c⟩, ⟨d, e⟩, _⟩ := h
  exact ⟨(jE a).2, b, c, d, e⟩
theorem ordT_size {o : Ordr} (h : Zz o = true) : (qk o).size ≤ 3000 := by
  obtain ⟨h1, h2, h3, h4, h5⟩ := QT h
  have a1 := Zd h2 (by omega)
  have a2 := qO _ h4
  have e1 : (⟨#[111, 114, 100, 101, 114, 32]⟩ : ByteArray).size = 6 := rfl
  have e2 : (⟨#[32, 114, 97, 110, 107, 32]⟩ : ByteArray).size = 6 := rfl
  have e3 : (⟨#[32, 105, 102, 32]⟩ : ByteArray).size = 4 := rfl
  have e4 : (⟨#[59, 10]⟩ : ByteArray).size = 2 := rfl
  have e5 : (⟨#[]⟩ : ByteArray).size = 0 := rfl
  have h3 : (rkT o).size ≤ 100 := by unfold rkT; split <;> (try simp only [ByteArray.size_append]) <;> omega
  simp only [qk, ByteArray.size_append]
  omega
def JK {α : Type} (f : α → ByteArray) (B : ByteArray) (l : List α) : Nat → ByteArray
  | 0 => B
  | i + 1 => match l[i]? with
    | some x => JK f B l i ++ f x
    | none => JK f B l i
theorem catT_step {α : Type} (f : α → ByteArray) (B : ByteArray) (l : List α) {i : Nat} {x : α} (h : l[i]? = some x) : JK f B l i ++ f x = JK f B l (i + 1) := by
  rw [JK, h]
theorem catT_size {α : Type} (f : α → ByteArray) (B : ByteArray) (l : List α) (k : Nat) (h : ∀ x ∈ l, (f x).size ≤ k) : ∀ i, (JK f B l i).size ≤ B.size + k * i
  | 0 => by simp [JK]
  | i + 1 => by
    have ih := catT_size f B l k h i
    rw [JK, Nat.mul_succ]
    split
    · rename_i x hx
      have := h x (List.mem_of_getElem? hx)
      simp only [ByteArray.size_append]; omega
    · omega
theorem prAll {ls : List Lin} {l : List Ordr} (h : ls.all ZQ = true) (h2 : l.all Zz = true) (h60 : ls.length ≤ 60) (h30 : l.length ≤ 30) : (∀ i, i ≤ ls.length → (JK qQ ⟨#[]⟩ ls i).size ≤ 120000) ∧ ∀ i, i ≤ l.length → (JK qk (JK qQ ⟨#[]⟩ ls ls.length) l i).size ≤ 220000 := by
  have e5 : (⟨#[]⟩ : ByteArray).size = 0 := rfl
  have a1 := catT_size qQ ⟨#[]⟩ ls 2000 fun x hx => (linT_size (List.all_eq_true.1 h x hx)).2
  have a2 := catT_size qk (JK qQ ⟨#[]⟩ ls ls.length) l 3000 fun x hx => ordT_size (List.all_eq_true.1 h2 x hx)
  refine ⟨fun i hi => ?_, fun i hi => ?_⟩
  · have := a1 i; omega
  · have := a2 i; have := a1 ls.length; omega
def txT (ls : List Lin) (l : List Ordr) : ByteArray := JK qk (JK qQ ⟨#[]⟩ ls ls.length) l l.length
end Go.AM
namespace Go.AM
open Go.Proofs Cw Du
set_option maxRecDepth 10000
def Sees (T : List Tk) (p : Nat) (L : List TT) : Prop := ∃ rest, (T.drop p).map tt = L ++ rest
abbrev mT (w : ByteArray) : TT := (3, w, 0)
abbrev nT (n : Int) : TT := (2, dec n, n.toNat)
abbrev nmT (w : ByteArray) : TT := (1, w, 0)
theorem Sees.head {T : List Tk} {p : Nat} {x : TT} {L : List TT} (h : Sees T p (x :: L)) : ∃ t, T[p]? = some t ∧ tt t = x := by
  obtain ⟨rest, h⟩ := h
  have h0 : ((T.drop p).map tt)[0]? = some x := by rw [h]; rfl
  rw [List.getElem?_map, List.getElem?_drop, Nat.add_zero] at h0
  cases ht : T[p]? with
  | none => rw [ht] at h0; cases h0
  | some t => rw [ht] at h0; exact ⟨t, rfl, Option.some.inj h0⟩
theorem Sees.tail {T : List Tk} {p : Nat} {x : TT} {L : List TT} (h : Sees T p (x :: L)) : Sees T (p + 1) L := by
  obtain ⟨rest, h⟩ := h
  refine ⟨rest, ?_⟩
  have := congrArg List.tail h
  rw [← List.map_tail, List.tail_drop] at this
  exact this
theorem Sees.left {T : List Tk} {p : Nat} {L M : List TT} (h : Sees T p (L ++ M)) : Sees T p L := by
  obtain ⟨rest, h⟩ := h
  exact ⟨M ++ rest, by rw [h, List.append_assoc]⟩
theorem Sees.right {T : List Tk} : ∀ {p : Nat} {L M : List TT}, Sees T p (L ++ M) → Sees T (p + L.length) M
  | p, [], M, h => h
  | p, x :: L, M, h => by
    have := Sees.right (L := L) (Sees.tail h)
    rw [List.length_cons, show p + (L.length + 1) = p + 1 + L.length by omega]; exact this
theorem Sees.le {T : List Tk} {p : Nat} {x : TT} {L : List TT} (h : Sees T p (x :: L)) : p + (x :: L).length ≤ T.length := by
  obtain ⟨rest, h⟩ := h
  have := congrArg List.length h
  rw [List.length_map, List.length_drop, List.length_append, List.length_cons] at this
  simp only [List.length_cons]; omega
theorem Sees.len {T : List Tk} {p : Nat} {L : List TT} (h : Sees T p L) (hne : L ≠ []) : p + L.length ≤ T.length := by
  cases L with
  | nil => exact absurd rfl hne
  | cons x r => exact h.le
theorem zf {T : List Tk} {p : Nat} {w w' : ByteArray} {L : List TT} (h : Sees T p (mT w :: L)) : isM T p w' = (w.data.toList == w'.data.toList) := by
  obtain ⟨t, h1, h2⟩ := h.head
  simp only [tt, Prod.mk.injEq] at h2
  unfold isM Zm
  rw [h1]
  simp only [h2.1, if_true, h2.2.1]
  rw [ByteArray.toList_eq, ByteArray.toList_eq]
theorem textM_mark {T : List Tk} {p : Nat} {w : ByteArray} {L : List TT} (h : Sees T p (mT w :: L)) : Zm T p = w := by
  obtain ⟨t, h1, h2⟩ := h.head
  simp only [tt, Prod.mk.injEq] at h2
  unfold Zm
  rw [h1]
  simp only [h2.1, if_true, h2.2.1]
theorem JB {T : List Tk} {p : Nat} {w : ByteArray} {L : List TT} (h : Sees T p (nmT w :: L)) : Zu T p = .ok (w, p + 1) := by
  obtain ⟨t, h1, h2⟩ := h.head
  simp only [tt, Prod.mk.injEq] at h2
  unfold Zu
  rw [h1]
  simp only [h2.1, if_true, h2.2.1]
theorem JR {T : List Tk} {p : Nat} {n : Int} {L : List TT} (h : Sees T p (nT n :: L)) (hn : 0 ≤ n) : jc T p = .ok (n, p + 1) := by
  obtain ⟨t, h1, h2⟩ := h.head
  simp only [tt, Prod.mk.injEq] at h2
  unfold jc
  rw [h1]
  simp only [h2.1, if_true, h2.2.2]
  rw [Int.toNat_of_nonneg hn]
def frTk (l : Lin) : List TT := if l.fr = l.to ∧ l.ev = 1 then [mT wOn, nT l.fr] else [mT JN, nT l.fr, mT wTo, nT l.to]
def Z9 (l : Lin) : List TT := if l.ev = 1 then [] else [mT JE, nT l.ev]
def jl (r : List Int) : List TT := r.flatMap fun d => [mT JD, nT d]
def exTk : List Int → List TT
  | [] => []
  | d :: r => mT Z1 :: nT d :: jl r
def dayTk (l : Lin) : List TT := frTk l ++ (Z9 l ++ (exTk l.exc ++ [mT Zv]))
theorem exM_see {T : List Tk} : ∀ (r : List Int) (f p : Nat) (a : List Int) (L : List TT), (∀ d ∈ r, 0 ≤ d) → r.length ≤ f → Sees T p (jl r ++ mT Zv :: L) → exM T f p a = .ok (a ++ r, p + (jl r).length)
  | [], f, p, a, L, hd, hf, h => by
    have e : isM T p JD = false := by rw [zf (L := L) h]; rfl
    cases f with
    | zero => simp [exM, jl]
    | succ f => simp [exM, jl, e]
  | d :: r, f, p, a, L, hd, hf, h => by
    obtain ⟨f, rfl⟩ : ∃ g, f = g + 1 := ⟨f - 1, by simp only [List.length_cons] at hf; omega⟩
    have e0 : jl (d :: r) = mT JD :: nT d :: jl r := rfl
    rw [e0] at h ⊢
    have e : isM T p JD = true := by rw [zf h]; rfl
    have e1 := JR h.tail (hd d (by simp))
    rw [exM, e, if_pos rfl, e1]
    simp only
    have h2 := h.tail.tail
    rw [exM_see r f (p + 1 + 1) (a ++ [d]) L (fun x hx => hd x (by simp [hx])) (by simp only [List.length_cons] at hf; omega) h2]
    simp only [List.append_assoc, List.singleton_append, List.length_cons]
    congr 2
    omega
theorem moreTk_len (r : List Int) : (jl r).length = 2 * r.length := by
  induction r with
  | nil => rfl
  | cons d r ih => show (mT JD :: nT d :: jl r).length = _; simp only [List.length_cons, ih]; omega
theorem excM_see {T : List Tk} {p : Nat} {xs : List Int} {L : List TT} (hd : ∀ d ∈ xs, 0 ≤ d) (h : Sees T p (exTk xs ++ mT Zv :: L)) : QB T p = .ok (xs, p + (exTk xs).length) := by
  cases xs with
  | nil =>
    have e : isM T p Z1 = false := by rw [zf (L := L) h]; rfl
    simp [QB, e, exTk]
  | cons d r =>
    have e0 : exTk (d :: r) = mT Z1 :: nT d :: jl r := rfl
    rw [e0] at h ⊢
    have e : isM T p Z1 = true := by rw [zf h]; rfl
    have e1 := JR h.tail (hd d (by simp))
    have h2 := h.tail.tail
    have hle := h.len (by simp)
    simp only [List.length_cons, List.length_append] at hle
    have ml := moreTk_len r
    rw [QB, e, if_pos rfl, e1]
    simp only
    rw [exM_see r _ (p + 1 + 1) [d] L (fun x hx => hd x (by simp [hx])) (by omega) h2]
    simp only [List.singleton_append, List.length_cons]
    congr 2
    omega
structure NnOk (l : Lin) : Prop where
  fr : 0 ≤ l.fr
  to : 0 ≤ l.to
  ev : 0 ≤ l.ev
  exc : ∀ d ∈ l.exc, 0 ≤ d
theorem everyM_see {T : List Tk} {p : Nat} {l : Lin} {L : List TT} (hl : NnOk l) (f t : Int) (h : Sees T p (Z9 l ++ (exTk l.exc ++ mT Zv :: L))) : qI T f t p = .ok ((f, t, l.ev), p + (Z9 l).length) := by
  by_cases he : l.ev = 1
  · have e0 : Z9 l = [] := by rw [Z9, if_pos he]
    rw [e0] at h ⊢
    have e : isM T p JE = false := by
      cases hx : l.exc with
      | nil => rw [hx] at h; rw [zf (L := L) h]; rfl
      | cons d r => rw [hx] at h; rw [zf (w := Z1) (L := nT d :: (jl r ++ mT Zv :: L)) h]; rfl
    rw [qI, e, he]; rfl
  · have e0 : Z9 l = [mT JE, nT l.ev] := by rw [Z9, if_neg he]
    rw [e0] at h ⊢
    have e : isM T p JE = true := by rw [zf h]; rfl
    rw [qI, e, if_pos rfl, JR h.tail hl.ev]
    rfl
theorem daysM_see {T : List Tk} {p : Nat} {l : Lin} {L : List TT} (hl : NnOk l) (h : Sees T p (dayTk l ++ L)) : ZZ T p = .ok (((l.fr, l.to, l.ev), l.exc), p + (dayTk l).length) := by
  have e : dayTk l ++ L = frTk l ++ (Z9 l ++ (exTk l.exc ++ mT Zv :: L)) := by simp [dayTk]
  rw [e] at h
  have h2 := h.right
  have h3 := h2.right
  have h4 := h3.right
  have hF : jn T p = .ok ((l.fr, l.to, l.ev), p + (frTk l).length + (Z9 l).length) := by
    by_cases hc : l.fr = l.to ∧ l.ev = 1
    · have e0 : frTk l = [mT wOn, nT l.fr] := by rw [frTk, if_pos hc]
      have e1 : Z9 l = [] := by rw [Z9, if_pos hc.2]
      rw [e0] at h
      have e2 : isM T p wOn = true := by rw [zf h]; rfl
      rw [jn, e2, if_pos rfl, JR h.tail hl.fr, e0, e1, hc.2, ← hc.1]
      rfl
    · have e0 : frTk l = [mT JN, nT l.fr, mT wTo, nT l.to] := by rw [frTk, if_neg hc]
      have hev := everyM_see hl l.fr l.to h2
      rw [e0] at h hev ⊢
      have e2 : isM T p wOn = false := by rw [zf h]; rfl
      have e3 : isM T p JN = true := by rw [zf h]; rfl
      have e4 : isM T (p + 1 + 1) wTo = true := by rw [zf h.tail.tail]; rfl
      rw [jn, e2, e3, if_neg (by simp), if_pos rfl, JR h.tail hl.fr]
      simp only [toM, e4, if_true, JR h.tail.tail.tail hl.to]
      exact hev
  have hX := excM_see hl.exc h3
  have hS : isM T (p + (frTk l).length + (Z9 l).length + (exTk l.exc).length) Zv = true := by rw [zf h4]; rfl
  rw [ZZ, hF]
  simp only [hX, hS, if_true]
  congr 2
  simp only [dayTk, List.length_append, List.length_singleton]; omega
def hdTk (l : Lin) : List TT :=
  if l.kind = 1 then [mT Jp, nmT l.tower, mT wBy, nmT l.person]
  else if l.kind = 2 then [mT wRest, nmT l.person]
  else if l.kind = 3 then [mT Jc, nmT l.tower]
  else [mT wSwap, nmT l.person, nmT l.other]
def QC (l : Lin) : List TT := hdTk l ++ dayTk l
def Zq (l : Lin) : Lin := mkLn l.kind l.tower l.person l.other ((l.fr, l.to, l.ev), l.exc)
theorem ok_nn {l : Lin} (h : ZQ l = true) : NnOk l := by
  obtain ⟨⟨_, _, _, _, h1, h2, h3, _, h4⟩, _⟩ := Qo h
  exact ⟨h1.1, h2.1, h3.1, fun d hd => (h4 d hd).1⟩
theorem lineM_see {T : List Tk} {p : Nat} {l : Lin} {L : List TT} (hl : ZQ l = true) (h : Sees T p (QC l ++ L)) : ja T p = .ok (Zq l, p + (QC l).length) := by
  have hn := ok_nn hl
  have h0 : Sees T p (hdTk l ++ (dayTk l ++ L)) := by rw [QC, List.append_assoc] at h; exact h
  have hD := daysM_see hn h0.right
  have en : ∀ n, p + (QC l).length = n ↔ p + (hdTk l).length + (dayTk l).length = n := fun n => by simp only [QC, List.length_append]; omega
  rw [(en _).2 rfl]
  clear en
  unfold ZQ at hl
  unfold hdTk at h0 hD ⊢
  split at hl
  · rename_i hk
    simp only [Bool.and_eq_true] at hl
    rw [if_pos hk] at h0 hD ⊢
    have e1 : isM T p Jp = true := by rw [zf h0]; rfl
    have e2 := JB h0.tail
    have e3 : isM T (p + 1 + 1) wBy = true := by rw [zf h0.tail.tail]; rfl
    have e4 := JB h0.tail.tail.tail
    simp only [ja, e1, if_true, Zt, e2, e3, e4]
    rw [jM, show p + 1 + 1 + 1 + 1 = p + [mT Jp, nmT l.tower, mT wBy, nmT l.person].length from rfl, hD]
    simp only [Zq, hk, jg hl.1.2]
    rfl
  · split at hl
    · rename_i hk0 hk
      simp only [Bool.and_eq_true] at hl
      rw [if_neg hk0, if_pos hk] at h0 hD ⊢
      have e0 : isM T p Jp = false := by rw [zf h0]; rfl
      have e1 : isM T p wRest = true := by rw [zf h0]; rfl
      have e2 := JB h0.tail
      simp only [ja, e0, e1, if_true, if_false, Bool.false_eq_true, JL, e2]
      rw [jM, show p + 1 + 1 = p + [mT wRest, nmT l.person].length from rfl, hD]
      simp only [Zq, hk, jg hl.1.2, jg hl.1.1.1]
      rfl
    · split at hl
      · rename_i hk0 hk1 hk
        simp only [Bool.and_eq_true] at hl
        rw [if_neg hk0, if_neg hk1, if_pos hk] at h0 hD ⊢
        have e0 : isM T p Jp = false := by rw [zf h0]; rfl
        have e1 : isM T p wRest = false := by rw [zf h0]; rfl
        have e3 : isM T p Jc = true := by rw [zf h0]; rfl
        have e2 := JB h0.tail
        simp only [ja, e0, e1, e3, if_true, if_false, Bool.false_eq_true, Zp, e2]
        rw [jM, show p + 1 + 1 = p + [mT Jc, nmT l.tower].length from rfl, hD]
        simp only [Zq, hk, jg hl.1.2, jg hl.1.1.2]
        rfl
      · split at hl
        · rename_i hk0 hk1 hk2 hk
          simp only [Bool.and_eq_true] at hl
          rw [if_neg hk0, if_neg hk1, if_neg hk2] at h0 hD ⊢
          have e0 : isM T p Jp = false := by rw [zf h0]; rfl
          have e1 : isM T p wRest = false := by rw [zf h0]; rfl
          have e3 : isM T p Jc = false := by rw [zf h0]; rfl
          have e4 : isM T p wSwap = true := by rw [zf h0]; rfl
          have e2 := JB h0.tail
          have e5 := JB h0.tail.tail
          simp only [ja, e0, e1, e3, e4, if_true, if_false, Bool.false_eq_true, jt, e2, e5]
          rw [jM, show p + 1 + 1 + 1 = p + [mT wSwap, nmT l.person, nmT l.other].length from rfl, hD]
          simp only [Zq, hk, jg hl.1.1.1.1]
          rfl
        · cases hl
theorem lnTk_ord {T : List Tk} {p : Nat} {l : Lin} {L : List TT} (h : Sees T p (QC l ++ L)) : isM T p Jx = false := by
  unfold QC hdTk at h
  split at h
  · rw [zf h]; rfl
  · split at h
    · rw [zf h]; rfl
    · split at h
      · rw [zf h]; rfl
      · rw [zf h]; rfl
end Go.AM
