/- Orders: the same for all facts, by the program. Conditions: as each theorem says. -/
import Derived.Test.YtbpbgiedemkciaaGreatDoorEg
namespace Cw
theorem of_mem_tup5 (A B C D E : List Int) (t : List Int) (h : t ∈ tup [A, B, C, D, E]) : ∃ a b c d e, t = [a, b, c, d, e] ∧ a ∈ A ∧ b ∈ B ∧ c ∈ C ∧ d ∈ D ∧ e ∈ E := by
  simp only [tup, List.mem_flatMap, List.mem_map] at h
  obtain ⟨a, ha, _, ⟨b, hb, _, ⟨c, hc, _, ⟨d, hd, _, ⟨e, he, x, hx, rfl⟩, rfl⟩, rfl⟩, rfl⟩, rfl⟩ := h
  simp at hx; subst hx
  exact ⟨a, b, c, d, e, rfl, ha, hb, hc, hd, he⟩
end Cw

namespace Go.AM
open Go.Proofs Cw
/-- base: the name of the region's first operation; the region makes rows at names from base + 12 on, or at base + 4 (append), and a box at base + 9 -/
structure R8 (n base : Nat) (va vb : AV) (ca cb : List Cnd) (h : AHeap) (D : Array Bool) (s : St) : Prop where
  nt : s.nt = 52
  le : base + 12 ≤ s.n
  g2 : get s.s 2 = .fptr [va]
  g3 : get s.s 3 = .fptr [vb]
  g4 : get s.s 4 = .ptr (n + 2) 0
  c4 : s.h (n + 2) = some (.cells [iv .i64 0, iv .i64 0, iv .i64 0, iv .i64 0, iv .i64 0])
  fr : ∀ x, x < n → s.h x = h x
  d0 : D.getD 0 false = true → get s.s 31 = va
  d1 : D.getD 1 false = true → ∃ m, get s.s 32 = rowC m ca ∧ (D.getD 4 false = false → ca ≠ [] → base + 12 ≤ m ∧ m < s.n ∧ s.h m = some (.cells (flatC ca)))
  d2 : D.getD 2 false = true → get s.s 33 = vb
  d3 : D.getD 3 false = true → ∃ m, get s.s 34 = rowC m cb ∧ (D.getD 4 false = false → cb ≠ [] → base + 12 ≤ m ∧ m < s.n ∧ s.h m = some (.cells (flatC cb)))
  d4 : D.getD 4 false = true → ∃ m, get s.s 35 = rowC m (ca ++ cb) ∧ (D.getD 5 false = false → ca ++ cb ≠ [] → n + 3 ≤ m ∧ m ≠ base + 9 ∧ m < s.n ∧ s.h m = some (.cells (flatC (ca ++ cb))))
  d5 : D.getD 5 false = true → ∃ v e, ChPost (ca ++ cb) (.tup [v, e]) ∧ get s.s 36 = .tup [v, e] ∧ (D.getD 6 false = true → get s.s 30 = .tup [v, e]) ∧ (D.getD 7 false = true → get s.s 37 = v) ∧ (D.getD 8 false = true → get s.s 38 = e) ∧
    (D.getD 10 false = true → s.h (base + 9) = some (.cells (cellsOf v))) ∧ (D.getD 11 false = true → get s.s 11 = e)
  d9 : D.getD 9 false = true → get s.s 10 = .ptr (base + 9) 0 ∧ (D.getD 10 false = false → s.h (base + 9) = some (.cells [.fslc true true 0 [], .fslc true true 0 [], .fslc true true 0 [], .fslc true true 0 [], .fslc true true 0 []]))
  o9 : D.getD 10 false = true → D.getD 9 false = true
end Go.AM

namespace Go.AM
open Go.Proofs Cw
theorem getD_set_ne (D : Array Bool) (i j : Nat) (h : i ≠ j) : (D.setIfInBounds i true).getD j false = D.getD j false := by
  simp only [Array.getD_eq_getD_getElem?, Array.getElem?_setIfInBounds, if_neg h]
theorem getD_set_same (D : Array Bool) (i : Nat) (h : i < D.size) : (D.setIfInBounds i true).getD i false = true := by
  simp [Array.getD_eq_getD_getElem?, h]
theorem get_ne (t u : Nat) (x : AV) (s : List (Nat × AV)) (h : t ≠ u) : get ((t, x) :: s) u = get s u := by simp only [get]; rw [if_neg (fun e => h e.symm)]
theorem get_same (t : Nat) (x : AV) (s : List (Nat × AV)) : get ((t, x) :: s) t = x := by simp [get]
section
variable {n base : Nat} {va vb : AV} {ca cb : List Cnd} {h : AHeap} {D : Array Bool} {ss : List (Nat × AV)} {sh : AHeap} {sn : Nat}
/-- operation 0 -/
theorem R8.s0 (J : R8 n base va vb ca cb h D ⟨52, ss, sh, sn⟩) : R8 n base va vb ca cb h (D.setIfInBounds 0 true) ⟨52, (31, va) :: ss, sh, sn⟩ := by
  obtain ⟨nt, le, g2, g3, g4, c4, fr, d0, d1, d2, d3, d4, d5, d9, o9⟩ := J
  refine ⟨rfl, le, ?_, ?_, ?_, c4, fr, ?_, ?_, ?_, ?_, ?_, ?_, ?_, ?_⟩ <;> simp (disch := decide) only [getD_set_ne, get_ne, get_same] <;> first | assumption | (intro _; first | rfl | trivial)
/-- operation 2 -/
theorem R8.s2 (J : R8 n base va vb ca cb h D ⟨52, ss, sh, sn⟩) : R8 n base va vb ca cb h (D.setIfInBounds 2 true) ⟨52, (33, vb) :: ss, sh, sn⟩ := by
  obtain ⟨nt, le, g2, g3, g4, c4, fr, d0, d1, d2, d3, d4, d5, d9, o9⟩ := J
  refine ⟨rfl, le, ?_, ?_, ?_, c4, fr, ?_, ?_, ?_, ?_, ?_, ?_, ?_, ?_⟩ <;> simp (disch := decide) only [getD_set_ne, get_ne, get_same] <;> first | assumption | (intro _; first | rfl | trivial)
/-- a call that leaves what was there -/
theorem R8.frame (J : R8 n base va vb ca cb h D ⟨52, ss, sh, sn⟩) (hn : n + 3 ≤ base) {h' : AHeap} {n' : Nat} (h1 : sn ≤ n') (hx : ∀ x, x < sn → h' x = sh x) : R8 n base va vb ca cb h D ⟨52, ss, h', n'⟩ := by
  obtain ⟨nt, le, g2, g3, g4, c4, fr, d0, d1, d2, d3, d4, d5, d9, o9⟩ := J
  simp only at le c4 fr d1 d3 d4 d5 d9
  refine ⟨rfl, by simp only; omega, g2, g3, g4, by simp only; rw [hx _ (by omega)]; exact c4, fun x h2 => by simp only; rw [hx _ (by omega)]; exact fr x h2, d0, fun e => ?_, d2, fun e => ?_, fun e => ?_, fun e => ?_, fun e => ?_, o9⟩
  · obtain ⟨m, e1, e2⟩ := d1 e
    exact ⟨m, e1, fun e3 e4 => by obtain ⟨f1, f2, f3⟩ := e2 e3 e4; exact ⟨f1, by simp only; omega, by simp only; rw [hx _ f2]; exact f3⟩⟩
  · obtain ⟨m, e1, e2⟩ := d3 e
    exact ⟨m, e1, fun e3 e4 => by obtain ⟨f1, f2, f3⟩ := e2 e3 e4; exact ⟨f1, by simp only; omega, by simp only; rw [hx _ f2]; exact f3⟩⟩
  · obtain ⟨m, e1, e2⟩ := d4 e
    exact ⟨m, e1, fun e3 e4 => by obtain ⟨f1, f0, f2, f3⟩ := e2 e3 e4; exact ⟨f1, f0, by simp only; omega, by simp only; rw [hx _ f2]; exact f3⟩⟩
  · obtain ⟨v, e0, e1, e2, e3, e4, e5, e6, e7⟩ := d5 e
    exact ⟨v, e0, e1, e2, e3, e4, e5, fun e8 => by simp only; rw [hx _ (by omega)]; exact e6 e8, e7⟩
  · obtain ⟨e1, e2⟩ := d9 e
    exact ⟨e1, fun e3 => by simp only; rw [hx _ (by omega)]; exact e2 e3⟩
/-- operation 1 -/
theorem R8.s1 (J : R8 n base va vb ca cb h D ⟨52, ss, sh, sn⟩) (m : Nat) (hm : ca ≠ [] → base + 12 ≤ m ∧ m < sn ∧ sh m = some (.cells (flatC ca))) : R8 n base va vb ca cb h (D.setIfInBounds 1 true) ⟨52, (32, rowC m ca) :: ss, sh, sn⟩ := by
  obtain ⟨nt, le, g2, g3, g4, c4, fr, d0, d1, d2, d3, d4, d5, d9, o9⟩ := J
  refine ⟨rfl, le, ?_, ?_, ?_, c4, fr, ?_, ?_, ?_, ?_, ?_, ?_, ?_, ?_⟩ <;> simp (disch := decide) only [getD_set_ne, get_ne, get_same] <;> first | assumption | (intro _; exact ⟨m, rfl, fun _ => hm⟩)
/-- operation 3 -/
theorem R8.s3 (J : R8 n base va vb ca cb h D ⟨52, ss, sh, sn⟩) (m : Nat) (hm : cb ≠ [] → base + 12 ≤ m ∧ m < sn ∧ sh m = some (.cells (flatC cb))) : R8 n base va vb ca cb h (D.setIfInBounds 3 true) ⟨52, (34, rowC m cb) :: ss, sh, sn⟩ := by
  obtain ⟨nt, le, g2, g3, g4, c4, fr, d0, d1, d2, d3, d4, d5, d9, o9⟩ := J
  refine ⟨rfl, le, ?_, ?_, ?_, c4, fr, ?_, ?_, ?_, ?_, ?_, ?_, ?_, ?_⟩ <;> simp (disch := decide) only [getD_set_ne, get_ne, get_same] <;> first | assumption | (intro _; exact ⟨m, rfl, fun _ => hm⟩)
/-- operation 6 -/
theorem R8.s6 (J : R8 n base va vb ca cb h D ⟨52, ss, sh, sn⟩) (v e : AV) (h5 : ChPost (ca ++ cb) (.tup [v, e]) ∧ get ss 36 = .tup [v, e] ∧ (D.getD 6 false = true → get ss 30 = .tup [v, e]) ∧ (D.getD 7 false = true → get ss 37 = v) ∧ (D.getD 8 false = true → get ss 38 = e) ∧ (D.getD 10 false = true → sh (base + 9) = some (.cells (cellsOf v))) ∧ (D.getD 11 false = true → get ss 11 = e)) : R8 n base va vb ca cb h (D.setIfInBounds 6 true) ⟨52, (30, .tup [v, e]) :: ss, sh, sn⟩ := by
  obtain ⟨nt, le, g2, g3, g4, c4, fr, d0, d1, d2, d3, d4, d5, d9, o9⟩ := J
  obtain ⟨f1, f2, f3, f4, f5, f6, f7⟩ := h5
  refine ⟨rfl, le, ?_, ?_, ?_, c4, fr, ?_, ?_, ?_, ?_, ?_, ?_, ?_, ?_⟩ <;> simp (disch := decide) only [getD_set_ne, get_ne, get_same] <;> first | assumption | (intro _; exact ⟨v, e, f1, f2, by first | exact f3 | (intro _; trivial), by first | exact f4 | (intro _; trivial), by first | exact f5 | (intro _; trivial), f6, by first | exact f7 | (intro _; trivial)⟩)
/-- operation 7 -/
theorem R8.s7 (J : R8 n base va vb ca cb h D ⟨52, ss, sh, sn⟩) (v e : AV) (h5 : ChPost (ca ++ cb) (.tup [v, e]) ∧ get ss 36 = .tup [v, e] ∧ (D.getD 6 false = true → get ss 30 = .tup [v, e]) ∧ (D.getD 7 false = true → get ss 37 = v) ∧ (D.getD 8 false = true → get ss 38 = e) ∧ (D.getD 10 false = true → sh (base + 9) = some (.cells (cellsOf v))) ∧ (D.getD 11 false = true → get ss 11 = e)) : R8 n base va vb ca cb h (D.setIfInBounds 7 true) ⟨52, (37, v) :: ss, sh, sn⟩ := by
  obtain ⟨nt, le, g2, g3, g4, c4, fr, d0, d1, d2, d3, d4, d5, d9, o9⟩ := J
  obtain ⟨f1, f2, f3, f4, f5, f6, f7⟩ := h5
  refine ⟨rfl, le, ?_, ?_, ?_, c4, fr, ?_, ?_, ?_, ?_, ?_, ?_, ?_, ?_⟩ <;> simp (disch := decide) only [getD_set_ne, get_ne, get_same] <;> first | assumption | (intro _; exact ⟨v, e, f1, f2, by first | exact f3 | (intro _; trivial), by first | exact f4 | (intro _; trivial), by first | exact f5 | (intro _; trivial), f6, by first | exact f7 | (intro _; trivial)⟩)
/-- operation 8 -/
theorem R8.s8 (J : R8 n base va vb ca cb h D ⟨52, ss, sh, sn⟩) (v e : AV) (h5 : ChPost (ca ++ cb) (.tup [v, e]) ∧ get ss 36 = .tup [v, e] ∧ (D.getD 6 false = true → get ss 30 = .tup [v, e]) ∧ (D.getD 7 false = true → get ss 37 = v) ∧ (D.getD 8 false = true → get ss 38 = e) ∧ (D.getD 10 false = true → sh (base + 9) = some (.cells (cellsOf v))) ∧ (D.getD 11 false = true → get ss 11 = e)) : R8 n base va vb ca cb h (D.setIfInBounds 8 true) ⟨52, (38, e) :: ss, sh, sn⟩ := by
  obtain ⟨nt, le, g2, g3, g4, c4, fr, d0, d1, d2, d3, d4, d5, d9, o9⟩ := J
  obtain ⟨f1, f2, f3, f4, f5, f6, f7⟩ := h5
  refine ⟨rfl, le, ?_, ?_, ?_, c4, fr, ?_, ?_, ?_, ?_, ?_, ?_, ?_, ?_⟩ <;> simp (disch := decide) only [getD_set_ne, get_ne, get_same] <;> first | assumption | (intro _; exact ⟨v, e, f1, f2, by first | exact f3 | (intro _; trivial), by first | exact f4 | (intro _; trivial), by first | exact f5 | (intro _; trivial), f6, by first | exact f7 | (intro _; trivial)⟩)
/-- operation 11 -/
theorem R8.s11 (J : R8 n base va vb ca cb h D ⟨52, ss, sh, sn⟩) (v e : AV) (h5 : ChPost (ca ++ cb) (.tup [v, e]) ∧ get ss 36 = .tup [v, e] ∧ (D.getD 6 false = true → get ss 30 = .tup [v, e]) ∧ (D.getD 7 false = true → get ss 37 = v) ∧ (D.getD 8 false = true → get ss 38 = e) ∧ (D.getD 10 false = true → sh (base + 9) = some (.cells (cellsOf v))) ∧ (D.getD 11 false = true → get ss 11 = e)) : R8 n base va vb ca cb h (D.setIfInBounds 11 true) ⟨52, (11, e) :: ss, sh, sn⟩ := by
  obtain ⟨nt, le, g2, g3, g4, c4, fr, d0, d1, d2, d3, d4, d5, d9, o9⟩ := J
  obtain ⟨f1, f2, f3, f4, f5, f6, f7⟩ := h5
  refine ⟨rfl, le, ?_, ?_, ?_, c4, fr, ?_, ?_, ?_, ?_, ?_, ?_, ?_, ?_⟩ <;> simp (disch := decide) only [getD_set_ne, get_ne, get_same] <;> first | assumption | (intro _; exact ⟨v, e, f1, f2, by first | exact f3 | (intro _; trivial), by first | exact f4 | (intro _; trivial), by first | exact f5 | (intro _; trivial), f6, by first | exact f7 | (intro _; trivial)⟩)
end
end Go.AM

namespace Go.AM
open Go.Proofs Cw
set_option maxRecDepth 10000
set_option maxHeartbeats 4000000
theorem ap_CC2 (m m2 nm n : Nat) (a b : List Cnd) (H : AHeap) (hm : a ≠ [] → n ≤ m ∧ H m = some (.cells (flatC a))) (hm2 : b ≠ [] → H m2 = some (.cells (flatC b))) (hn : n ≤ nm) (la : a.length ≤ 100000) (lb : b.length ≤ 100000) :
    ∃ m3 H3, aAppend Tryz.prog nm 22 (rowC m a) (rowC m2 b) H = some (rowC m3 (a ++ b), H3) ∧ (m3 = m ∨ m3 = nm) ∧ (a ++ b ≠ [] → n ≤ m3 ∧ H3 m3 = some (.cells (flatC (a ++ b)))) ∧ ∀ x, x ≠ nm → (a ≠ [] → x ≠ m) → H3 x = H x := by
  have fa := flatC_len a
  have fb := flatC_len b
  unfold rowC
  by_cases hb : b = []
  · subst hb
    by_cases ha : a = []
    · subst ha
      exact ⟨nm, H, by simp [aAppend, eltOf22, szOf24, byOf24, zerOf24, srcCells, cellsOf, AV.scalar], .inr rfl, fun e => absurd rfl e, fun _ _ _ => rfl⟩
    · obtain ⟨h1, h2⟩ := hm ha
      refine ⟨m, H.upd m (some (.cells (flatC a))), ?_, .inl rfl, fun _ => ⟨h1, by rw [upd_same, List.append_nil]⟩, fun x _ hx => upd_ne _ _ _ _ (hx ha)⟩
      simp [aAppend, eltOf22, szOf24, byOf24, zerOf24, srcCells, cellsOf, AV.scalar, ha, h2, fa, splice]
  · have h3 := hm2 hb
    have pb : 0 < b.length := List.length_pos_iff.2 hb
    by_cases ha : a = []
    · subst ha
      refine ⟨nm, H.upd nm (some (.cells (flatC b))), ?_, .inr rfl, fun _ => ⟨hn, by rw [upd_same, List.nil_append]⟩, fun x hx _ => upd_ne _ _ _ _ hx⟩
      simp [aAppend, eltOf22, szOf24, byOf24, zerOf24, srcCells, cellsOf, AV.scalar, hb, h3, fb, flat]
      exact ⟨by omega, by rw [← fb, List.take_length]⟩
    · obtain ⟨h1, h2⟩ := hm ha
      refine ⟨nm, (H.upd m none).upd nm (some (.cells (flatC a ++ flatC b))), ?_, .inr rfl, fun _ => ⟨hn, by rw [upd_same, flatC_app]⟩, fun x hx hx2 => by rw [upd_ne _ _ _ _ hx, upd_ne _ _ _ _ (hx2 ha)]⟩
      have e1 : ¬ (a.length + b.length) * 5 ≤ a.length * 5 := by omega
      simp [aAppend, eltOf22, szOf24, byOf24, zerOf24, srcCells, cellsOf, AV.scalar, ha, hb, h2, h3, fa, fb, e1]
      exact ⟨by omega, by rw [← fb, List.take_length]⟩
theorem choices_own2 (m : Nat) (cs : List Cnd) (hw : wfL cs) (hok : okL cs = true) (ht : totL cs ≤ 1000) (H : AHeap) (nn : Nat) (hm : cs ≠ [] → H m = some (.cells (flatC cs))) :
    ACalls Tryz.prog 59 [rowC m cs] H nn fun r h' n' => ChPost cs r ∧ (∀ x, (cs ≠ [] → x ≠ m) → h' x = H x) ∧ n' = nn := by
  unfold rowC
  by_cases h0 : cs = []
  · subst h0
    exact (choices_spec [] true true 0 (.inl rfl) trivial rfl (by simp [totL]) H nn).mono fun r h' n' ⟨e1, e2, e3⟩ => ⟨e1, fun _ _ => by rw [e2], e3⟩
  · rw [if_neg h0]
    have h2 := hm h0
    have h3 := ACalls.fzArg (P := Tryz.prog) (f := 59) (n := nn) (K := fun r h' n' => ChPost cs r ∧ (∀ x, (cs ≠ [] → x ≠ m) → h' x = H x) ∧ n' = nn) true (fun h => by cases h) (len := cs.length) (s := 5) h2 (by rw [flatC_len]; exact Nat.le_refl _)
    rw [elemsC] at h3
    refine h3 ((choices_spec cs false false 5 (.inr ⟨rfl, rfl⟩) hw hok ht _ nn).mono fun r h' n' ⟨e1, e2, e3⟩ => ⟨e1, fun x hx => by rw [e2, upd_ne _ _ _ _ (hx h0)], e3⟩)
end Go.AM

namespace Go.AM
open Go.Proofs Cw
section
variable {n base : Nat} {va vb : AV} {ca cb : List Cnd} {h : AHeap} {D : Array Bool} {ss : List (Nat × AV)} {sh : AHeap} {sn : Nat}
/-- operation 4: the rows joined -/
theorem R8.s4 (J : R8 n base va vb ca cb h D ⟨52, ss, sh, sn⟩) (hsz : D.size = 12) (hn : n + 3 ≤ base) (m : Nat) (sh' : AHeap) (hm : ca ++ cb ≠ [] → n + 3 ≤ m ∧ m ≠ base + 9 ∧ m < sn ∧ sh' m = some (.cells (flatC (ca ++ cb)))) (hx : ∀ x, x < base + 4 ∨ x = base + 9 → sh' x = sh x) : R8 n base va vb ca cb h (D.setIfInBounds 4 true) ⟨52, (35, rowC m (ca ++ cb)) :: ss, sh', sn⟩ := by
  obtain ⟨nt, le, g2, g3, g4, c4, fr, d0, d1, d2, d3, d4, d5, d9, o9⟩ := J
  simp only at le c4 fr d1 d3 d4 d5 d9
  have h44 := getD_set_same D 4 (by omega)
  refine ⟨rfl, le, ?_, ?_, ?_, by simp only; rw [hx _ (by omega)]; exact c4, fun x h2 => by simp only; rw [hx _ (by omega)]; exact fr x h2, ?_, ?_, ?_, ?_, ?_, ?_, ?_, ?_⟩ <;> simp (disch := decide) only [getD_set_ne, get_ne, get_same, h44] <;> try assumption
  · intro e; obtain ⟨m, e1, _⟩ := d1 e; exact ⟨m, e1, fun e => by cases e⟩
  · intro e; obtain ⟨m, e1, _⟩ := d3 e; exact ⟨m, e1, fun e => by cases e⟩
  · exact fun _ => ⟨m, rfl, fun _ => hm⟩
  · intro e
    obtain ⟨v, e0, e1, e2, e3, e4, e5, e6, e7⟩ := d5 e
    exact ⟨v, e0, e1, e2, e3, e4, e5, fun e8 => by rw [hx _ (.inr rfl)]; exact e6 e8, e7⟩
  · intro e
    obtain ⟨e1, e2⟩ := d9 e
    exact ⟨e1, fun e3 => by rw [hx _ (.inr rfl)]; exact e2 e3⟩
/-- operation 5: the choices -/
theorem R8.s5 (J : R8 n base va vb ca cb h D ⟨52, ss, sh, sn⟩) (hsz : D.size = 12) (hn : n + 3 ≤ base) (h4 : D.getD 4 false = true) (h6 : D.getD 6 false = false) (h7 : D.getD 7 false = false) (h8 : D.getD 8 false = false) (h10 : D.getD 10 false = false) (h11 : D.getD 11 false = false)
    (v e : AV) (hp : ChPost (ca ++ cb) (.tup [v, e])) (sh' : AHeap) (hx : ∀ x, x < n + 3 ∨ x = base + 9 → sh' x = sh x) : R8 n base va vb ca cb h (D.setIfInBounds 5 true) ⟨52, (36, .tup [v, e]) :: ss, sh', sn⟩ := by
  obtain ⟨nt, le, g2, g3, g4, c4, fr, d0, d1, d2, d3, d4, d5, d9, o9⟩ := J
  simp only at le c4 fr d1 d3 d4 d5 d9
  have h55 := getD_set_same D 5 (by omega)
  refine ⟨rfl, le, ?_, ?_, ?_, by simp only; rw [hx _ (by omega)]; exact c4, fun x h2 => by simp only; rw [hx _ (by omega)]; exact fr x h2, ?_, ?_, ?_, ?_, ?_, ?_, ?_, ?_⟩ <;> simp (disch := decide) only [getD_set_ne, get_ne, get_same, h55, h4, h6, h7, h8, h10, h11] <;> try assumption
  · intro e; obtain ⟨m, e1, _⟩ := d1 e; exact ⟨m, e1, fun e => by cases e⟩
  · intro e; obtain ⟨m, e1, _⟩ := d3 e; exact ⟨m, e1, fun e => by cases e⟩
  · intro _; obtain ⟨m, e1, _⟩ := d4 h4; exact ⟨m, e1, fun e => by cases e⟩
  · intro _
    exact ⟨v, e, hp, rfl, fun e => (by cases e), fun e => (by cases e), fun e => (by cases e), fun e => (by cases e), fun e => (by cases e)⟩
  · intro e
    obtain ⟨e1, e2⟩ := d9 e
    exact ⟨e1, fun e3 => by rw [hx _ (.inr rfl)]; exact e2 h10⟩
  · intro e; cases e
/-- operation 9: a fresh box -/
theorem R8.s9 (J : R8 n base va vb ca cb h D ⟨52, ss, sh, sn⟩) (hsz : D.size = 12) (hn : n + 3 ≤ base) (h9 : D.getD 9 false = false) : R8 n base va vb ca cb h (D.setIfInBounds 9 true) ⟨52, (10, .ptr (base + 9) 0) :: ss, sh.upd (base + 9) (some (.cells [.fslc true true 0 [], .fslc true true 0 [], .fslc true true 0 [], .fslc true true 0 [], .fslc true true 0 []])), sn⟩ := by
  obtain ⟨nt, le, g2, g3, g4, c4, fr, d0, d1, d2, d3, d4, d5, d9, o9⟩ := J
  simp only at le c4 fr d1 d3 d4 d5 d9
  have h99 := getD_set_same D 9 (by omega)
  have h10 : D.getD 10 false = false := by
    cases e : D.getD 10 false with
    | false => rfl
    | true => rw [o9 e] at h9; cases h9
  refine ⟨rfl, le, ?_, ?_, ?_, by simp only; rw [upd_ne _ _ _ _ (by omega)]; exact c4, fun x h2 => by simp only; rw [upd_ne _ _ _ _ (by omega)]; exact fr x h2, ?_, ?_, ?_, ?_, ?_, ?_, ?_, ?_⟩ <;> simp (disch := decide) only [getD_set_ne, get_ne, get_same, h99, h10] <;> try assumption
  · intro e; obtain ⟨m, e1, e2⟩ := d1 e; exact ⟨m, e1, fun e3 e4 => by obtain ⟨f1, f2, f3⟩ := e2 e3 e4; exact ⟨f1, f2, by rw [upd_ne _ _ _ _ (by omega)]; exact f3⟩⟩
  · intro e; obtain ⟨m, e1, e2⟩ := d3 e; exact ⟨m, e1, fun e3 e4 => by obtain ⟨f1, f2, f3⟩ := e2 e3 e4; exact ⟨f1, f2, by rw [upd_ne _ _ _ _ (by omega)]; exact f3⟩⟩
  · intro e; obtain ⟨m, e1, e2⟩ := d4 e; exact ⟨m, e1, fun e3 e4 => by obtain ⟨f1, f0, f2, f3⟩ := e2 e3 e4; exact ⟨f1, f0, f2, by rw [upd_ne _ _ _ _ f0]; exact f3⟩⟩
  · intro e
    obtain ⟨v, e0, e1, e2, e3, e4, e5, e6, e7⟩ := d5 e
    exact ⟨v, e0, e1, e2, e3, e4, e5, fun e8 => (by cases e8), e7⟩
  · exact fun _ => ⟨trivial, fun _ => upd_same _ _ _⟩
  · intro e; cases e
/-- operation 10: the choices kept in the box -/
theorem R8.s10 (J : R8 n base va vb ca cb h D ⟨52, ss, sh, sn⟩) (hsz : D.size = 12) (hn : n + 3 ≤ base) (h9 : D.getD 9 false = true) (v e : AV) (h5 : ChPost (ca ++ cb) (.tup [v, e]) ∧ get ss 36 = .tup [v, e] ∧ (D.getD 6 false = true → get ss 30 = .tup [v, e]) ∧ (D.getD 7 false = true → get ss 37 = v) ∧ (D.getD 8 false = true → get ss 38 = e) ∧ (D.getD 10 false = true → sh (base + 9) = some (.cells (cellsOf v))) ∧ (D.getD 11 false = true → get ss 11 = e)) : R8 n base va vb ca cb h (D.setIfInBounds 10 true) ⟨52, ss, sh.upd (base + 9) (some (.cells (cellsOf v))), sn⟩ := by
  obtain ⟨nt, le, g2, g3, g4, c4, fr, d0, d1, d2, d3, d4, d5, d9, o9⟩ := J
  obtain ⟨f1, f2, f3, f4, f5, f6, f7⟩ := h5
  simp only at le c4 fr d1 d3 d4 d5 d9
  have h1010 := getD_set_same D 10 (by omega)
  refine ⟨rfl, le, g2, g3, g4, by simp only; rw [upd_ne _ _ _ _ (by omega)]; exact c4, fun x h2 => by simp only; rw [upd_ne _ _ _ _ (by omega)]; exact fr x h2, ?_, ?_, ?_, ?_, ?_, ?_, ?_, ?_⟩ <;> simp (disch := decide) only [getD_set_ne, h1010] <;> try assumption
  · intro e; obtain ⟨m, e1, e2⟩ := d1 e; exact ⟨m, e1, fun e3 e4 => by obtain ⟨f1, f2, f3⟩ := e2 e3 e4; exact ⟨f1, f2, by rw [upd_ne _ _ _ _ (by omega)]; exact f3⟩⟩
  · intro e; obtain ⟨m, e1, e2⟩ := d3 e; exact ⟨m, e1, fun e3 e4 => by obtain ⟨f1, f2, f3⟩ := e2 e3 e4; exact ⟨f1, f2, by rw [upd_ne _ _ _ _ (by omega)]; exact f3⟩⟩
  · intro e; obtain ⟨m, e1, e2⟩ := d4 e; exact ⟨m, e1, fun e3 e4 => by obtain ⟨f1, f0, f2, f3⟩ := e2 e3 e4; exact ⟨f1, f0, f2, by rw [upd_ne _ _ _ _ f0]; exact f3⟩⟩
  · exact fun _ => ⟨v, e, f1, f2, f3, f4, f5, fun _ => upd_same _ _ _, f7⟩
  · exact fun e => ⟨(d9 h9).1, fun e3 => by cases e3⟩
  · exact fun _ => h9
end
end Go.AM

namespace Go.AM
open Go.Proofs Cw
theorem chV {cs : List Cnd} {v e : AV} (h : ChPost cs (.tup [v, e])) : ∃ a0 a1 a2 a3 b0 b1 b2 b3 c0 c1 c2 c3 d0 d1 d2 d3 f0 f1 f2 f3, v = .agg [.fslc a0 a1 a2 a3, .fslc b0 b1 b2 b3, .fslc c0 c1 c2 c3, .fslc d0 d1 d2 d3, .fslc f0 f1 f2 f3] := by
  have rf : ∀ l : List Int, ∃ a b c d, rowF l = .fslc a b c d := fun l => by
    unfold rowF; split <;> exact ⟨_, _, _, _, rfl⟩
  unfold ChPost at h
  split at h
  · simp only [AV.tup.injEq, List.cons.injEq, and_true] at h
    obtain ⟨rfl, _⟩ := h
    exact ⟨_, _, _, _, _, _, _, _, _, _, _, _, _, _, _, _, _, _, _, _, rfl⟩
  · obtain ⟨V, h⟩ := h
    simp only [AV.tup.injEq, List.cons.injEq, and_true] at h
    obtain ⟨rfl, _⟩ := h
    obtain ⟨a0, a1, a2, a3, e0⟩ := rf (V 0)
    obtain ⟨b0, b1, b2, b3, e1⟩ := rf (V 1)
    obtain ⟨c0, c1, c2, c3, e2⟩ := rf (V 2)
    obtain ⟨d0, d1, d2, d3, e3⟩ := rf (V 3)
    obtain ⟨f0, f1, f2, f3, e4⟩ := rf (V 4)
    exact ⟨_, _, _, _, _, _, _, _, _, _, _, _, _, _, _, _, _, _, _, _, by rw [e0, e1, e2, e3, e4]⟩
def Mono8 (D : Array Bool) : Prop := ∀ j, j = 6 ∨ j = 7 ∨ j = 8 ∨ j = 10 ∨ j = 11 → D.getD j false = true → D.getD 5 false = true
theorem Mono8.nil (n : Nat) : Mono8 (Array.replicate n false) := by
  intro j _ hd
  exfalso
  rw [Array.getD_eq_getD_getElem?, Array.getElem?_replicate] at hd
  split at hd <;> cases hd
theorem Mono8.set {D : Array Bool} (M : Mono8 D) (hsz : D.size = 12) (i : Nat) (h : (i = 6 ∨ i = 7 ∨ i = 8 ∨ i = 10 ∨ i = 11) → D.getD 5 false = true) : Mono8 (D.setIfInBounds i true) := by
  intro j hj hd
  by_cases e5 : i = 5
  · subst e5; exact getD_set_same D 5 (by omega)
  · rw [getD_set_ne _ _ _ e5]
    by_cases e : i = j
    · subst e; exact h hj
    · rw [getD_set_ne _ _ _ e] at hd; exact M j hj hd
theorem getD_false {D : Array Bool} {i : Nat} (h : D.getD i true = false) : D.getD i false = false := by
  simp only [Array.getD_eq_getD_getElem?] at h ⊢
  cases hx : D[i]? with
  | none => rfl
  | some b => rw [hx] at h; simpa using h
theorem getD_true {D : Array Bool} {i : Nat} (hi : i < D.size) (h : D.getD i true = true) : D.getD i false = true := by
  simp only [Array.getD_eq_getD_getElem?, Array.getElem?_eq_getElem hi, Option.getD_some] at h ⊢; exact h
end Go.AM

namespace Go.AM
open Go.Proofs Cw
set_option maxRecDepth 10000
set_option maxHeartbeats 4000000
theorem SameOrders26 (nl fu : Bool) (s : Nat) (a : List Ordr) (ha : a = [] ∨ nl = false ∧ s = 7) (hwa : wfO a) (hfa : fewO a = true) (nl2 fu2 : Bool) (s2 : Nat) (b : List Ordr) (hb : b = [] ∨ nl2 = false ∧ s2 = 7) (hwb : wfO b) (hfb : fewO b = true) :
    APure Tryz.prog 26 [.fslc nl fu s (a.map encO), .fslc nl2 fu2 s2 (b.map encO)] (outDP (sameO a b)) := by
  intro h n
  have la0 := few_len hfa
  have lb0 := few_len hfb
  have hla : a.length ≤ 1000000 := by omega
  have hlb : b.length ≤ 1000000 := by omega
  have k1 := check55 nl fu s a ha hwa (few_sm hfa) hla
  have k2 := check55 nl2 fu2 s2 b hb hwb (few_sm hfb) hlb
  refine ACalls.pure (ACalls.entry (by kernel_rfl) fun hbb _ => calls_of Tryz.func26 rfl (by kernel_rfl) (by simp [Tryz.ntmps26]) ?_)
  obtain ⟨R, hR⟩ : ∃ R, R = sameO a b := ⟨_, rfl⟩
  rw [← hR]
  replace hR : Hide _ := hR
  replace hfa : Hide _ := hfa
  replace hfb : Hide _ := hfb
  replace hwa : Hide _ := hwa
  replace hwb : Hide _ := hwb
  replace ha : Hide _ := ha
  replace hb : Hide _ := hb
  repeat' (first | (refine ac_seq_h fun K hK => ?_) | (refine ac_region_h fun K hK => ?_; simp (disch := omega) [go_sem, *, upd_ne, Tryz.ntmps26]) | (apply Hide.out hK; clear hK K; try with_reducible dsimp only [thenA]) | (refine ac_block ?_))
  refine ac_loop_wk (fun s' => ∃ (i n' : Nat), n + 9 < n' ∧ i ≤ 2 ∧ (1 ≤ i → chk a = 0) ∧ (2 ≤ i → chk b = 0) ∧ s' = ⟨52, [(2, .ptr n 0), (3, .ptr (n + 1) 0), (4, .ptr (n + 2) 0), (5, bv false), (6, iv .i64 0), (16, .fslc false false 1 [.fslc nl fu s (a.map encO), .fslc nl2 fu2 s2 (b.map encO)]), (17, iv .i64 2), (18, iv .i64 i)], ((h.upd n (some (.cells [.fslc nl fu s (a.map encO)]))).upd (n + 1) (some (.cells [.fslc nl2 fu2 s2 (b.map encO)]))).upd (n + 2) (some (.cells [iv .i64 0, iv .i64 0, iv .i64 0, iv .i64 0, iv .i64 0])), n'⟩)
      (fun s' => 2 - (intAt s' 18).toNat) ?_ ?_
  · exact loop_start (by simp [go_sem]) (Sub.refl _) ⟨0, _, by omega, by omega, by omega, by omega, rfl⟩
  · rintro s' ⟨i, n', hn', hi, g1, g2, rfl⟩
    have hi3 : i = 0 ∨ i = 1 ∨ i = 2 := by omega
    rcases hi3 with rfl | rfl | rfl
    · by_cases hc : chk a = 0
      · rw [hc] at k1
        replace hc : Hide _ := hc
        repeat' (first | (refine ac_seq_h fun K hK => ?_) | (refine ac_region_h fun K hK => ?_; simp (disch := omega) [go_sem, *, wrap64_id, ilt_true]) | (apply Hide.out hK; clear hK K; try with_reducible dsimp only [thenA]) | (apply Hide.out ht; clear ht hf Kt Kf) | (apply Hide.out hf; clear ht hf Kt Kf) | (with_reducible refine APure.gcall (k1) ?_; try simp (disch := omega) [go_sem, *]) | (refine ac_block ?_) | (refine ac_skip ?_; simp only [thenA, blockA]) | (refine ac_cond_h fun Kt Kf ht hf => ?_; simp (disch := omega) [go_sem, *]; try (refine ⟨fun hc => ?_, fun hc => ?_⟩ <;> try (exfalso; omega))))
        exact round_end (by simp [go_sem]) (Sub.refl _) ⟨1, _, by omega, by omega, fun _ => hc.out, fun e => by omega, rfl⟩ (by simp [intAt, go_sem])
      · have hR2 : R = (⟨0, 0, 0, 0, 0⟩, false, chk a) := by rw [hR.out, sameO, if_pos hc]
        rw [hR2]
        have hne : (chk a != 0) = true := by simpa using hc
        generalize chk a = e at *
        replace hR2 : Hide _ := trivial
        clear hc
        repeat' (first | (refine ac_seq_h fun K hK => ?_) | (refine ac_region_h fun K hK => ?_; simp (disch := omega) [go_sem, *, ilt_true]) | (apply Hide.out hK; clear hK K; try with_reducible dsimp only [thenA]) | (apply Hide.out ht; clear ht hf Kt Kf) | (with_reducible refine APure.gcall (k1) ?_; try simp (disch := omega) [go_sem, *]) | (refine ac_block ?_) | (refine ac_skip ?_; simp only [thenA]) | (refine ac_cond_h fun Kt Kf ht hf => ?_; simp (disch := omega) [go_sem, *]; try (refine ⟨fun hc => ?_, fun hc => ?_⟩ <;> try (exfalso; omega))))
        (refine ac_ret ?_; try dsimp only [thenA, blockA]; refine ⟨by simp, _, (by first | rfl | (simp (disch := omega) [go_sem] <;> rfl)), ?_⟩; refine ret_id ⟨fun k hk => (by first | rfl | (repeat rw [upd_ne _ _ _ _ (by omega)])), (by simp [go_sem, below, belowL]), (by simp [go_sem] <;> omega), by simp, by simp⟩)
    · by_cases hc : chk b = 0
      · rw [hc] at k2
        replace hc : Hide _ := hc
        repeat' (first | (refine ac_seq_h fun K hK => ?_) | (refine ac_region_h fun K hK => ?_; simp (disch := omega) [go_sem, *, wrap64_id, ilt_true, ile_true]) | (apply Hide.out hK; clear hK K; try with_reducible dsimp only [thenA]) | (apply Hide.out ht; clear ht hf Kt Kf) | (apply Hide.out hf; clear ht hf Kt Kf) | (with_reducible refine APure.gcall (k2) ?_; try simp (disch := omega) [go_sem, *]) | (refine ac_block ?_) | (refine ac_skip ?_; simp only [thenA, blockA]) | (refine ac_cond_h fun Kt Kf ht hf => ?_; simp (disch := omega) [go_sem, *]; try (refine ⟨fun hc => ?_, fun hc => ?_⟩ <;> try (exfalso; omega))))
        exact round_end (by simp [go_sem]) (Sub.refl _) ⟨2, _, by omega, by omega, fun _ => g1 (by omega), fun _ => hc.out, rfl⟩ (by simp [intAt, go_sem])
      · have hR2 : R = (⟨0, 0, 0, 0, 0⟩, false, chk b) := by rw [hR.out, sameO, if_neg (by simpa using g1 (by omega)), if_pos hc]
        rw [hR2]
        have hne : (chk b != 0) = true := by simpa using hc
        generalize chk b = e at *
        replace hR2 : Hide _ := trivial
        clear hc
        repeat' (first | (refine ac_seq_h fun K hK => ?_) | (refine ac_region_h fun K hK => ?_; simp (disch := omega) [go_sem, *, ilt_true, ile_true]) | (apply Hide.out hK; clear hK K; try with_reducible dsimp only [thenA]) | (apply Hide.out ht; clear ht hf Kt Kf) | (with_reducible refine APure.gcall (k2) ?_; try simp (disch := omega) [go_sem, *]) | (refine ac_block ?_) | (refine ac_skip ?_; simp only [thenA]) | (refine ac_cond_h fun Kt Kf ht hf => ?_; simp (disch := omega) [go_sem, *]; try (refine ⟨fun hc => ?_, fun hc => ?_⟩ <;> try (exfalso; omega))))
        (refine ac_ret ?_; try dsimp only [thenA, blockA]; refine ⟨by simp, _, (by first | rfl | (simp (disch := omega) [go_sem] <;> rfl)), ?_⟩; refine ret_id ⟨fun k hk => (by first | rfl | (repeat rw [upd_ne _ _ _ _ (by omega)])), (by simp [go_sem, below, belowL]), (by simp [go_sem] <;> omega), by simp, by simp⟩)
    · have h1 := g1 (by omega)
      have h2 := g2 (by omega)
      clear g1 g2
      replace h1 : Hide _ := h1
      replace h2 : Hide _ := h2
      have a30 := (chk_zero h1).2
      have b30 := (chk_zero h2).2
      have la6 : a.length ≤ 6 := by omega
      have lb6 : b.length ≤ 6 := by omega
      obtain ⟨qw, qo, qt⟩ := both_ok hwa.out hwb.out h1.out h2.out la6 lb6
      have oka := all_okO hwa.out (chk_zero h1.out).1
      have okb := all_okO hwb.out (chk_zero h2.out).1
      have k3 := conditions60o nl fu s a ha.out hla
      have k4 := conditions60o nl2 fu2 s2 b hb.out hlb
      have k5 := fun m => choices_own2 m (condsO a ++ condsO b) qw qo (by omega)
      have k6 := first67 nl fu s a ha.out oka hla nl2 fu2 s2 b hb.out okb hlb
      have hR2 : R = if fewP (condsO a ++ condsO b) then findO (candsP (condsO a ++ condsO b)) (difO a b) else (⟨0, 0, 0, 0, 0⟩, false, 80) := by rw [hR.out, sameO, if_neg (by simpa using h1.out), if_neg (by simpa using h2.out)]
      have lca : (condsO a).length ≤ 100000 := by rw [condsO, List.length_map]; omega
      have lcb : (condsO b).length ≤ 100000 := by rw [condsO, List.length_map]; omega
      replace hR : Hide _ := trivial
      replace k3 : Hide _ := k3
      replace k4 : Hide _ := k4
      replace k5 : Hide _ := k5
      replace k6 : Hide _ := k6
      replace hR2 : Hide _ := hR2
      clear k1 k2 qw qo oka okb a30 b30 la0 lb0
      repeat' (first | (refine ac_seq_h fun K hK => ?_) | (refine ac_region_h fun K hK => ?_; simp (disch := omega) [go_sem, *]) | (apply Hide.out hK; clear hK K; try with_reducible dsimp only [thenA]) | (apply Hide.out hf; clear ht hf Kt Kf) | (clear hK K; apply Hide.out hK; clear hK K; try with_reducible dsimp only [thenA]) | (refine ac_exit ?_; simp only [thenA, blockA, if_true]) | (refine ac_cond_h fun Kt Kf ht hf => ?_; simp (disch := omega) [go_sem, *]; try (refine ⟨fun hc => ?_, fun hc => ?_⟩ <;> try (exfalso; omega))))
      refine ac_fzbox (t := 2) (m := n) (c := [.fslc nl fu s (a.map encO)]) ?_ ?_ ?_
      · simp (disch := omega) only [upd_ne, upd_same]
      · rfl
      refine ac_fzbox (t := 3) (m := n + 1) (c := [.fslc nl2 fu2 s2 (b.map encO)]) ?_ ?_ ?_
      · simp (disch := omega) only [upd_ne, upd_same]
      · rfl
      refine ac_inv (fun D t => Mono8 D ∧ R8 n (n' + 1) (.fslc nl fu s (a.map encO)) (.fslc nl2 fu2 s2 (b.map encO)) (condsO a) (condsO b) h D t) mixed (by kernel_rfl) ?_ ?_ ?_
      · refine ⟨Mono8.nil _, rfl, by show n' + 1 + 12 ≤ n' + 1 + _; simp, rfl, rfl, rfl, ?_, fun x hx => ?_, ?_, ?_, ?_, ?_, ?_, ?_, ?_, ?_⟩ <;> (try (intro e; simp at e; done))
        · simp (disch := omega) only [upd_ne, upd_same]
        · simp (disch := omega) only [upd_ne]
      · intro D s i o hsz ho hl hdep J
        have hsz : D.size = 12 := hsz
        have hi : i < 12 := (Array.getElem?_eq_some_iff.1 ho).1
        have hl := getD_false hl
        obtain ⟨M, J⟩ := J
        obtain ⟨snt, ss, sh, sn⟩ := s
        have jnt : snt = 52 := J.nt
        subst jnt
        have hi2 : i = 0 ∨ i = 1 ∨ i = 2 ∨ i = 3 ∨ i = 4 ∨ i = 5 ∨ i = 6 ∨ i = 7 ∨ i = 8 ∨ i = 9 ∨ i = 10 ∨ i = 11 := by omega
        rcases hi2 with rfl | rfl | rfl | rfl | rfl | rfl | rfl | rfl | rfl | rfl | rfl | rfl
        · simp at ho; subst ho
          have j2 : get ss 2 = _ := J.g2
          simp (disch := omega) [go_sem, j2]
          exact ⟨M.set hsz 0 (fun e => by omega), J.s0⟩
        · simp at ho; subst ho
          have j0 : get ss 31 = _ := J.d0 (hdep ⟨0, .data⟩ (by simp) rfl)
          simp (disch := omega) [go_sem, j0]
          refine .inl ((k3.out _ _).mono fun r hh nn hp => ?_)
          obtain ⟨m, hn1, rfl, hm, hx⟩ := hp
          simp [go_sem]
          have hle : n' + 1 + 12 ≤ sn := J.le
          exact ⟨M.set hsz 1 (fun e => by omega), (J.frame (by omega) hn1 hx).s1 m fun e => by obtain ⟨e1, e2, e3⟩ := hm e; exact ⟨by omega, e2, e3⟩⟩
        · simp at ho; subst ho
          have j2 : get ss 3 = _ := J.g3
          simp (disch := omega) [go_sem, j2]
          exact ⟨M.set hsz 2 (fun e => by omega), J.s2⟩
        · simp at ho; subst ho
          have j0 : get ss 33 = _ := J.d2 (hdep ⟨2, .data⟩ (by simp) rfl)
          simp (disch := omega) [go_sem, j0]
          refine .inl ((k4.out _ _).mono fun r hh nn hp => ?_)
          obtain ⟨m, hn1, rfl, hm, hx⟩ := hp
          simp [go_sem]
          have hle : n' + 1 + 12 ≤ sn := J.le
          exact ⟨M.set hsz 3 (fun e => by omega), (J.frame (by omega) hn1 hx).s3 m fun e => by obtain ⟨e1, e2, e3⟩ := hm e; exact ⟨by omega, e2, e3⟩⟩
        · simp at ho; subst ho
          obtain ⟨m1, e1, f1⟩ := J.d1 (hdep ⟨1, .data⟩ (by simp) rfl)
          obtain ⟨m3, e3, f3⟩ := J.d3 (hdep ⟨3, .data⟩ (by simp) rfl)
          simp only at e1 e3
          have hle : n' + 1 + 12 ≤ sn := J.le
          obtain ⟨mm, q1, q2, q3⟩ : ∃ mm, rowC m1 (condsO a) = rowC mm (condsO a) ∧ (condsO a = [] → mm = n' + 1 + 4) ∧ (condsO a ≠ [] → mm = m1) := by
            by_cases hca : condsO a = []
            · exact ⟨n' + 1 + 4, by simp [rowC, hca], fun _ => rfl, fun e => absurd hca e⟩
            · exact ⟨m1, rfl, fun e => absurd e hca, fun _ => rfl⟩
          rw [q1] at e1
          obtain ⟨m5, H5, e5, hmm, hm5, hx5⟩ := ap_CC2 mm m3 (n' + 1 + 4) (n + 3) (condsO a) (condsO b) sh (fun e => by rw [q3 e]; obtain ⟨f1, f2, f3⟩ := f1 hl e; exact ⟨by omega, f3⟩) (fun e => (f3 hl e).2.2) (by omega) lca lcb
          have hq : condsO a ≠ [] → n' + 1 + 12 ≤ mm ∧ mm < sn := fun e => by rw [q3 e]; obtain ⟨f1, f2, f3⟩ := f1 hl e; exact ⟨f1, f2⟩
          simp (disch := omega) [go_sem, e1, e3, e5]
          refine ⟨M.set hsz 4 (fun e => by omega), J.s4 hsz (by omega) m5 H5 (fun e => ?_) fun x hx => hx5 x (by omega) fun e => by have := hq e; omega⟩
          obtain ⟨g1, g2⟩ := hm5 e
          refine ⟨g1, ?_, ?_, g2⟩
          · by_cases hca : condsO a = []
            · have := q2 hca; omega
            · have := hq hca; omega
          · by_cases hca : condsO a = []
            · have := q2 hca; omega
            · have := hq hca; omega
        · simp at ho; subst ho
          have h4 := hdep ⟨4, .data⟩ (by simp) rfl
          obtain ⟨m1, e1, f1⟩ := J.d4 h4
          simp only at e1
          simp (disch := omega) [go_sem, e1]
          have hle : n' + 1 + 12 ≤ sn := J.le
          have fN : ∀ j, j = 6 ∨ j = 7 ∨ j = 8 ∨ j = 10 ∨ j = 11 → D.getD j false = false := fun j hj => by
            cases e : D.getD j false with
            | false => rfl
            | true => have := M j hj e; rw [hl] at this; cases this
          refine .inl ((k5.out m1 sh sn fun e => (f1 hl e).2.2.2).mono fun r hh nn hp => ?_)
          obtain ⟨hch, hx, rfl⟩ := hp
          obtain ⟨v, e, rfl⟩ : ∃ v e, r = .tup [v, e] := by
            have hch2 := hch
            unfold ChPost at hch2
            split at hch2
            · exact ⟨_, _, hch2⟩
            · obtain ⟨V, e⟩ := hch2; exact ⟨_, _, e⟩
          simp [go_sem]
          refine ⟨M.set hsz 5 (fun e => by omega), J.s5 hsz (by omega) h4 (fN 6 (by omega)) (fN 7 (by omega)) (fN 8 (by omega)) (fN 10 (by omega)) (fN 11 (by omega)) v e hch hh fun x hx2 => hx x fun e => ?_⟩
          obtain ⟨g1, g2, g3, g4⟩ := f1 hl e
          rcases hx2 with hx2 | hx2 <;> omega
        · simp at ho; subst ho
          have h5 := hdep ⟨5, .data⟩ (by simp) rfl
          obtain ⟨v, e, g⟩ := J.d5 h5
          have e1 : get ss 36 = _ := g.2.1
          simp (disch := omega) [go_sem, e1]
          exact ⟨M.set hsz 6 (fun _ => h5), J.s6 v e g⟩
        · simp at ho; subst ho
          have h6 := hdep ⟨6, .data⟩ (by simp) rfl
          have h5 := M 6 (by decide) h6
          obtain ⟨v, e, g⟩ := J.d5 h5
          have e1 : get ss 30 = _ := g.2.2.1 h6
          simp (disch := omega) [go_sem, e1]
          exact ⟨M.set hsz 7 (fun _ => h5), J.s7 v e g⟩
        · simp at ho; subst ho
          have h6 := hdep ⟨6, .data⟩ (by simp) rfl
          have h5 := M 6 (by decide) h6
          obtain ⟨v, e, g⟩ := J.d5 h5
          have e1 : get ss 30 = _ := g.2.2.1 h6
          simp (disch := omega) [go_sem, e1]
          exact ⟨M.set hsz 8 (fun _ => h5), J.s8 v e g⟩
        · simp at ho; subst ho
          have hle : n' + 1 + 12 ≤ sn := J.le
          simp (disch := omega) [go_sem]
          exact ⟨M.set hsz 9 (fun e => by omega), J.s9 hsz (by omega) hl⟩
        · simp at ho; subst ho
          have h9 := hdep ⟨9, .data⟩ (by simp) rfl
          have h7 := hdep ⟨7, .data⟩ (by simp) rfl
          have h5 := M 7 (by decide) h7
          obtain ⟨v, e, g⟩ := J.d5 h5
          have e1 : get ss 37 = _ := g.2.2.2.1 h7
          obtain ⟨e2, e3⟩ := J.d9 h9
          have e3 := e3 hl
          simp only at e2 e3
          have hle : n' + 1 + 12 ≤ sn := J.le
          have hs10 := J.s10 hsz (by omega) h9 v e g
          obtain ⟨a0, a1, a2, a3, b0, b1, b2, b3, c0, c1, c2, c3, d0, d1, d2, d3, f0, f1, f2, f3, rfl⟩ := chV g.1
          simp (disch := omega) [go_sem, e1, e2, e3]
          exact ⟨M.set hsz 10 (fun _ => h5), hs10⟩
        · simp at ho; subst ho
          have h8 := hdep ⟨8, .data⟩ (by simp) rfl
          have h5 := M 8 (by decide) h8
          obtain ⟨v, e, g⟩ := J.d5 h5
          have e1 : get ss 38 = _ := g.2.2.2.2.1 h8
          simp (disch := omega) [go_sem, e1]
          exact ⟨M.set hsz 11 (fun _ => h5), J.s11 v e g⟩
      · intro D s hsz hall J
        have hsz : D.size = 12 := hsz
        have hall : ∀ j, j < 12 → D.getD j false = true := fun j hj => getD_true (by omega) (hall j hj)
        obtain ⟨_, J⟩ := J
        obtain ⟨snt, ss, sh, sn⟩ := s
        have jnt : snt = 52 := J.nt
        subst jnt
        obtain ⟨v, e, hch, _, _, _, _, j10, j11⟩ := J.d5 (hall 5 (by omega))
        have g10 : get ss 10 = _ := (J.d9 (hall 9 (by omega))).1
        have b9 : sh (n' + 1 + 9) = _ := j10 (hall 10 (by omega))
        have g11 : get ss 11 = _ := j11 (hall 11 (by omega))
        have j2 : get ss 2 = _ := J.g2
        have j3 : get ss 3 = _ := J.g3
        have j4 : get ss 4 = _ := J.g4
        have jc : sh (n + 2) = _ := J.c4
        have jf : ∀ x, x < n → sh x = h x := J.fr
        have hle : n' + 1 + 12 ≤ sn := J.le
        clear J j10 j11 hall hsz k3 k4 k5
        replace jf : Hide _ := jf
        simp only [thenA]
        apply Hide.out hK; clear hK K
        refine ac_wk (st' := ⟨52, [(2, .fptr [.fslc nl fu s (a.map encO)]), (3, .fptr [.fslc nl2 fu2 s2 (b.map encO)]), (4, .ptr (n + 2) 0), (10, .ptr (n' + 1 + 9) 0), (11, e)], sh, sn⟩) (Wk.of ⟨j2, j3, j4, g10, g11, trivial⟩ (Sub.refl _)) ?_
        clear j2 j3 j4 g10 g11
        unfold ChPost at hch
        by_cases hfw : fewP (condsO a ++ condsO b) = true
        · rw [if_pos hfw] at hch
          simp only [AV.tup.injEq, List.cons.injEq, and_true] at hch
          obtain ⟨rfl, rfl⟩ := hch
          have hR3 : R = findO (candsP (condsO a ++ condsO b)) (difO a b) := by rw [hR2.out, if_pos hfw]
          clear hfw hR2
          replace hR3 : Hide _ := hR3
          have lens : ∀ j, (numsP j (condsO a ++ condsO b)).length ≤ 100000 := fun j => by have := length_numsP j (condsO a ++ condsO b); omega
          repeat' (first | (refine ac_seq_h fun K hK => ?_) | (refine ac_region_h fun K hK => ?_; simp (disch := omega) [go_sem, *]) | (apply Hide.out hK; clear hK K; try with_reducible dsimp only [thenA]) | (apply Hide.out hf; clear ht hf Kt Kf) | (refine ac_skip ?_; simp only [thenA]) | (refine ac_cond_h fun Kt Kf ht hf => ?_; simp (disch := omega) [go_sem, *]; try (refine ⟨fun hc => ?_, fun hc => ?_⟩ <;> try (exfalso; omega))))
          refine .inl ((k6.out _ _ _ _ _ (lens 0) (lens 1) (lens 2) (lens 3) (lens 4) _ _).mono fun r hh nn hp => ?_)
          obtain ⟨hn1, hx, hm⟩ := hp
          have jc2 : hh (n + 2) = some (.cells [iv .i64 0, iv .i64 0, iv .i64 0, iv .i64 0, iv .i64 0]) := by rw [hx _ (by omega)]; exact jc
          have jf2 : ∀ x, x < n → hh x = h x := fun x h2 => by rw [hx _ (by omega)]; exact jf.out x h2
          replace jf2 : Hide _ := jf2
          have hR4 : R = fndT ((tup [numsP 0 (condsO a ++ condsO b), numsP 1 (condsO a ++ condsO b), numsP 2 (condsO a ++ condsO b), numsP 3 (condsO a ++ condsO b), numsP 4 (condsO a ++ condsO b)]).find? (difO a b)) := hR3.out
          have h5 : ∀ t, (tup [numsP 0 (condsO a ++ condsO b), numsP 1 (condsO a ++ condsO b), numsP 2 (condsO a ++ condsO b), numsP 3 (condsO a ++ condsO b), numsP 4 (condsO a ++ condsO b)]).find? (difO a b) = some t → ∃ a b c d e, t = [a, b, c, d, e] := fun t ht => by
            obtain ⟨a, b, c, d, e, h1, _⟩ := of_mem_tup5 _ _ _ _ _ t (List.mem_of_find?_eq_some ht)
            exact ⟨a, b, c, d, e, h1⟩
          generalize (tup [numsP 0 (condsO a ++ condsO b), numsP 1 (condsO a ++ condsO b), numsP 2 (condsO a ++ condsO b), numsP 3 (condsO a ++ condsO b), numsP 4 (condsO a ++ condsO b)]).find? (difO a b) = X at hm hR4 h5
          clear hR3 k6 lens hx jc jf b9
          cases X with
          | some t =>
            obtain ⟨xa, xb, xc, xd, xe, rfl⟩ := h5 t rfl
            simp only [List.map_cons, List.map_nil] at hm
            subst hm
            clear h5
            have hR5 : R = (⟨xa, xb, xc, xd, xe⟩, false, 0) := hR4
            subst hR5
            clear hR4
            simp (disch := omega) [go_sem]
            repeat' (first | (refine ac_seq_h fun K hK => ?_) | (refine ac_region_h fun K hK => ?_; simp (disch := omega) [go_sem, *, upd_ne]) | (apply Hide.out hK; clear hK K; try with_reducible dsimp only [thenA]))
            refine ac_ret ?_
            try dsimp only [thenA, blockA]
            refine ⟨by simp, _, (by first | rfl | (simp (disch := omega) [go_sem] <;> rfl)), ?_⟩
            refine ret_id ⟨fun k hk => ?_, ?_, rfl, rfl, rfl⟩
            · simp (disch := omega) only [upd_ne]; exact jf2.out k hk
            · simp [go_sem, below, belowL, resVal]
          | none =>
            subst hm
            clear h5
            have hR5 : R = (⟨0, 0, 0, 0, 0⟩, true, 0) := hR4
            subst hR5
            clear hR4
            simp (disch := omega) [go_sem]
            repeat' (first | (refine ac_seq_h fun K hK => ?_) | (refine ac_region_h fun K hK => ?_; simp (disch := omega) [go_sem, *, upd_ne]) | (apply Hide.out hK; clear hK K; try with_reducible dsimp only [thenA]))
            refine ac_ret ?_
            try dsimp only [thenA, blockA]
            refine ⟨by simp, _, (by first | rfl | (simp (disch := omega) [go_sem] <;> rfl)), ?_⟩
            refine ret_id ⟨fun k hk => ?_, ?_, rfl, rfl, rfl⟩
            · simp (disch := omega) only [upd_ne]; exact jf2.out k hk
            · simp [go_sem, below, belowL, resVal]
        · rw [if_neg hfw] at hch
          obtain ⟨V, hch⟩ := hch
          simp only [AV.tup.injEq, List.cons.injEq, and_true] at hch
          obtain ⟨rfl, rfl⟩ := hch
          have hR3 : R = (⟨0, 0, 0, 0, 0⟩, false, 80) := by rw [hR2.out, if_neg hfw]
          subst hR3
          clear hfw hR2 b9 k6
          repeat' (first | (refine ac_seq_h fun K hK => ?_) | (refine ac_region_h fun K hK => ?_; simp (disch := omega) [go_sem, *]) | (apply Hide.out hK; clear hK K; try with_reducible dsimp only [thenA]) | (apply Hide.out ht; clear ht hf Kt Kf) | (refine ac_cond_h fun Kt Kf ht hf => ?_; simp (disch := omega) [go_sem, *]; try (refine ⟨fun hc => ?_, fun hc => ?_⟩ <;> try (exfalso; omega))))
          refine ac_ret ?_
          try dsimp only [thenA, blockA]
          refine ⟨by simp, _, (by first | rfl | (simp (disch := omega) [go_sem] <;> rfl)), ?_⟩
          refine ret_id ⟨fun k hk => ?_, ?_, rfl, rfl, rfl⟩
          · simp (disch := omega) only [upd_ne]; exact jf.out k hk
          · simp [go_sem, below, belowL, resVal]
end Go.AM
