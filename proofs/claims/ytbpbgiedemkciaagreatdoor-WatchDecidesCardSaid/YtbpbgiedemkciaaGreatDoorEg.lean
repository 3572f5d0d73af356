/- Orders: rows of conditions joined; the same for all facts, by the specification. Conditions: as each theorem says. -/
import Derived.Test.YtbpbgiedemkciaaGreatDoorEf
namespace Go.AM
open Go.Proofs Cw
set_option maxRecDepth 10000
set_option maxHeartbeats 4000000
theorem conditions60o (nl fu : Bool) (s : Nat) (l : List Ordr) (hnl : l = [] ∨ nl = false ∧ s = 7) (hl : l.length ≤ 1000000) : ∀ (h : AHeap) (n : Nat), ACalls Tryz.prog 60 [.fslc nl fu s (l.map encO)] h n fun r h' n' => ∃ m, n ≤ n' ∧ r = rowC m (l.map (·.cond)) ∧ (l.map (·.cond) ≠ [] → n ≤ m ∧ m < n' ∧ h' m = some (.cells (flatC (l.map (·.cond))))) ∧ ∀ x, x < n → h' x = h x := by
 intro h n
 refine ACalls.entry (by kernel_rfl) fun hb _ => zO Tryz.func60 rfl (by kernel_rfl) (by simp [Tryz.ntmps60]) ?_
 replace hnl : Hide _ := hnl
 repeat' (first | (refine zD fun K hK => ?_) | (refine zA fun K hK => ?_; simp (disch := omega) [go_sem, *, Tryz.ntmps60]) | (apply Hide.out hK; clear hK K; try with_reducible dsimp only [zC]) | (refine zG ?_))
 refine zc (fun s' => ∃ (i n' m : Nat) (H : AHeap), n ≤ n' ∧ i ≤ l.length ∧ ((l.take i).map (·.cond) ≠ [] → n ≤ m ∧ m < n' ∧ H m = some (.cells (flatC ((l.take i).map (·.cond))))) ∧ (∀ x, x < n → H x = h x) ∧ s' = ⟨19, [(3, rowC m ((l.take i).map (·.cond))), (6, .fslc nl fu s (l.map encO)), (7, iv .i64 l.length), (8, iv .i64 i)], H, n'⟩)
     (fun s' => l.length - (intAt s' 8).toNat) ?_ ?_
 · have e0 : rowC 0 ((l.take 0).map (·.cond)) = .fslc true true 0 [] := by simp [rowC]
   refine zb ?_ (Sub.refl _) ⟨0, _, 0, _, ?_, ?_, fun e => (e rfl).elim, fun _ _ => rfl, rfl⟩
   · rw [e0]; simp [go_sem]
   · omega
   · omega
 · rintro s' ⟨i, n', m, H, hn', hi, hm, hfr, rfl⟩
   have hlt2 : ((l.take i).map (·.cond)).length = i := by rw [List.length_map, List.length_take]; omega
   obtain ⟨cs, hcs⟩ : ∃ cs, cs = (l.take i).map (·.cond) := ⟨_, rfl⟩
   rw [← hcs] at hm hlt2 ⊢
   replace hfr : Hide _ := hfr
   by_cases hlt : i < l.length
   · obtain ⟨⟨nm, rk, k, f, o, nn, nl2, fu2, s2, ks⟩, hx⟩ : ∃ o, l[i] = o := ⟨_, rfl⟩
     have hne : l ≠ [] := fun e => by rw [e] at hlt; simp at hlt
     obtain ⟨rfl, rfl⟩ := hnl.out.resolve_left hne
     have hex : encO l[i] = .agg [sv nm, iv .i64 rk, iv .i64 k, iv .i64 f, iv .i64 o, iv .i64 nn, .fslc nl2 fu2 s2 (encL ks)] := by rw [hx]; rfl
     have hcs2 : (l.take (i + 1)).map (·.cond) = cs ++ [.mk k f o nn nl2 fu2 s2 ks] := by
       rw [List.take_succ_eq_append_getElem hlt, List.map_append, hx, ← hcs]; rfl
     have hap := fun (nm : Nat) (h0 : AHeap) (b c : Bool) (he : cs ≠ [] → h0 m = some (.cells (flatC cs))) => ap_rowC m nm cs (.mk k f o nn nl2 fu2 s2 ks) h0 b c he (by omega)
     simp only [encC] at hap
     replace hx : Hide _ := hx
     replace hcs2 : Hide _ := hcs2
     replace hcs : Hide _ := hcs
     replace hm : Hide _ := hm
     clear hne
     repeat' (first | (refine zD fun K hK => ?_) | (refine zA fun K hK => ?_; simp (disch := omega) [go_sem, *, zH, zL]) | (apply Hide.out hK; clear hK K; try with_reducible dsimp only [zC]) | (apply Hide.out ht; clear ht hf Kt Kf) | (refine zG ?_) | (refine zI ?_; simp only [zC]) | (refine zE fun Kt Kf ht hf => ?_; simp (disch := omega) [go_sem, *]; try (refine ⟨fun hc => ?_, fun hc => ?_⟩ <;> try (exfalso; omega))))
     have he : cs ≠ [] → n ≤ m ∧ m < n' ∧ H m = some (.cells (flatC cs)) := hm.out
     rw [hap _ _ _ _ (fun e0 => by obtain ⟨m1, m2, m3⟩ := he e0; simpa (disch := omega) [zB] using m3)]
     clear he hap
     simp (disch := omega) [go_sem]
     repeat' (first | (refine zA fun K hK => ?_; simp (disch := omega) [go_sem, *, zK]) | (apply Hide.out hK; clear hK K; try with_reducible dsimp only [zC]))
     have er : rowC (n' + 1 + 4 + 4) ((l.take (i + 1)).map (·.cond)) = .slc (n' + 1 + 4 + 4) 0 (i + 1) 5 := by rw [hcs2.out, rowC, if_neg (by simp), List.length_append, hlt2]; rfl
     refine zW ?_ (Sub.refl _) ⟨i + 1, _, n' + 1 + 4 + 4, _, by omega, by omega, fun _ => ⟨by omega, by omega, by rw [hcs2.out]; exact apC_new _ _ _ _ _⟩, fun x hx => ?_, rfl⟩ (by simp [intAt, go_sem]; omega)
     · rw [er]; simp (disch := omega) [go_sem]
     · rw [apC_old _ _ _ _ _ _ (by omega) (fun e0 => by have := (hm.out e0).1; omega)]
       try rw [zB _ _ _ _ (by omega), zB _ _ _ _ (by omega)]
       exact hfr.out x hx
   · have hii : i = l.length := by omega
     rw [hii, List.take_length] at hcs
     replace hcs : Hide _ := hcs
     replace hm : Hide _ := hm
     repeat' (first | (refine zD fun K hK => ?_) | (refine zA fun K hK => ?_; simp (disch := omega) [go_sem, *]) | (apply Hide.out hK; clear hK K; try with_reducible dsimp only [zC]) | (apply Hide.out hf; clear ht hf Kt Kf) | (clear hK K; apply Hide.out hK; clear hK K; try with_reducible dsimp only [zC]) | (refine zS ?_; simp only [zC, zF, if_true]) | (refine zE fun Kt Kf ht hf => ?_; simp (disch := omega) [go_sem, *]; try (refine ⟨fun hc => ?_, fun hc => ?_⟩ <;> try (exfalso; omega))))
     refine zM ?_
     try dsimp only [zC, zF]
     refine ⟨by simp, _, (by first | rfl | (simp (disch := omega) [go_sem, zB] <;> rfl)), ?_⟩
     show RetOk _ _ (rowC m cs) _ _
     have hcs2 := hcs.out
     subst hcs2
     exact zJ ⟨m, by omega, rfl, fun e => by obtain ⟨e1, e2, e3⟩ := hm.out e; exact ⟨e1, by omega, e3⟩, hfr.out⟩
theorem whens64o (nl fu : Bool) (s : Nat) (l : List Ordr) (hnl : l = [] ∨ nl = false ∧ s = 7) (hl : l.length ≤ 1000000) : ∀ (h : AHeap) (n : Nat), ACalls Tryz.prog 64 [.fslc nl fu s (l.map encO)] h n fun r h' n' => ∃ m, n ≤ n' ∧ r = rowC m (l.map (·.cond)) ∧ (l.map (·.cond) ≠ [] → n ≤ m ∧ m < n' ∧ h' m = some (.cells (flatC (l.map (·.cond))))) ∧ ∀ x, x < n → h' x = h x := by
 intro h n
 refine ACalls.entry (by kernel_rfl) fun hb _ => zO Tryz.func64 rfl (by kernel_rfl) (by simp [Tryz.ntmps64]) ?_
 replace hnl : Hide _ := hnl
 repeat' (first | (refine zD fun K hK => ?_) | (refine zA fun K hK => ?_; simp (disch := omega) [go_sem, *, Tryz.ntmps64]) | (apply Hide.out hK; clear hK K; try with_reducible dsimp only [zC]) | (refine zG ?_))
 refine zc (fun s' => ∃ (i n' m : Nat) (H : AHeap), n ≤ n' ∧ i ≤ l.length ∧ ((l.take i).map (·.cond) ≠ [] → n ≤ m ∧ m < n' ∧ H m = some (.cells (flatC ((l.take i).map (·.cond))))) ∧ (∀ x, x < n → H x = h x) ∧ s' = ⟨20, [(0, .fslc nl fu s (l.map encO)), (3, rowC m ((l.take i).map (·.cond))), (4, iv .i64 i)], H, n'⟩)
     (fun s' => l.length - (intAt s' 4).toNat) ?_ ?_
 · have e0 : rowC 0 ((l.take 0).map (·.cond)) = .fslc true true 0 [] := by simp [rowC]
   refine zb ?_ (Sub.refl _) ⟨0, _, 0, _, ?_, ?_, fun e => (e rfl).elim, fun _ _ => rfl, rfl⟩
   · rw [e0]; simp [go_sem]
   · omega
   · omega
 · rintro s' ⟨i, n', m, H, hn', hi, hm, hfr, rfl⟩
   have hlt2 : ((l.take i).map (·.cond)).length = i := by rw [List.length_map, List.length_take]; omega
   obtain ⟨cs, hcs⟩ : ∃ cs, cs = (l.take i).map (·.cond) := ⟨_, rfl⟩
   rw [← hcs] at hm hlt2 ⊢
   replace hfr : Hide _ := hfr
   by_cases hlt : i < l.length
   · obtain ⟨⟨nm, rk, k, f, o, nn, nl2, fu2, s2, ks⟩, hx⟩ : ∃ o, l[i] = o := ⟨_, rfl⟩
     have hne : l ≠ [] := fun e => by rw [e] at hlt; simp at hlt
     obtain ⟨rfl, rfl⟩ := hnl.out.resolve_left hne
     have hex : encO l[i] = .agg [sv nm, iv .i64 rk, iv .i64 k, iv .i64 f, iv .i64 o, iv .i64 nn, .fslc nl2 fu2 s2 (encL ks)] := by rw [hx]; rfl
     have hcs2 : (l.take (i + 1)).map (·.cond) = cs ++ [.mk k f o nn nl2 fu2 s2 ks] := by
       rw [List.take_succ_eq_append_getElem hlt, List.map_append, hx, ← hcs]; rfl
     have hap := fun (nm : Nat) (h0 : AHeap) (b c : Bool) (he : cs ≠ [] → h0 m = some (.cells (flatC cs))) => ap_rowC m nm cs (.mk k f o nn nl2 fu2 s2 ks) h0 b c he (by omega)
     simp only [encC] at hap
     replace hx : Hide _ := hx
     replace hcs2 : Hide _ := hcs2
     replace hcs : Hide _ := hcs
     replace hm : Hide _ := hm
     clear hne
     repeat' (first | (refine zD fun K hK => ?_) | (refine zA fun K hK => ?_; simp (disch := omega) [go_sem, *, zH, zL]) | (apply Hide.out hK; clear hK K; try with_reducible dsimp only [zC]) | (apply Hide.out ht; clear ht hf Kt Kf) | (refine zG ?_) | (refine zI ?_; simp only [zC]) | (refine zE fun Kt Kf ht hf => ?_; simp (disch := omega) [go_sem, *]; try (refine ⟨fun hc => ?_, fun hc => ?_⟩ <;> try (exfalso; omega))))
     have he : cs ≠ [] → n ≤ m ∧ m < n' ∧ H m = some (.cells (flatC cs)) := hm.out
     rw [hap _ _ _ _ (fun e0 => by obtain ⟨m1, m2, m3⟩ := he e0; simpa (disch := omega) [zB] using m3)]
     clear he hap
     simp (disch := omega) [go_sem]
     repeat' (first | (refine zA fun K hK => ?_; simp (disch := omega) [go_sem, *, zK]) | (apply Hide.out hK; clear hK K; try with_reducible dsimp only [zC]))
     have er : rowC (n' + 4 + 7) ((l.take (i + 1)).map (·.cond)) = .slc (n' + 4 + 7) 0 (i + 1) 5 := by rw [hcs2.out, rowC, if_neg (by simp), List.length_append, hlt2]; rfl
     refine zW ?_ (Sub.refl _) ⟨i + 1, _, n' + 4 + 7, _, by omega, by omega, fun _ => ⟨by omega, by omega, by rw [hcs2.out]; exact apC_new _ _ _ _ _⟩, fun x hx => ?_, rfl⟩ (by simp [intAt, go_sem]; omega)
     · rw [er]; simp (disch := omega) [go_sem]
     · rw [apC_old _ _ _ _ _ _ (by omega) (fun e0 => by have := (hm.out e0).1; omega)]
       try rw [zB _ _ _ _ (by omega), zB _ _ _ _ (by omega)]
       exact hfr.out x hx
   · have hii : i = l.length := by omega
     rw [hii, List.take_length] at hcs
     replace hcs : Hide _ := hcs
     replace hm : Hide _ := hm
     repeat' (first | (refine zD fun K hK => ?_) | (refine zA fun K hK => ?_; simp (disch := omega) [go_sem, *]) | (apply Hide.out hK; clear hK K; try with_reducible dsimp only [zC]) | (apply Hide.out hf; clear ht hf Kt Kf) | (clear hK K; apply Hide.out hK; clear hK K; try with_reducible dsimp only [zC]) | (refine zS ?_; simp only [zC, zF, if_true]) | (refine zE fun Kt Kf ht hf => ?_; simp (disch := omega) [go_sem, *]; try (refine ⟨fun hc => ?_, fun hc => ?_⟩ <;> try (exfalso; omega))))
     refine zM ?_
     try dsimp only [zC, zF]
     refine ⟨by simp, _, (by first | rfl | (simp (disch := omega) [go_sem, zB] <;> rfl)), ?_⟩
     show RetOk _ _ (rowC m cs) _ _
     have hcs2 := hcs.out
     subst hcs2
     exact zJ ⟨m, by omega, rfl, fun e => by obtain ⟨e1, e2, e3⟩ := hm.out e; exact ⟨e1, by omega, e3⟩, hfr.out⟩
end Go.AM
namespace Go.AM
open Go.Proofs Cw
set_option maxRecDepth 10000
set_option maxHeartbeats 4000000
theorem flatC_app (a : List Cnd) : ∀ b : List Cnd, flatC (a ++ b) = flatC a ++ flatC b
 | [] => by simp [flatC, encL, flat]
 | x :: r => by
   have h1 := flatC_app (a ++ [x]) r
   have h2 : a ++ x :: r = (a ++ [x]) ++ r := by simp
   have h3 : flatC (x :: r) = cellsOf (encC x) ++ flatC r := by simp [flatC, encL, flat]
   rw [h2, h1, flatC_snoc, h3, List.append_assoc]
termination_by b => b.length
theorem ap_CC (m m2 nm n : Nat) (a b : List Cnd) (H : AHeap) (hm : a ≠ [] → n ≤ m ∧ H m = some (.cells (flatC a))) (hm2 : b ≠ [] → H m2 = some (.cells (flatC b))) (hn : n ≤ nm) (la : a.length ≤ 100000) (lb : b.length ≤ 100000) :
   ∃ m3 H3, aAppend Tryz.prog nm 22 (rowC m a) (rowC m2 b) H = some (rowC m3 (a ++ b), H3) ∧ (m3 = m ∨ m3 = nm) ∧ (a ++ b ≠ [] → n ≤ m3 ∧ H3 m3 = some (.cells (flatC (a ++ b)))) ∧ ∀ x, x < n → H3 x = H x := by
 have fa := flatC_len a
 have fb := flatC_len b
 unfold rowC
 by_cases hb : b = []
 · subst hb
   by_cases ha : a = []
   · subst ha
     exact ⟨nm, H, by simp [aAppend, eltOf22, szOf24, byOf24, zerOf24, srcCells, cellsOf, AV.scalar], .inr rfl, fun e => absurd rfl e, fun _ _ => rfl⟩
   · obtain ⟨h1, h2⟩ := hm ha
     refine ⟨m, H.upd m (some (.cells (flatC a))), ?_, .inl rfl, fun _ => ⟨h1, by rw [zN, List.append_nil]⟩, fun x hx => zB _ _ _ _ (by omega)⟩
     simp [aAppend, eltOf22, szOf24, byOf24, zerOf24, srcCells, cellsOf, AV.scalar, ha, h2, fa, splice]
 · have h3 := hm2 hb
   have pb : 0 < b.length := List.length_pos_iff.2 hb
   by_cases ha : a = []
   · subst ha
     refine ⟨nm, H.upd nm (some (.cells (flatC b))), ?_, .inr rfl, fun _ => ⟨hn, by rw [zN, List.nil_append]⟩, fun x hx => zB _ _ _ _ (by omega)⟩
     simp [aAppend, eltOf22, szOf24, byOf24, zerOf24, srcCells, cellsOf, AV.scalar, hb, h3, fb, flat]
     exact ⟨by omega, by rw [← fb, List.take_length]⟩
   · obtain ⟨h1, h2⟩ := hm ha
     refine ⟨nm, (H.upd m none).upd nm (some (.cells (flatC a ++ flatC b))), ?_, .inr rfl, fun _ => ⟨hn, by rw [zN, flatC_app]⟩, fun x hx => by rw [zB _ _ _ _ (by omega), zB _ _ _ _ (by omega)]⟩
     have e1 : ¬ (a.length + b.length) * 5 ≤ a.length * 5 := by omega
     simp [aAppend, eltOf22, szOf24, byOf24, zerOf24, srcCells, cellsOf, AV.scalar, ha, hb, h2, h3, fa, fb, e1]
     exact ⟨by omega, by rw [← fb, List.take_length]⟩
theorem numbers_own (n m : Nat) (cs : List Cnd) (hw : wfL cs) (hok : okL cs = true) (ht : totL cs ≤ 1000) (H : AHeap) (nn : Nat) (hm : cs ≠ [] → n ≤ m ∧ H m = some (.cells (flatC cs))) :
   ACalls Tryz.prog 63 [rowC m cs] H nn fun r h' n' => r = .tup [encN (numsP 0 cs) (numsP 1 cs) (numsP 2 cs) (numsP 3 cs) (numsP 4 cs), bv (fewP cs)] ∧ (∀ x, x < n → h' x = H x) ∧ n' = nn := by
 have e : ∀ nl fu s, (cs = [] ∨ nl = false ∧ s = 5) → APure Tryz.prog 63 [.fslc nl fu s (encL cs)] (.tup [encN (numsP 0 cs) (numsP 1 cs) (numsP 2 cs) (numsP 3 cs) (numsP 4 cs), bv (fewP cs)]) := fun nl fu s hh => by
   have k := numbers_spec cs nl fu s hh hw hok ht
   rw [few_same _ hok, nums_same 0 _ hok, nums_same 1 _ hok, nums_same 2 _ hok, nums_same 3 _ hok, nums_same 4 _ hok] at k
   exact k
 unfold rowC
 by_cases h0 : cs = []
 · subst h0
   exact (e true true 0 (.inl rfl) H nn).mono fun r h' n' ⟨e1, e2, e3⟩ => ⟨e1, fun _ _ => by rw [e2], e3⟩
 · rw [if_neg h0]
   obtain ⟨h1, h2⟩ := hm h0
   have h3 := ACalls.fzArg (P := Tryz.prog) (f := 63) (n := nn) (K := fun r h' n' => r = .tup [encN (numsP 0 cs) (numsP 1 cs) (numsP 2 cs) (numsP 3 cs) (numsP 4 cs), bv (fewP cs)] ∧ (∀ x, x < n → h' x = H x) ∧ n' = nn) true (fun h => by cases h) (len := cs.length) (s := 5) h2 (by rw [flatC_len]; exact Nat.le_refl _)
   rw [elemsC] at h3
   refine h3 ((e false false 5 (.inr ⟨rfl, rfl⟩) _ nn).mono fun r h' n' ⟨e1, e2, e3⟩ => ⟨e1, fun x hx => by rw [e2, zB _ _ _ _ (by omega)], e3⟩)
end Go.AM
namespace Go.AM
open Go.Proofs Cw
set_option maxRecDepth 10000
set_option maxHeartbeats 4000000
def difO (a b : List Ordr) (t : List Int) : Bool := !((nameG a (toFs t)).toList == (nameG b (toFs t)).toList)
def fndT : Option (List Int) → Fs × Bool × Int
 | some t => (toFs t, false, 0)
 | none => (⟨0, 0, 0, 0, 0⟩, true, 0)
def findO (L : List (List Int)) (p : List Int → Bool) : Fs × Bool × Int := fndT ((tup L).find? p)
def sameO (a b : List Ordr) : Fs × Bool × Int :=
 if chk a ≠ 0 then (⟨0, 0, 0, 0, 0⟩, false, chk a) else if chk b ≠ 0 then (⟨0, 0, 0, 0, 0⟩, false, chk b)
 else if fewP (ze a ++ ze b) then findO (candsP (ze a ++ ze b)) (difO a b)
 else (⟨0, 0, 0, 0, 0⟩, false, 80)
theorem clo67 (nl fu : Bool) (s : Nat) (a : List Ordr) (ha : a = [] ∨ nl = false ∧ s = 7) (hwa : okO a) (hla : a.length ≤ 1000000) (nl2 fu2 : Bool) (s2 : Nat) (b : List Ordr) (hb : b = [] ∨ nl2 = false ∧ s2 = 7) (hwb : okO b) (hlb : b.length ≤ 1000000) (n0 : Nat) (h0 : AHeap) :
   Asks n0 (fun _ h => ∀ x, x < n0 → h x = h0 x) (difO a b) 67 [.fptr [.fslc nl fu s (a.map encO)], .fptr [.fslc nl2 fu2 s2 (b.map encO)]] := by
 intro done xs h n hxs hn hd
 obtain ⟨x0, x1, x2, x3, x4, rfl⟩ : ∃ a b c d e, xs = [a, b, c, d, e] := by
   match xs, hxs with
   | [a, b, c, d, e], _ => exact ⟨a, b, c, d, e, rfl⟩
 have ka := given68 nl fu s a ha hwa hla ⟨x0, x1, x2, x3, x4⟩
 have kb := given68 nl2 fu2 s2 b hb hwb hlb ⟨x0, x1, x2, x3, x4⟩
 have e : difO a b [x0, x1, x2, x3, x4] = (!((nameG a ⟨x0, x1, x2, x3, x4⟩).toList == (nameG b ⟨x0, x1, x2, x3, x4⟩).toList)) := rfl
 rw [e]
 generalize nameG a ⟨x0, x1, x2, x3, x4⟩ = x at *
 generalize nameG b ⟨x0, x1, x2, x3, x4⟩ = y at *
 have key : ACalls Tryz.prog 67 [.agg ([x0, x1, x2, x3, x4].map (iv .i64)), .fptr [.fslc nl fu s (a.map encO)], .fptr [.fslc nl2 fu2 s2 (b.map encO)]] h n fun r h' n' => r = bv (!(x.toList == y.toList)) ∧ h' = h ∧ n' = n := by
   refine ACalls.pure (ACalls.entry (by kernel_rfl) fun hb _ => zO Tryz.func67 rfl (by kernel_rfl) (by simp [Tryz.ntmps67]) ?_)
   clear hd ha hb hwa hwb
   generalize List.map encO a = A at *
   generalize List.map encO b = B at *
   simp only [List.map_cons, List.map_nil] at *
   repeat' (first | (refine zD fun K hK => ?_) | (refine zA fun K hK => ?_; simp (disch := omega) [go_sem, *, Tryz.ntmps67 ]) | (refine ac_quiet_h mixed (by kernel_rfl) fun K hK => ?_; simp (disch := omega) [go_sem, * ]) | (refine aQ_c (by simp [go_sem]) (by simp (disch := omega) [go_sem, * ]; first | exact rfl | exact ⟨rfl, rfl, rfl⟩ | exact (ka).gcall ⟨rfl, rfl, rfl⟩ | exact (kb).gcall ⟨rfl, rfl, rfl⟩) ?_; try simp only [pS_some]) | (refine aQ_end ?_) | (apply Hide.out hK; clear hK K; try with_reducible dsimp only [zC]))
   (refine zM ?_; try dsimp only [zC, zF]; refine ⟨by simp, _, (by first | rfl | (simp (disch := omega) [go_sem, zB] <;> rfl)), ?_⟩; refine zJ ⟨fun k hk => (by first | rfl | (repeat rw [zB _ _ _ _ (by omega)])), (by simp [go_sem, below]), (by simp [go_sem] <;> omega), by simp, by simp⟩)
 exact key.mono fun r h' n' ⟨e1, e2, e3⟩ => by
   subst e2; subst e3
   exact ⟨e1, Nat.le_refl _, fun _ _ _ => rfl, hd⟩
theorem first67 (nl fu : Bool) (s : Nat) (a : List Ordr) (ha : a = [] ∨ nl = false ∧ s = 7) (hwa : okO a) (hla : a.length ≤ 1000000) (nl2 fu2 : Bool) (s2 : Nat) (b : List Ordr) (hb : b = [] ∨ nl2 = false ∧ s2 = 7) (hwb : okO b) (hlb : b.length ≤ 1000000) (A B C D E : List Int) (lA : A.length ≤ 100000) (lB : B.length ≤ 100000) (lC : C.length ≤ 100000) (lD : D.length ≤ 100000) (lE : E.length ≤ 100000)
   (H : AHeap) (nn : Nat) :
   ACalls Tryz.prog 61 [.agg [encI A, encI B, encI C, encI D, encI E], .func (.func 67) [] [.fptr [.fslc nl fu s (a.map encO)], .fptr [.fslc nl2 fu2 s2 (b.map encO)]]] H nn fun r h' n' => nn ≤ n' ∧ (∀ x, x < nn → h' x = H x) ∧ match (tup [A, B, C, D, E]).find? (difO a b) with
     | some t => r = .tup [.agg (t.map (iv .i64)), bv true]
     | none => r = .tup [.agg [iv .i64 0, iv .i64 0, iv .i64 0, iv .i64 0, iv .i64 0], bv false] := by
 refine (first_spec A B C D E 67 _ lA lB lC lD lE (fun _ h' => ∀ x, x < nn → h' x = H x) _ nn H (fun d h1 h2 hx hd x hx2 => (hx x hx2).trans (hd x hx2))
   (clo67 nl fu s a ha hwa hla nl2 fu2 s2 b hb hwb hlb nn H) (fun x _ => rfl)).mono fun r h' n' hp => ?_
 obtain ⟨h1, hm⟩ := hp
 revert hm
 cases (tup [A, B, C, D, E]).find? (difO a b) with
 | some t => rintro ⟨e, d', hd⟩; exact ⟨h1, hd, e⟩
 | none => rintro ⟨e, hd⟩; exact ⟨h1, hd, e⟩
end Go.AM
namespace Go.AM
open Go.Proofs Cw
set_option maxRecDepth 10000
set_option maxHeartbeats 4000000
theorem totL_app : ∀ a b : List Cnd, totL (a ++ b) = totL a + totL b
 | [], b => by simp [totL]
 | x :: r, b => by simp only [List.cons_append, totL, totL_app r b]; omega
theorem okL_app : ∀ a b : List Cnd, okL (a ++ b) = (okL a && okL b)
 | [], b => by simp [okL]
 | x :: r, b => by simp only [List.cons_append, okL, okL_app r b, Bool.and_assoc]
theorem wfL_app : ∀ {a b : List Cnd}, wfL a → wfL b → wfL (a ++ b)
 | [], _, _, h => h
 | _ :: _, _, h, h2 => ⟨h.1, wfL_app h.2 h2⟩
theorem both_ok {a b : List Ordr} (hwa : wfO a) (hwb : wfO b) (h1 : chk a = 0) (h2 : chk b = 0) (la : a.length ≤ 6) (lb : b.length ≤ 6) : wfL (ze a ++ ze b) ∧ okL (ze a ++ ze b) = true ∧ totL (ze a ++ ze b) ≤ 720 := by
 have oa := (chk_zero h1).1
 have ob := (chk_zero h2).1
 refine ⟨wfL_app (wfL_of a hwa) (wfL_of b hwb), by rw [okL_app, okL_of a (all_okO hwa oa), okL_of b (all_okO hwb ob)]; rfl, ?_⟩
 rw [totL_app]
 have := totL_le a 60 (all_60 oa)
 have := totL_le b 60 (all_60 ob)
 omega
theorem rSameOrders27 (nl fu : Bool) (s : Nat) (a : List Ordr) (ha : a = [] ∨ nl = false ∧ s = 7) (hwa : wfO a) (hfa : fewO a = true) (nl2 fu2 : Bool) (s2 : Nat) (b : List Ordr) (hb : b = [] ∨ nl2 = false ∧ s2 = 7) (hwb : wfO b) (hfb : fewO b = true) :
   APure Tryz.prog 27 [.fslc nl fu s (a.map encO), .fslc nl2 fu2 s2 (b.map encO)] (outDP (sameO a b)) := by
 intro h n
 have la0 := few_len hfa
 have lb0 := few_len hfb
 have hla : a.length ≤ 1000000 := by omega
 have hlb : b.length ≤ 1000000 := by omega
 have k1 := check57 nl fu s a ha hwa (few_sm hfa) hla
 have k2 := check57 nl2 fu2 s2 b hb hwb (few_sm hfb) hlb
 refine ACalls.pure (ACalls.entry (by kernel_rfl) fun hbb _ => zO Tryz.func27 rfl (by kernel_rfl) (by simp [Tryz.ntmps27]) ?_)
 obtain ⟨R, hR⟩ : ∃ R, R = sameO a b := ⟨_, rfl⟩
 rw [← hR]
 replace hR : Hide _ := hR
 by_cases h1 : chk a = 0
 · by_cases h2 : chk b = 0
   · rw [h1] at k1
     rw [h2] at k2
     have a30 := (chk_zero h1).2
     have b30 := (chk_zero h2).2
     have la6 : a.length ≤ 6 := by omega
     have lb6 : b.length ≤ 6 := by omega
     obtain ⟨qw, qo, qt⟩ := both_ok hwa hwb h1 h2 la6 lb6
     have oka := all_okO hwa (chk_zero h1).1
     have okb := all_okO hwb (chk_zero h2).1
     have k3 := whens64o nl fu s a ha hla
     have k4 := whens64o nl2 fu2 s2 b hb hlb
     have k5 := fun m => numbers_own (n + 1) m (ze a ++ ze b) qw qo (by omega)
     have k6 := named69 nl fu s a ha oka hla
     have k7 := named69 nl2 fu2 s2 b hb okb hlb
     have hR2 : R = if fewP (ze a ++ ze b) then findO (candsP (ze a ++ ze b)) (difO a b) else (⟨0, 0, 0, 0, 0⟩, false, 80) := by rw [hR.out, sameO, if_neg (by simpa using h1), if_neg (by simpa using h2)]
     have lca : (ze a).length ≤ 100000 := by rw [ze, List.length_map]; omega
     have lcb : (ze b).length ≤ 100000 := by rw [ze, List.length_map]; omega
     have hap := fun (m m2 nm : Nat) (H : AHeap) => ap_CC m m2 nm (n + 1) (ze a) (ze b) H
     replace hR : Hide _ := trivial
     replace k3 : Hide _ := k3
     replace k4 : Hide _ := k4
     replace k5 : Hide _ := k5
     replace k6 : Hide _ := k6
     replace k7 : Hide _ := k7
     replace hR2 : Hide _ := hR2
     replace hap : Hide _ := hap
     clear oka okb a30 b30 la0 lb0 hwa hwb hfa hfb h1 h2 qo qw ha hb
     repeat' (first | (refine zD fun K hK => ?_) | (refine zA fun K hK => ?_; simp (disch := omega) [go_sem, *, Tryz.ntmps27 ]) | (apply Hide.out hK; clear hK K; try with_reducible dsimp only [zC]) | (apply Hide.out hf; clear ht hf Kt Kf) | (with_reducible refine APure.gcall (k1) ?_; try simp (disch := omega) [go_sem, * ]) | (with_reducible refine APure.gcall (k2) ?_; try simp (disch := omega) [go_sem, * ]) | (refine zI ?_; simp only [zC]) | (refine zE fun Kt Kf ht hf => ?_; simp (disch := omega) [go_sem, * ]; try (refine ⟨fun hc => ?_, fun hc => ?_⟩ <;> try (exfalso; omega))))
     refine .inl ((k3.out _ _).mono fun r h3 n3 hp => ?_)
     obtain ⟨m3, hn3, rfl, hm3, hx3⟩ := hp
     replace hm3 : Hide _ := hm3
     replace hx3 : Hide _ := hx3
     replace k3 : Hide _ := trivial
     repeat' (first | (with_reducible show nextK _ _ _ _ _ _ _; simp (disch := omega) [go_sem, *]))
     refine .inl ((k4.out _ _).mono fun r h4 n4 hp => ?_)
     obtain ⟨m4, hn4, rfl, hm4, hx4⟩ := hp
     replace hm4 : Hide _ := hm4
     replace hx4 : Hide _ := hx4
     replace k4 : Hide _ := trivial
     repeat' (first | (with_reducible show nextK _ _ _ _ _ _ _; simp (disch := omega) [go_sem, *]))
     have q0 : h4 n = some (.cells [iv .i64 0, iv .i64 0, iv .i64 0, iv .i64 0, iv .i64 0]) := by rw [hx4.out n (by omega), hx3.out n (by omega), zN]
     have qf : ∀ x, x < n → h4 x = h x := fun x hx => by rw [hx4.out x (by omega), hx3.out x (by omega), zB _ _ _ _ (by omega)]
     obtain ⟨m5, H5, e5, hmm, hm5, hx5⟩ := hap.out m3 m4 (n + 3 + 4 + 4 + 2 + 2 + 4) h4 (fun e => by obtain ⟨e1, e2, e3⟩ := hm3.out e; exact ⟨by omega, by rw [hx4.out _ e2]; exact e3⟩) (fun e => (hm4.out e).2.2) (by omega) lca lcb
     have e6 : aAppend Tryz.prog (n + 3 + 4 + 4 + 2 + 2 + 4) 22 (rowC m3 (List.map (fun x => x.cond) a)) (rowC m4 (List.map (fun x => x.cond) b)) h4 = some (rowC m5 (ze a ++ ze b), H5) := e5
     rw [e6]
     have q1 : H5 n = some (.cells [iv .i64 0, iv .i64 0, iv .i64 0, iv .i64 0, iv .i64 0]) := by rw [hx5 n (by omega)]; exact q0
     have qg : ∀ x, x < n → H5 x = h x := fun x hx => by rw [hx5 x (by omega)]; exact qf x hx
     clear e5 e6 hx5 qf q0 hm3 hm4 hx3 hx4 hap k3 k4
     replace hm5 : Hide _ := hm5
     replace qg : Hide _ := qg
     simp (disch := omega) [go_sem]
     repeat' (first | (refine zD fun K hK => ?_) | (refine zA fun K hK => ?_; simp (disch := omega) [go_sem, *, zK, zB, mk3_true, flatten_replicate_one, stepK_if, zH, zV, zL, ile_false]) | (refine aQ_c (by simp [go_sem]) (by simp (disch := omega) [go_sem, *]; first | exact rfl | exact ⟨rfl, rfl, rfl⟩) ?_; try simp only [pS_some, pS_none]) | (refine aQ_c (by simp [go_sem]) (by (try simp (disch := omega) [go_sem, *]); first | exact rfl | exact ⟨rfl, rfl, rfl⟩) ?_; try simp only [pS_some, pS_none]) | (refine aQ_end ?_) | (apply Hide.out hK; clear hK K; try with_reducible dsimp only [zC]) | (apply Hide.out ht; clear ht hf Kt Kf) | (apply Hide.out hf; clear ht hf Kt Kf) | (clear hK K; apply Hide.out hK; clear hK K; try with_reducible dsimp only [zC]) | (clear hK K; clear hK K; apply Hide.out hK; clear hK K; try with_reducible dsimp only [zC]) | (refine zG ?_) | (refine zI ?_; simp only [zC, zF]) | (refine zS ?_; simp only [zC, zF, if_true, if_false, Nat.reduceEqDiff]) | (with_reducible show nextK _ _ _ _ _ _ _; simp (disch := omega) [go_sem, *, zK, zB, mk3_true, flatten_replicate_one, stepK_if, zH, zV, zL, ile_false]) | (refine wantK_split (fun hc => ?_) (fun hc => ?_) <;> (try simp only [Bool.not_eq_true', Bool.not_eq_false', Bool.not_eq_eq_eq_not, Bool.not_true, Bool.not_false, decide_eq_true_eq, decide_eq_false_iff_not, Int.not_lt, Int.not_le] at hc) <;> (try (exfalso; omega)) <;> (try simp (disch := omega) [go_sem, *, zK, zB, mk3_true, flatten_replicate_one, stepK_if, zH, zV, zL, ile_false])) | (refine zE fun Kt Kf ht hf => ?_; simp (disch := omega) [go_sem, *, zK, zB, mk3_true, flatten_replicate_one, stepK_if, zH, zV, zL, ile_false]; try (refine ⟨fun hc => ?_, fun hc => ?_⟩ <;> try (exfalso; omega))))
     refine .inl ((k5.out m5 H5 _ hm5.out).mono fun r h6 n6 hp => ?_)
     obtain ⟨rfl, hx6, rfl⟩ := hp
     have q2 : h6 n = some (.cells [iv .i64 0, iv .i64 0, iv .i64 0, iv .i64 0, iv .i64 0]) := by rw [hx6 n (by omega)]; exact q1
     have qh : ∀ x, x < n → h6 x = h x := fun x hx => by rw [hx6 x (by omega)]; exact qg.out x hx
     clear hx6 q1 qg hm5 hmm k5
     replace qh : Hide _ := qh
     by_cases hfw : fewP (ze a ++ ze b) = true
     · have hR3 : R = findO (candsP (ze a ++ ze b)) (difO a b) := by rw [hR2.out, if_pos hfw]
       rw [hfw]
       replace hR2 : Hide _ := trivial
       have hcr : candsP (ze a ++ ze b) = [numsP 0 (ze a ++ ze b), numsP 1 (ze a ++ ze b), numsP 2 (ze a ++ ze b), numsP 3 (ze a ++ ze b), numsP 4 (ze a ++ ze b)] := rfl
       have lA : 0 < (numsP 0 (ze a ++ ze b)).length ∧ (numsP 0 (ze a ++ ze b)).length ≤ 2000 := ⟨zY _ _, by have := zZ 0 (ze a ++ ze b); omega⟩
       have lB : 0 < (numsP 1 (ze a ++ ze b)).length ∧ (numsP 1 (ze a ++ ze b)).length ≤ 2000 := ⟨zY _ _, by have := zZ 1 (ze a ++ ze b); omega⟩
       have lC : 0 < (numsP 2 (ze a ++ ze b)).length ∧ (numsP 2 (ze a ++ ze b)).length ≤ 2000 := ⟨zY _ _, by have := zZ 2 (ze a ++ ze b); omega⟩
       have lD : 0 < (numsP 3 (ze a ++ ze b)).length ∧ (numsP 3 (ze a ++ ze b)).length ≤ 2000 := ⟨zY _ _, by have := zZ 3 (ze a ++ ze b); omega⟩
       have lE : 0 < (numsP 4 (ze a ++ ze b)).length ∧ (numsP 4 (ze a ++ ze b)).length ≤ 2000 := ⟨zY _ _, by have := zZ 4 (ze a ++ ze b); omega⟩
       rw [hcr] at hR3
       clear hcr hfw
       generalize numsP 0 (ze a ++ ze b) = A at *
       generalize numsP 1 (ze a ++ ze b) = B at *
       generalize numsP 2 (ze a ++ ze b) = C at *
       generalize numsP 3 (ze a ++ ze b) = D at *
       generalize numsP 4 (ze a ++ ze b) = E at *
       have hpos : ∀ l ∈ [A, B, C, D, E], 0 < l.length := by
         intro l hl
         simp only [List.mem_cons, List.not_mem_nil, or_false] at hl
         rcases hl with rfl | rfl | rfl | rfl | rfl <;> omega
       obtain ⟨X, hX⟩ : ∃ X, Hide (X = (tup [A, B, C, D, E]).find? (difO a b)) := ⟨_, rfl⟩
       have hR4 : R = fndT X := by rw [hR3, hX.out]; rfl
       replace hR3 : Hide _ := trivial
       replace hR4 : Hide _ := hR4
       replace hpos : Hide _ := hpos
       repeat' (first | (refine zD fun K hK => ?_) | (refine zA fun K hK => ?_; simp (disch := omega) [go_sem, *]) | (apply Hide.out hK; clear hK K; try with_reducible dsimp only [zC]) | (apply Hide.out hf; clear ht hf Kt Kf) | (refine zG ?_) | (refine zI ?_; simp only [zC]) | (with_reducible show nextK _ _ _ _ _ _ _; simp (disch := omega) [go_sem, *]) | (refine zE fun Kt Kf ht hf => ?_; simp (disch := omega) [go_sem, *]; try (refine ⟨fun hc => ?_, fun hc => ?_⟩ <;> try (exfalso; omega))))
       refine zc (fun s' => ∃ (ka kb kc kd ke n' : Nat) (more : Bool) (H : AHeap), (n6 + 2 + 1) + 2 < n' ∧ ka < A.length ∧ kb < B.length ∧ kc < C.length ∧ kd < D.length ∧ ke < E.length ∧ (more = true → (rest [A, B, C, D, E] [ka, kb, kc, kd, ke]).find? (difO a b) = X) ∧ (more = false → X = none) ∧
           H n = some (.cells [iv .i64 0, iv .i64 0, iv .i64 0, iv .i64 0, iv .i64 0]) ∧ H (n + 3 + 4 + 4 + 2 + 2 + 9) = some (.cells [encI A, encI B, encI C, encI D, encI E]) ∧ H (n6 + 2 + 1) = some (.cells [iv .i64 ka, iv .i64 kb, iv .i64 kc, iv .i64 kd, iv .i64 ke]) ∧ (∀ x, x < n → H x = h x) ∧
           s' = ⟨60, [(0, .fslc nl fu s (a.map encO)), (1, .fslc nl2 fu2 s2 (b.map encO)), (4, .ptr n 0), (9, .ptr (n + 3 + 4 + 4 + 2 + 2 + 9) 0), (11, .ptr (n6 + 2 + 1) 0), (12, bv more)], H, n'⟩)
         (leftT 12 [A, B, C, D, E] (n6 + 2 + 1)) ?_ ?_
       · refine zb (by simp [go_sem]) (Sub.refl _) ⟨0, 0, 0, 0, 0, _, true, _, by omega, by omega, by omega, by omega, by omega, by omega, fun _ => ?_, (by simp), ?_, ?_, ?_, fun x hx => ?_, rfl⟩
         · rw [hX.out, ← rest_zero _ hpos.out]; rfl
         · simp (disch := omega) only [zB]; exact q2
         · simp (disch := omega) only [zB, zN]
         · simp (disch := omega) only [zN]; rfl
         · simp (disch := omega) only [zB]; exact qh.out x hx
       · rintro s' ⟨ka, kb, kc, kd, ke, n', more, H, hn', ga, gb, gc, gd, ge, hm1, hm2, p1, p2, p3, hfr, rfl⟩
         replace hfr : Hide _ := hfr
         cases more
         · have hx0 := hm2 rfl
           have hR5 : R = (⟨0, 0, 0, 0, 0⟩, true, 0) := by rw [hR4.out, hx0]; rfl
           replace hR4 : Hide _ := trivial
           subst hR5
           clear hm1 hm2 ga gb gc gd ge lA lB lC lD lE
           repeat' (first | (refine zD fun K hK => ?_) | (refine zA fun K hK => ?_; simp (disch := omega) [go_sem, *]) | (apply Hide.out hK; clear hK K; try with_reducible dsimp only [zC]) | (apply Hide.out hf; clear ht hf Kt Kf) | (clear hK K; apply Hide.out hK; clear hK K; try with_reducible dsimp only [zC]) | (refine zS ?_; simp only [zC, zF, if_true]) | (refine zE fun Kt Kf ht hf => ?_; simp (disch := omega) [go_sem, *]; try (refine ⟨fun hc => ?_, fun hc => ?_⟩ <;> try (exfalso; omega))))
           refine zM ?_
           try dsimp only [zC, zF]
           refine ⟨by simp, _, (by first | rfl | (simp (disch := omega) [go_sem] <;> rfl)), ?_⟩
           refine zJ ⟨fun k hk => ?_, ?_, rfl, rfl, rfl⟩
           · simp (disch := omega) only [zB]; exact hfr.out k hk
           · simp [go_sem, below, zR, resVal]
         · replace hm1 := hm1 rfl
           clear hm2
           rw [find_rest (difO a b) [A, B, C, D, E] [ka, kb, kc, kd, ke] hpos.out rfl] at hm1
           obtain ⟨ja, jb, jc, jd, je, more, c6, ra, rb, rc, rd, re, hnx1, hnx2⟩ := next_spec A B C D E ka kb kc kd ke ga gb gc gd ge (by omega) (by omega) (by omega) (by omega) (by omega)
           obtain ⟨xa, ya⟩ : ∃ x, A[ka]? = some x := ⟨A[ka], List.getElem?_eq_getElem ga⟩
           obtain ⟨xb, yb⟩ : ∃ x, B[kb]? = some x := ⟨B[kb], List.getElem?_eq_getElem gb⟩
           obtain ⟨xc, yc⟩ : ∃ x, C[kc]? = some x := ⟨C[kc], List.getElem?_eq_getElem gc⟩
           obtain ⟨xd, yd⟩ : ∃ x, D[kd]? = some x := ⟨D[kd], List.getElem?_eq_getElem gd⟩
           obtain ⟨xe, ye⟩ : ∃ x, E[ke]? = some x := ⟨E[ke], List.getElem?_eq_getElem ge⟩
           have c7 := choice_spec A B C D E ka kb kc kd ke xa xb xc xd xe ya yb yc yd ye
           have hpk : pickI [A, B, C, D, E] [ka, kb, kc, kd, ke] = [xa, xb, xc, xd, xe] := by simp [pickI, List.getD, ya, yb, yc, yd, ye]
           have hpv : difO a b [xa, xb, xc, xd, xe] = !((nameG a ⟨xa, xb, xc, xd, xe⟩).toList == (nameG b ⟨xa, xb, xc, xd, xe⟩).toList) := rfl
           rw [hpk, hpv] at hm1
           have c8 := k6.out ⟨xa, xb, xc, xd, xe⟩
           have c9 := k7.out ⟨xa, xb, xc, xd, xe⟩
           have hlft : (rest [A, B, C, D, E] [ka, kb, kc, kd, ke]).length = (match nextI [A, B, C, D, E] [ka, kb, kc, kd, ke] with | some js => (rest [A, B, C, D, E] js).length | none => 0) + 1 := by
             rw [rest_next [A, B, C, D, E] [ka, kb, kc, kd, ke] hpos.out rfl]
             cases nextI [A, B, C, D, E] [ka, kb, kc, kd, ke] <;> simp
           generalize nameG a ⟨xa, xb, xc, xd, xe⟩ = x at *
           generalize nameG b ⟨xa, xb, xc, xd, xe⟩ = y at *
           clear ya yb yc yd ye hpk hpv ga gb gc gd ge lA lB lC lD lE k1 k2
           replace hlft : Hide _ := hlft
           replace hnx1 : Hide _ := hnx1
           replace hnx2 : Hide _ := hnx2
           simp only [encF] at c7 c8 c9
           cases hxy : (x.toList == y.toList) with
           | false =>
             rw [hxy] at hm1
             have hX1 : X = some [xa, xb, xc, xd, xe] := by simpa using hm1.symm
             have hR5 : R = (⟨xa, xb, xc, xd, xe⟩, false, 0) := by rw [hR4.out, hX1]; rfl
             replace hR4 : Hide _ := trivial
             subst hR5
             clear hX1 c6
             replace hm1 : Hide _ := trivial
             repeat' (first | (refine zD fun K hK => ?_) | (refine zA fun K hK => ?_; simp (disch := omega) [go_sem, *, zB]) | (refine ac_quiet_h mixed (by kernel_rfl) fun K hK => ?_; simp (disch := omega) [go_sem, *]) | (refine aQ_c (by simp [go_sem]) (by simp (disch := omega) [go_sem, *]; first | exact rfl | exact ⟨rfl, rfl, rfl⟩ | exact (c7).gcall ⟨rfl, rfl, rfl⟩ | exact (c8).gcall ⟨rfl, rfl, rfl⟩ | exact (c9).gcall ⟨rfl, rfl, rfl⟩) ?_; try simp only [pS_some]) | (refine aQ_end ?_) | (apply Hide.out hK; clear hK K; try with_reducible dsimp only [zC]) | (apply Hide.out ht; clear ht hf Kt Kf) | (with_reducible refine APure.gcall (c7) ?_; try simp (disch := omega) [go_sem, *]) | (refine zG ?_) | (refine zI ?_; simp only [zC]) | (refine zE fun Kt Kf ht hf => ?_; simp (disch := omega) [go_sem, *]; try (refine ⟨fun hc => ?_, fun hc => ?_⟩ <;> try (exfalso; omega))))
             refine zM ?_
             try dsimp only [zC, zF]
             refine ⟨by simp, _, (by first | rfl | (simp (disch := omega) [go_sem] <;> rfl)), ?_⟩
             refine zJ ⟨fun k hk => ?_, ?_, rfl, rfl, rfl⟩
             · simp (disch := omega) only [zB]; exact hfr.out k hk
             · simp [go_sem, below, zR, resVal]
           | true =>
             rw [hxy] at hm1
             have hX1 : (match nextI [A, B, C, D, E] [ka, kb, kc, kd, ke] with | some js => (rest [A, B, C, D, E] js).find? (difO a b) | none => none) = X := by rw [← hm1]; simp; cases nextI [A, B, C, D, E] [ka, kb, kc, kd, ke] <;> rfl
             replace hX1 : Hide _ := hX1
             replace hm1 : Hide _ := trivial
             repeat' (first | (refine zD fun K hK => ?_) | (refine zA fun K hK => ?_; simp (disch := omega) [go_sem, *, zB]) | (refine ac_quiet_h mixed (by kernel_rfl) fun K hK => ?_; simp (disch := omega) [go_sem, *]) | (refine aQ_c (by simp [go_sem]) (by simp (disch := omega) [go_sem, *]; first | exact rfl | exact ⟨rfl, rfl, rfl⟩ | exact (c7).gcall ⟨rfl, rfl, rfl⟩ | exact (c8).gcall ⟨rfl, rfl, rfl⟩ | exact (c9).gcall ⟨rfl, rfl, rfl⟩ | exact (c6).gcall ⟨rfl, rfl, rfl⟩) ?_; try simp only [pS_some]) | (refine aQ_end ?_) | (apply Hide.out hK; clear hK K; try with_reducible dsimp only [zC]) | (apply Hide.out ht; clear ht hf Kt Kf) | (apply Hide.out hf; clear ht hf Kt Kf) | (with_reducible refine APure.gcall (c7) ?_; try simp (disch := omega) [go_sem, *]) | (with_reducible refine APure.gcall (c6) ?_; try simp (disch := omega) [go_sem, *, zB]) | (refine zG ?_) | (refine zI ?_; simp only [zC]) | (refine zE fun Kt Kf ht hf => ?_; simp (disch := omega) [go_sem, *]; try (refine ⟨fun hc => ?_, fun hc => ?_⟩ <;> try (exfalso; omega))))
             simp only [zF, zC]
             refine zW ?_ (Sub.refl _) ⟨ja, jb, jc, jd, je, _, more, _, by omega, ra, rb, rc, rd, re, fun hh => ?_, fun hh => ?_, ?_, ?_, ?_, fun x hx => ?_, rfl⟩ ?_
             · simp [go_sem]
             · have := hX1.out; rw [hnx1.out hh] at this; exact this
             · have := hX1.out; rw [hnx2.out hh] at this; exact this.symm
             · simp (disch := omega) only [zB]; exact p1
             · simp (disch := omega) only [zB]; exact p2
             · simp (disch := omega) only [zN]
             · simp (disch := omega) only [zB]; exact hfr.out x hx
             · have hl := hlft.out
               cases more with
               | false => simp (disch := omega) [leftT, go_sem, zN, p3]; omega
               | true => rw [hnx1.out rfl] at hl; simp (disch := omega) [leftT, go_sem, zN, p3]; simp only at hl; omega
     · have hfw2 : fewP (ze a ++ ze b) = false := by simpa using hfw
       have hR3 : R = (⟨0, 0, 0, 0, 0⟩, false, 80) := by rw [hR2.out, if_neg hfw]
       rw [hfw2]
       replace hR2 : Hide _ := trivial
       subst hR3
       clear hfw hfw2
       generalize numsP 0 (ze a ++ ze b) = A at *
       generalize numsP 1 (ze a ++ ze b) = B at *
       generalize numsP 2 (ze a ++ ze b) = C at *
       generalize numsP 3 (ze a ++ ze b) = D at *
       generalize numsP 4 (ze a ++ ze b) = E at *
       repeat' (first | (refine zD fun K hK => ?_) | (refine zA fun K hK => ?_; simp (disch := omega) [go_sem, *, zB]) | (apply Hide.out hK; clear hK K; try with_reducible dsimp only [zC]) | (apply Hide.out ht; clear ht hf Kt Kf) | (with_reducible show nextK _ _ _ _ _ _ _; simp (disch := omega) [go_sem, *]) | (refine zE fun Kt Kf ht hf => ?_; simp (disch := omega) [go_sem, *]; try (refine ⟨fun hc => ?_, fun hc => ?_⟩ <;> try (exfalso; omega))))
       refine zM ?_
       try dsimp only [zC, zF]
       refine ⟨by simp, _, (by first | rfl | (simp (disch := omega) [go_sem] <;> rfl)), ?_⟩
       refine zJ ⟨fun k hk => ?_, ?_, rfl, rfl, rfl⟩
       · simp (disch := omega) only [zB]; exact qh.out k hk
       · simp [go_sem, below, zR, resVal]
   · have hR2 : R = (⟨0, 0, 0, 0, 0⟩, false, chk b) := by rw [hR.out, sameO, if_neg (by simpa using h1), if_pos h2]
     rw [hR2]
     rw [h1] at k1
     have hne : (chk b != 0) = true := by simpa using h2
     generalize chk b = e at *
     replace hR : Hide _ := trivial
     clear hR2 h1 hwa hwb hfa hfb la0 lb0
     generalize List.map encO a = A at *
     generalize List.map encO b = B at *
     repeat' (first | (refine zD fun K hK => ?_) | (refine zA fun K hK => ?_; simp (disch := omega) [go_sem, *, Tryz.ntmps27 ]) | (apply Hide.out hK; clear hK K; try with_reducible dsimp only [zC]) | (apply Hide.out ht; clear ht hf Kt Kf) | (apply Hide.out hf; clear ht hf Kt Kf) | (with_reducible refine APure.gcall (k1) ?_; try simp (disch := omega) [go_sem, * ]) | (with_reducible refine APure.gcall (k2) ?_; try simp (disch := omega) [go_sem, * ]) | (refine zI ?_; simp only [zC]) | (refine zE fun Kt Kf ht hf => ?_; simp (disch := omega) [go_sem, * ]; try (refine ⟨fun hc => ?_, fun hc => ?_⟩ <;> try (exfalso; omega))))
     (refine zM ?_; try dsimp only [zC, zF]; refine ⟨by simp, _, (by first | rfl | (simp (disch := omega) [go_sem] <;> rfl)), ?_⟩; refine zJ ⟨fun k hk => (by first | rfl | (repeat rw [zB _ _ _ _ (by omega)])), (by simp [go_sem, below, zR]), (by simp [go_sem] <;> omega), by simp, by simp⟩)
 · have hR2 : R = (⟨0, 0, 0, 0, 0⟩, false, chk a) := by rw [hR.out, sameO, if_pos h1]
   rw [hR2]
   have hne : (chk a != 0) = true := by simpa using h1
   generalize chk a = e at *
   replace hR : Hide _ := trivial
   clear hR2 hwa hwb hfa hfb la0 lb0
   generalize List.map encO a = A at *
   generalize List.map encO b = B at *
   generalize chk b = e2 at *
   repeat' (first | (refine zD fun K hK => ?_) | (refine zA fun K hK => ?_; simp (disch := omega) [go_sem, *, Tryz.ntmps27 ]) | (apply Hide.out hK; clear hK K; try with_reducible dsimp only [zC]) | (apply Hide.out ht; clear ht hf Kt Kf) | (with_reducible refine APure.gcall (k1) ?_; try simp (disch := omega) [go_sem, * ]) | (with_reducible refine APure.gcall (k2) ?_; try simp (disch := omega) [go_sem, * ]) | (refine zE fun Kt Kf ht hf => ?_; simp (disch := omega) [go_sem, * ]; try (refine ⟨fun hc => ?_, fun hc => ?_⟩ <;> try (exfalso; omega))))
   (refine zM ?_; try dsimp only [zC, zF]; refine ⟨by simp, _, (by first | rfl | (simp (disch := omega) [go_sem] <;> rfl)), ?_⟩; refine zJ ⟨fun k hk => (by first | rfl | (repeat rw [zB _ _ _ _ (by omega)])), (by simp [go_sem, below, zR]), (by simp [go_sem] <;> omega), by simp, by simp⟩)
end Go.AM
