/- Orders: rows of conditions joined; the same for all facts, by the specification. Conditions: as each theorem says. -/
import Derived.Test.YtbpbgiedemkciaaGreatDoorEf
namespace Go.AM
open Go.Proofs Cw
set_option maxRecDepth 10000
set_option maxHeartbeats 4000000
theorem conditions60o (nl fu : Bool) (s : Nat) (l : List Ordr) (hnl : l = [] ∨ nl = false ∧ s = 7) (hl : l.length ≤ 1000000) : ∀ (h : AHeap) (n : Nat), ACalls Tryz.prog 60 [.fslc nl fu s (l.map encO)] h n fun r h' n' => ∃ m, n ≤ n' ∧ r = rowC m (l.map (·.cond)) ∧ (l.map (·.cond) ≠ [] → n ≤ m ∧ m < n' ∧ h' m = some (.cells (flatC (l.map (·.cond))))) ∧ ∀ x, x < n → h' x = h x := by
  intro h n
  refine ACalls.entry (by kernel_rfl) fun hb _ => calls_of Tryz.func60 rfl (by kernel_rfl) (by simp [Tryz.ntmps60]) ?_
  replace hnl : Hide _ := hnl
  repeat' (first | (refine ac_seq_h fun K hK => ?_) | (refine ac_region_h fun K hK => ?_; simp (disch := omega) [go_sem, *, Tryz.ntmps60]) | (apply Hide.out hK; clear hK K; try with_reducible dsimp only [thenA]) | (refine ac_block ?_))
  refine ac_loop_wk (fun s' => ∃ (i n' m : Nat) (H : AHeap), n ≤ n' ∧ i ≤ l.length ∧ ((l.take i).map (·.cond) ≠ [] → n ≤ m ∧ m < n' ∧ H m = some (.cells (flatC ((l.take i).map (·.cond))))) ∧ (∀ x, x < n → H x = h x) ∧ s' = ⟨19, [(3, rowC m ((l.take i).map (·.cond))), (6, .fslc nl fu s (l.map encO)), (7, iv .i64 l.length), (8, iv .i64 i)], H, n'⟩)
      (fun s' => l.length - (intAt s' 8).toNat) ?_ ?_
  · have e0 : rowC 0 ((l.take 0).map (·.cond)) = .fslc true true 0 [] := by simp [rowC]
    refine loop_start ?_ (Sub.refl _) ⟨0, _, 0, _, ?_, ?_, fun e => (e rfl).elim, fun _ _ => rfl, rfl⟩
    · rw [e0]; simp [go_sem]
    · omega
    · omega
  · rintro s' ⟨i, n', m, H, hn', hi, hm, hfr, rfl⟩
    have hlt2 : ((l.take i).map (·.cond)).length = i := by rw [List.length_map, List.length_take]; omega
    obtain ⟨cs, hcs⟩ : ∃ cs, cs = (l.take i).map (·.cond) := ⟨_, rfl⟩
    rw [← hcs] at hm hlt2 ⊢
    replace hfr : Hide _ := hfr
    by_cases hlt : i < l.length
    · obtain ⟨⟨nm, rk, k, f, o, nn, nl2, fu2, s2, ks⟩, hx⟩ : ∃ o, l[i] = o := ⟨_, rfl⟩
      have hne : l ≠ [] := fun e => by rw [e] at hlt; simp at hlt
      obtain ⟨rfl, rfl⟩ := hnl.out.resolve_left hne
      have hex : encO l[i] = .agg [sv nm, iv .i64 rk, iv .i64 k, iv .i64 f, iv .i64 o, iv .i64 nn, .fslc nl2 fu2 s2 (encL ks)] := by rw [hx]; rfl
      have hcs2 : (l.take (i + 1)).map (·.cond) = cs ++ [.mk k f o nn nl2 fu2 s2 ks] := by
        rw [List.take_succ_eq_append_getElem hlt, List.map_append, hx, ← hcs]; rfl
      have hap := fun (nm : Nat) (h0 : AHeap) (b c : Bool) (he : cs ≠ [] → h0 m = some (.cells (flatC cs))) => ap_rowC m nm cs (.mk k f o nn nl2 fu2 s2 ks) h0 b c he (by omega)
      simp only [encC] at hap
      replace hx : Hide _ := hx
      replace hcs2 : Hide _ := hcs2
      replace hcs : Hide _ := hcs
      replace hm : Hide _ := hm
      clear hne
      repeat' (first | (refine ac_seq_h fun K hK => ?_) | (refine ac_region_h fun K hK => ?_; simp (disch := omega) [go_sem, *, ilt_true, ile_true]) | (apply Hide.out hK; clear hK K; try with_reducible dsimp only [thenA]) | (apply Hide.out ht; clear ht hf Kt Kf) | (refine ac_block ?_) | (refine ac_skip ?_; simp only [thenA]) | (refine ac_cond_h fun Kt Kf ht hf => ?_; simp (disch := omega) [go_sem, *]; try (refine ⟨fun hc => ?_, fun hc => ?_⟩ <;> try (exfalso; omega))))
      have he : cs ≠ [] → n ≤ m ∧ m < n' ∧ H m = some (.cells (flatC cs)) := hm.out
      rw [hap _ _ _ _ (fun e0 => by obtain ⟨m1, m2, m3⟩ := he e0; simpa (disch := omega) [upd_ne] using m3)]
      clear he hap
      simp (disch := omega) [go_sem]
      repeat' (first | (refine ac_region_h fun K hK => ?_; simp (disch := omega) [go_sem, *, wrap64_id]) | (apply Hide.out hK; clear hK K; try with_reducible dsimp only [thenA]))
      have er : rowC (n' + 1 + 4 + 4) ((l.take (i + 1)).map (·.cond)) = .slc (n' + 1 + 4 + 4) 0 (i + 1) 5 := by rw [hcs2.out, rowC, if_neg (by simp), List.length_append, hlt2]; rfl
      refine round_end ?_ (Sub.refl _) ⟨i + 1, _, n' + 1 + 4 + 4, _, by omega, by omega, fun _ => ⟨by omega, by omega, by rw [hcs2.out]; exact apC_new _ _ _ _ _⟩, fun x hx => ?_, rfl⟩ (by simp [intAt, go_sem]; omega)
      · rw [er]; simp (disch := omega) [go_sem]
      · rw [apC_old _ _ _ _ _ _ (by omega) (fun e0 => by have := (hm.out e0).1; omega)]
        try rw [upd_ne _ _ _ _ (by omega), upd_ne _ _ _ _ (by omega)]
        exact hfr.out x hx
    · have hii : i = l.length := by omega
      rw [hii, List.take_length] at hcs
      replace hcs : Hide _ := hcs
      replace hm : Hide _ := hm
      repeat' (first | (refine ac_seq_h fun K hK => ?_) | (refine ac_region_h fun K hK => ?_; simp (disch := omega) [go_sem, *]) | (apply Hide.out hK; clear hK K; try with_reducible dsimp only [thenA]) | (apply Hide.out hf; clear ht hf Kt Kf) | (clear hK K; apply Hide.out hK; clear hK K; try with_reducible dsimp only [thenA]) | (refine ac_exit ?_; simp only [thenA, blockA, if_true]) | (refine ac_cond_h fun Kt Kf ht hf => ?_; simp (disch := omega) [go_sem, *]; try (refine ⟨fun hc => ?_, fun hc => ?_⟩ <;> try (exfalso; omega))))
      refine ac_ret ?_
      try dsimp only [thenA, blockA]
      refine ⟨by simp, _, (by first | rfl | (simp (disch := omega) [go_sem, upd_ne] <;> rfl)), ?_⟩
      show RetOk _ _ (rowC m cs) _ _
      have hcs2 := hcs.out
      subst hcs2
      exact ret_id ⟨m, by omega, rfl, fun e => by obtain ⟨e1, e2, e3⟩ := hm.out e; exact ⟨e1, by omega, e3⟩, hfr.out⟩
end Go.AM

namespace Go.AM
open Go.Proofs Cw
set_option maxRecDepth 10000
set_option maxHeartbeats 4000000
theorem flatC_app (a : List Cnd) : ∀ b : List Cnd, flatC (a ++ b) = flatC a ++ flatC b
  | [] => by simp [flatC, encL, flat]
  | x :: r => by
    have h1 := flatC_app (a ++ [x]) r
    have h2 : a ++ x :: r = (a ++ [x]) ++ r := by simp
    have h3 : flatC (x :: r) = cellsOf (encC x) ++ flatC r := by simp [flatC, encL, flat]
    rw [h2, h1, flatC_snoc, h3, List.append_assoc]
termination_by b => b.length
end Go.AM

namespace Go.AM
open Go.Proofs Cw
set_option maxRecDepth 10000
set_option maxHeartbeats 4000000
def difO (a b : List Ordr) (t : List Int) : Bool := !((nameG a (toFs t)).toList == (nameG b (toFs t)).toList)
def fndT : Option (List Int) → Fs × Bool × Int
  | some t => (toFs t, false, 0)
  | none => (⟨0, 0, 0, 0, 0⟩, true, 0)
def findO (L : List (List Int)) (p : List Int → Bool) : Fs × Bool × Int := fndT ((tup L).find? p)
/-- what SameOrders returns -/
def sameO (a b : List Ordr) : Fs × Bool × Int :=
  if chk a ≠ 0 then (⟨0, 0, 0, 0, 0⟩, false, chk a) else if chk b ≠ 0 then (⟨0, 0, 0, 0, 0⟩, false, chk b)
  else if fewP (condsO a ++ condsO b) then findO (candsP (condsO a ++ condsO b)) (difO a b)
  else (⟨0, 0, 0, 0, 0⟩, false, 80)
theorem clo67 (nl fu : Bool) (s : Nat) (a : List Ordr) (ha : a = [] ∨ nl = false ∧ s = 7) (hwa : okO a) (hla : a.length ≤ 1000000) (nl2 fu2 : Bool) (s2 : Nat) (b : List Ordr) (hb : b = [] ∨ nl2 = false ∧ s2 = 7) (hwb : okO b) (hlb : b.length ≤ 1000000) (n0 : Nat) (h0 : AHeap) :
    Asks n0 (fun _ h => ∀ x, x < n0 → h x = h0 x) (difO a b) 67 [.fptr [.fslc nl fu s (a.map encO)], .fptr [.fslc nl2 fu2 s2 (b.map encO)]] := by
  intro done xs h n hxs hn hd
  obtain ⟨x0, x1, x2, x3, x4, rfl⟩ : ∃ a b c d e, xs = [a, b, c, d, e] := by
    match xs, hxs with
    | [a, b, c, d, e], _ => exact ⟨a, b, c, d, e, rfl⟩
  have ka := given68 nl fu s a ha hwa hla ⟨x0, x1, x2, x3, x4⟩
  have kb := given68 nl2 fu2 s2 b hb hwb hlb ⟨x0, x1, x2, x3, x4⟩
  have e : difO a b [x0, x1, x2, x3, x4] = (!((nameG a ⟨x0, x1, x2, x3, x4⟩).toList == (nameG b ⟨x0, x1, x2, x3, x4⟩).toList)) := rfl
  rw [e]
  generalize nameG a ⟨x0, x1, x2, x3, x4⟩ = x at *
  generalize nameG b ⟨x0, x1, x2, x3, x4⟩ = y at *
  have key : ACalls Tryz.prog 67 [.agg ([x0, x1, x2, x3, x4].map (iv .i64)), .fptr [.fslc nl fu s (a.map encO)], .fptr [.fslc nl2 fu2 s2 (b.map encO)]] h n fun r h' n' => r = bv (!(x.toList == y.toList)) ∧ h' = h ∧ n' = n := by
    refine ACalls.pure (ACalls.entry (by kernel_rfl) fun hb _ => calls_of Tryz.func67 rfl (by kernel_rfl) (by simp [Tryz.ntmps67]) ?_)
    clear hd ha hb hwa hwb
    generalize List.map encO a = A at *
    generalize List.map encO b = B at *
    simp only [List.map_cons, List.map_nil] at *
    repeat' (first | (refine ac_seq_h fun K hK => ?_) | (refine ac_region_h fun K hK => ?_; simp (disch := omega) [go_sem, *, Tryz.ntmps67 ]) | (refine ac_quiet_h mixed (by kernel_rfl) fun K hK => ?_; simp (disch := omega) [go_sem, * ]) | (refine aQ_c (by simp [go_sem]) (by simp (disch := omega) [go_sem, * ]; first | exact rfl | exact ⟨rfl, rfl, rfl⟩ | exact (ka).gcall ⟨rfl, rfl, rfl⟩ | exact (kb).gcall ⟨rfl, rfl, rfl⟩) ?_; try simp only [pS_some]) | (refine aQ_end ?_) | (apply Hide.out hK; clear hK K; try with_reducible dsimp only [thenA]))
    (refine ac_ret ?_; try dsimp only [thenA, blockA]; refine ⟨by simp, _, (by first | rfl | (simp (disch := omega) [go_sem, upd_ne] <;> rfl)), ?_⟩; refine ret_id ⟨fun k hk => (by first | rfl | (repeat rw [upd_ne _ _ _ _ (by omega)])), (by simp [go_sem, below]), (by simp [go_sem] <;> omega), by simp, by simp⟩)
  exact key.mono fun r h' n' ⟨e1, e2, e3⟩ => by
    subst e2; subst e3
    exact ⟨e1, Nat.le_refl _, fun _ _ _ => rfl, hd⟩
theorem first67 (nl fu : Bool) (s : Nat) (a : List Ordr) (ha : a = [] ∨ nl = false ∧ s = 7) (hwa : okO a) (hla : a.length ≤ 1000000) (nl2 fu2 : Bool) (s2 : Nat) (b : List Ordr) (hb : b = [] ∨ nl2 = false ∧ s2 = 7) (hwb : okO b) (hlb : b.length ≤ 1000000) (A B C D E : List Int) (lA : A.length ≤ 100000) (lB : B.length ≤ 100000) (lC : C.length ≤ 100000) (lD : D.length ≤ 100000) (lE : E.length ≤ 100000)
    (H : AHeap) (nn : Nat) :
    ACalls Tryz.prog 61 [.agg [encI A, encI B, encI C, encI D, encI E], .func (.func 67) [] [.fptr [.fslc nl fu s (a.map encO)], .fptr [.fslc nl2 fu2 s2 (b.map encO)]]] H nn fun r h' n' => nn ≤ n' ∧ (∀ x, x < nn → h' x = H x) ∧ match (tup [A, B, C, D, E]).find? (difO a b) with
      | some t => r = .tup [.agg (t.map (iv .i64)), bv true]
      | none => r = .tup [.agg [iv .i64 0, iv .i64 0, iv .i64 0, iv .i64 0, iv .i64 0], bv false] := by
  refine (first_spec A B C D E 67 _ lA lB lC lD lE (fun _ h' => ∀ x, x < nn → h' x = H x) _ nn H (fun d h1 h2 hx hd x hx2 => (hx x hx2).trans (hd x hx2))
    (clo67 nl fu s a ha hwa hla nl2 fu2 s2 b hb hwb hlb nn H) (fun x _ => rfl)).mono fun r h' n' hp => ?_
  obtain ⟨h1, hm⟩ := hp
  revert hm
  cases (tup [A, B, C, D, E]).find? (difO a b) with
  | some t => rintro ⟨e, d', hd⟩; exact ⟨h1, hd, e⟩
  | none => rintro ⟨e, hd⟩; exact ⟨h1, hd, e⟩
end Go.AM

namespace Go.AM
open Go.Proofs Cw
set_option maxRecDepth 10000
set_option maxHeartbeats 4000000
theorem totL_app : ∀ a b : List Cnd, totL (a ++ b) = totL a + totL b
  | [], b => by simp [totL]
  | x :: r, b => by simp only [List.cons_append, totL, totL_app r b]; omega
theorem okL_app : ∀ a b : List Cnd, okL (a ++ b) = (okL a && okL b)
  | [], b => by simp [okL]
  | x :: r, b => by simp only [List.cons_append, okL, okL_app r b, Bool.and_assoc]
theorem wfL_app : ∀ {a b : List Cnd}, wfL a → wfL b → wfL (a ++ b)
  | [], _, _, h => h
  | _ :: _, _, h, h2 => ⟨h.1, wfL_app h.2 h2⟩
/-- two lists of orders in order: their conditions together -/
theorem both_ok {a b : List Ordr} (hwa : wfO a) (hwb : wfO b) (h1 : chk a = 0) (h2 : chk b = 0) (la : a.length ≤ 6) (lb : b.length ≤ 6) : wfL (condsO a ++ condsO b) ∧ okL (condsO a ++ condsO b) = true ∧ totL (condsO a ++ condsO b) ≤ 720 := by
  have oa := (chk_zero h1).1
  have ob := (chk_zero h2).1
  refine ⟨wfL_app (wfL_of a hwa) (wfL_of b hwb), by rw [okL_app, okL_of a (all_okO hwa oa), okL_of b (all_okO hwb ob)]; rfl, ?_⟩
  rw [totL_app]
  have := totL_le a 60 (all_60 oa)
  have := totL_le b 60 (all_60 ob)
  omega
end Go.AM
