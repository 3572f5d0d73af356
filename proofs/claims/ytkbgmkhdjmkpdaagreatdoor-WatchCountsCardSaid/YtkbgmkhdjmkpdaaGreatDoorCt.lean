/- The law WatchCounts, walked. Conditions: as each theorem says. -/
import Derived.Test.YtkbgmkhdjmkpdaaGreatDoorLa
import Derived.Test.YtkbgmkhdjmkpdaaGreatDoorFx
import Derived.Test.YtkbgmkhdjmkpdaaGreatDoorSe
namespace Go.AM
open Go.Proofs Cw Du Go.RowKit
set_option maxRecDepth 10000
set_option maxHeartbeats 4000000
theorem fewW_sm {ls : List Lin} {l : List Ordr} (h : fewW ls l = true) (hL : ∀ x ∈ ls, wfLn x ∧ x.exc.length ≤ 9223372036854775807) (_hw : wfO l) : smL ls ∧ smO l ∧ ls.length ≤ 1000000 ∧ l.length ≤ 1000000 := by
  simp only [fewW, Bool.and_eq_true, List.all_eq_true] at h
  obtain ⟨⟨⟨h1, h2⟩, h3⟩, h4⟩ := h
  simp only [numW, Bool.or_eq_true, Bool.and_eq_true, decide_eq_true_eq] at h3 h4
  refine ⟨fun x hx => ?_, fun o ho => ?_, by omega, by omega⟩
  · have := h1 x hx
    simp only [litL, Bool.and_eq_true, decide_eq_true_eq] at this
    exact ⟨(hL x hx).1, by omega, by omega, by omega, by omega⟩
  · have := h2 o ho
    simp only [lit, Bool.and_eq_true, decide_eq_true_eq] at this
    exact ⟨by omega, by omega⟩
end Go.AM

namespace Du
def sumL (O : Ld) : Int := (O.map (·.2)).sum
theorem sumL_add (s : ByteArray) : ∀ O : Ld, sumL (addL O s) = sumL O + 1
  | [] => rfl
  | x :: r => by
    have ih := sumL_add s r
    unfold sumL at ih ⊢
    rw [addL]; split
    · simp only [List.map_cons, List.sum_cons, ih]; omega
    · split
      · simp only [List.map_cons, List.sum_cons]; omega
      · simp only [List.map_cons, List.sum_cons]; omega
theorem sumL_fold : ∀ (L : List ByteArray) (O : Ld), sumL (L.foldl addL O) = sumL O + L.length
  | [], O => by simp
  | x :: r, O => by rw [List.foldl_cons, sumL_fold r, sumL_add, List.length_cons]; omega
theorem sumL_day (O : Ld) (l : List Pr) : sumL (ldD O l) = sumL O + (fstP [] l).length := sumL_fold _ _
theorem sumL_le (ls : List Lin) (lo : Int) : ∀ k : Nat, 0 ≤ sumL (ldS ls lo k) ∧ sumL (ldS ls lo k) ≤ k * ls.length
  | 0 => by simp [ldS, dys, sumL]
  | k + 1 => by
    have ih := sumL_le ls lo k
    rw [ldS_succ, sumL_day]
    have h1 := fstP_len (duR ls (lo + k)) []
    have h3 : (duR ls (lo + k)).length ≤ ls.length := by unfold duR; rw [(sortP_perm _).length_eq]; exact dayD_len ls _
    have : ((k + 1 : Nat) : Int) * ls.length = k * ls.length + ls.length := by push_cast; rw [Int.add_mul]; omega
    omega
theorem fstP_snoc (p : Pr) : ∀ (l seen : List Pr), fstP seen (l ++ [p]) = fstP seen l ++ if cntP (seen ++ l) p.2 > 0 then [] else [p.2]
  | [], seen => by simp [fstP]
  | x :: r, seen => by
    have ih := fstP_snoc p r (seen ++ [x])
    rw [List.append_assoc] at ih
    rw [List.cons_append, fstP, fstP, ih]
    split <;> simp
theorem cntP_any (l : List Pr) (s : ByteArray) : (cntP l s > 0) ↔ (l.any fun q => eqB q.2 s) = true := by
  rw [cntP_pos, List.any_eq_true, List.mem_map]
  constructor
  · rintro ⟨q, h1, h2⟩; exact ⟨q, h1, (eqB_iff _ _).2 h2⟩
  · rintro ⟨q, h1, h2⟩; exact ⟨q, h1, (eqB_iff _ _).1 h2⟩
/-- a rest, last of all, leaves no duty of its person -/
theorem rest_none (ls : List Lin) (x : Lin) (d : Int) (hx : ls.getLast? = some x) (hk : x.kind = 2) (ho : onL x d = true) (p : Pr) (hp : p ∈ duR ls d) : eqB p.2 x.person = false := by
  obtain ⟨r, rfl⟩ := List.getLast?_eq_some_iff.1 hx
  have hm : p ∈ dayD (r ++ [x]) d := (sortP_perm _).mem_iff.1 hp
  unfold dayD at hm
  rw [List.foldl_append, List.foldl_cons, List.foldl_nil, dayF, ho, if_pos rfl, stepD, if_neg (by omega), if_pos hk, List.mem_filter] at hm
  simpa using hm.2
end Du
namespace Go.AM
open Go.Proofs Cw Du Go.RowKit
set_option maxRecDepth 10000
set_option maxHeartbeats 4000000
theorem free29g (nl fu : Bool) (s : Nat) (xs : List Int) (hnl : xs = [] ∨ nl = false ∧ s = 1) (hl : xs.length ≤ 1000000) (v : Int) : APure Tryz.prog 19 [.fslc nl fu s (xs.map (iv .i64)), iv .i64 v] (bv (decide (v ∉ xs))) := by
  intro h n
  refine ACalls.pure (ACalls.entry (by kernel_rfl) fun hb _ => calls_of Tryz.func19 rfl (by kernel_rfl) (by simp [Tryz.ntmps19]) ?_)
  obtain ⟨T, hT⟩ : ∃ T, Hide (T = decide (v ∉ xs)) := ⟨_, rfl⟩
  rw [← hT.out]
  replace hnl : Hide _ := hnl
  repeat' (first | (refine ac_seq_h fun K hK => ?_) | (refine ac_region_h fun K hK => ?_; simp (disch := omega) [go_sem, *, Tryz.ntmps19]) | (apply Hide.out hK; clear hK K; try with_reducible dsimp only [thenA]) | (refine ac_block ?_))
  refine ac_loop_wk (fun s' => ∃ (i n' : Nat), n ≤ n' ∧ i ≤ xs.length ∧ (∀ x ∈ xs.take i, x ≠ v) ∧ s' = ⟨18, [(0, .fslc nl fu s (xs.map (iv .i64))), (1, iv .i64 v), (5, iv .i64 i)], h, n'⟩)
      (fun s' => xs.length - (intAt s' 5).toNat) ?_ ?_
  · exact loop_start (by simp [go_sem]) (Sub.refl _) ⟨0, _, by omega, by omega, by simp, rfl⟩
  · rintro s' ⟨i, n', hn', hi, hall, rfl⟩
    replace hall : Hide _ := hall
    by_cases hlt : i < xs.length
    · have hne : xs ≠ [] := fun e => by rw [e] at hlt; simp at hlt
      obtain ⟨rfl, rfl⟩ := hnl.out.resolve_left hne
      obtain ⟨x, hx⟩ : ∃ x, xs[i] = x := ⟨_, rfl⟩
      have hmem : x ∈ xs := hx ▸ List.getElem_mem hlt
      clear hne
      by_cases hv : x = v
      · have hTf : T = false := by rw [hT.out]; simpa [← hv] using hmem
        subst hTf
        subst hv
        replace hmem : Hide _ := trivial
        repeat' (first | (refine ac_seq_h fun K hK => ?_) | (refine ac_region_h fun K hK => ?_; simp (disch := omega) [go_sem, *, ilt_true, ile_true]) | (apply Hide.out hK; clear hK K; try with_reducible dsimp only [thenA]) | (apply Hide.out ht; clear ht hf Kt Kf) | (refine ac_block ?_) | (refine ac_skip ?_; simp only [thenA]) | (refine ac_cond_h fun Kt Kf ht hf => ?_; simp (disch := omega) [go_sem, *]; try (refine ⟨fun hc => ?_, fun hc => ?_⟩ <;> try (exfalso; omega))))
        (refine ac_ret ?_; try dsimp only [thenA, blockA]; refine ⟨by simp, _, (by first | rfl | (simp (disch := omega) [go_sem, upd_ne] <;> rfl)), ?_⟩; refine ret_id ⟨fun k hk => (by first | rfl | (repeat rw [upd_ne _ _ _ _ (by omega)])), (by simp [go_sem, below]), (by simp [go_sem] <;> omega), by simp, by simp⟩)
      · have hta : xs.take (i + 1) = xs.take i ++ [x] := by rw [List.take_succ_eq_append_getElem hlt, hx]
        replace hmem : Hide _ := trivial
        replace hta : Hide _ := hta
        have hvf : (x == v) = false := by simpa using hv
        replace hv : Hide _ := hv
        repeat' (first | (refine ac_seq_h fun K hK => ?_) | (refine ac_region_h fun K hK => ?_; simp (disch := omega) [go_sem, *, wrap64_id, ilt_true, ile_true]) | (apply Hide.out hK; clear hK K; try with_reducible dsimp only [thenA]) | (apply Hide.out ht; clear ht hf Kt Kf) | (apply Hide.out hf; clear ht hf Kt Kf) | (refine ac_block ?_) | (refine ac_skip ?_; simp only [thenA, blockA]) | (refine ac_cond_h fun Kt Kf ht hf => ?_; simp (disch := omega) [go_sem, *]; try (refine ⟨fun hc => ?_, fun hc => ?_⟩ <;> try (exfalso; omega))))
        exact round_end (by simp (disch := omega) [go_sem]) (Sub.refl _) ⟨i + 1, _, by omega, by omega, fun y hy => by
          rw [hta.out] at hy
          rcases List.mem_append.1 hy with hy | hy
          · exact hall.out y hy
          · rw [List.mem_singleton.1 hy]; exact hv.out, rfl⟩ (by simp [intAt, go_sem]; omega)
    · have hii : i = xs.length := by omega
      subst hii
      have hTt : T = true := by
        rw [hT.out, decide_eq_true_eq]
        intro hm
        exact hall.out v (by rw [List.take_length]; exact hm) rfl
      subst hTt
      clear hall
      repeat' (first | (refine ac_seq_h fun K hK => ?_) | (refine ac_region_h fun K hK => ?_; simp (disch := omega) [go_sem, *]) | (apply Hide.out hK; clear hK K; try with_reducible dsimp only [thenA]) | (apply Hide.out hf; clear ht hf Kt Kf) | (clear hK K; apply Hide.out hK; clear hK K; try with_reducible dsimp only [thenA]) | (refine ac_exit ?_; simp only [thenA, blockA, if_true]) | (refine ac_cond_h fun Kt Kf ht hf => ?_; simp (disch := omega) [go_sem, *]; try (refine ⟨fun hc => ?_, fun hc => ?_⟩ <;> try (exfalso; omega))))
      (refine ac_ret ?_; try dsimp only [thenA, blockA]; refine ⟨by simp, _, (by first | rfl | (simp (disch := omega) [go_sem, upd_ne] <;> rfl)), ?_⟩; refine ret_id ⟨fun k hk => (by first | rfl | (repeat rw [upd_ne _ _ _ _ (by omega)])), (by simp [go_sem, below]), (by simp [go_sem] <;> omega), by simp, by simp⟩)

theorem aggEqG (d1 d2 : Int) (p1 p2 q1 q2 : ByteArray) : aggEq Tryz.prog 51 [iv .i64 d1, sv p1, sv p2] [iv .i64 d2, sv q1, sv q2] = some ((d1 == d2) && (p1.toList == q1.toList) && (p2.toList == q2.toList)) := by
  have g1 : Tryz.prog.stoodInHeld 51 = false := by kernel_rfl
  have g2 : Tryz.prog.eqGuardType Tryz.prog.depth 51 = false := by kernel_rfl
  have g3 : skOf Tryz.prog 3 = .int := by kernel_rfl
  simp only [aggEq, Tryz.underlying51, g1, g2, fldEq]
  simp only [and_self, if_true, List.getElem?_cons_zero, List.getElem?_cons_succ, skStr, g3, cellEq]
  simp
  cases (d1 == d2) <;> cases (p1.toList == q1.toList) <;> cases (p2.toList == q2.toList) <;> simp
theorem lduty (d : Int) (t u : ByteArray) : APure Tryz.prog 18 [iv .i64 d, sv t, sv u] (.agg [iv .i64 d, sv t, sv u]) := by
  intro h n
  refine ACalls.pure (ACalls.entry (by kernel_rfl) fun hb _ => calls_of Tryz.func18 rfl (by kernel_rfl) (by simp [Tryz.ntmps18]) ?_)
  repeat' (first | (refine ac_seq_h fun K hK => ?_) | (refine ac_region_h fun K hK => ?_; simp (disch := omega) [go_sem, *, Tryz.ntmps18]) | (apply Hide.out hK; clear hK K; try with_reducible dsimp only [thenA]))
  (refine ac_ret ?_; try dsimp only [thenA, blockA]; refine ⟨by simp, _, (by first | rfl | (simp (disch := omega) [go_sem] <;> rfl)), ?_⟩; refine ret_id ⟨fun k hk => (by first | rfl | (repeat rw [upd_ne _ _ _ _ (by omega)])), (by simp [go_sem, below, belowL]), (by simp [go_sem] <;> omega), by simp, by simp⟩)
theorem dyF_is (L : List Dy) : ∃ nl s, dyF L = .fslc nl nl s (L.map dyA) ∧ (L = [] ∨ nl = false ∧ s = 3) := by
  unfold dyF
  split
  · rename_i e; subst e; exact ⟨true, 0, rfl, .inl rfl⟩
  · exact ⟨false, 3, rfl, .inr ⟨rfl, rfl⟩⟩
theorem ldF_is (L : Ld) : ∃ nl s, ldF L = .fslc nl nl s (L.map ldA) ∧ (L = [] ∨ nl = false ∧ s = 2) := by
  unfold ldF
  split
  · rename_i e; subst e; exact ⟨true, 0, rfl, .inl rfl⟩
  · exact ⟨false, 2, rfl, .inr ⟨rfl, rfl⟩⟩
/-- nobody watches the tower -/
def gapB (ls : List Lin) (t : ByteArray) (d : Int) : Bool := !(duR ls d).any fun p => eqB p.1 t
theorem gapsD_one (ls : List Lin) (t : ByteArray) (d : Int) : gapsD ls [t] d = if gapB ls t d then [(d, t, ByteArray.empty)] else [] := by
  unfold gapsD gapB
  cases h : (duR ls d).any fun p => eqB p.1 t <;> simp [h]
theorem gapsL_cons (ls : List Lin) (ts : List ByteArray) (d : Int) (k : Nat) : gapsL ls ts d (k + 1) = gapsD ls ts d ++ gapsL ls ts (d + 1) k := by
  unfold gapsL; rw [dys, List.flatMap_cons]
theorem dys_add : ∀ (a : Nat) (lo : Int) (b : Nat), dys lo (a + b) = dys lo a ++ dys (lo + a) b
  | 0, lo, b => by simp [dys]
  | a + 1, lo, b => by
    have ih := dys_add a (lo + 1) b
    rw [show a + 1 + b = (a + b) + 1 by omega, dys, ih, dys, List.cons_append]
    congr 3; omega
theorem gapsL_split (ls : List Lin) (ts : List ByteArray) (lo d hi : Int) (h1 : lo ≤ d) (h2 : d ≤ hi + 1) : gapsL ls ts lo (hi + 1 - lo).toNat = gapsL ls ts lo (d - lo).toNat ++ gapsL ls ts d (hi + 1 - d).toNat := by
  have e : (hi + 1 - lo).toNat = (d - lo).toNat + (hi + 1 - d).toNat := by omega
  have e2 : lo + ((d - lo).toNat : Int) = d := by omega
  unfold gapsL
  rw [e, dys_add, List.flatMap_append, e2]
theorem gapsL_ge (ls : List Lin) (ts : List ByteArray) : ∀ (k : Nat) (d : Int) (y : Dy), y ∈ gapsL ls ts d k → d ≤ y.1 := by
  intro k d y hy
  unfold gapsL at hy
  obtain ⟨e, he, hy⟩ := List.mem_flatMap.1 hy
  have := (mem_dys k d e).1 he
  unfold gapsD at hy
  obtain ⟨t, _, rfl⟩ := List.mem_map.1 hy
  exact this.1
/-- which gap comes next -/
theorem gap_next (ls : List Lin) (t : ByteArray) (lo d hi : Int) (h1 : lo ≤ d) (h2 : d ≤ hi) (A : List Dy) (hA : A = gapsL ls [t] lo (d - lo).toNat) :
    (gapB ls t d = true → (gapsL ls [t] lo (hi + 1 - lo).toNat)[A.length]? = some (d, t, ByteArray.empty)) ∧
    (gapB ls t d = false → ∀ y, (gapsL ls [t] lo (hi + 1 - lo).toNat)[A.length]? = some y → d < y.1) := by
  have e1 := gapsL_split ls [t] lo d hi h1 (by omega)
  have e2 : (hi + 1 - d).toNat = (hi - d).toNat + 1 := by omega
  rw [e1, ← hA, e2, gapsL_cons, gapsD_one]
  constructor
  · intro hg
    rw [hg, if_pos rfl]
    simp
  · intro hg y hy
    rw [hg, if_neg (by simp), List.nil_append, List.getElem?_append_right (Nat.le_refl _)] at hy
    have := gapsL_ge ls [t] _ _ y (List.mem_of_getElem? hy)
    omega
theorem whoT_gap (ls : List Lin) (t : ByteArray) (d : Int) : decide ((whoT (duR ls d) t).length = 0) = gapB ls t d := by
  unfold whoT gapB
  rw [List.length_map, Bool.eq_iff_iff, decide_eq_true_eq, List.length_eq_zero_iff, List.filter_eq_nil_iff, Bool.not_eq_true', List.any_eq_false]
end Go.AM

namespace Go.AM
open Go.Proofs Cw Du Go.RowKit
set_option maxRecDepth 10000
set_option maxHeartbeats 40000000
theorem ac_mid {P : Program} {fl : Nat} {c : Code} {K : St → Prop} {Q : Exit → St → Prop} {st : St} (Mid : St → Prop) (h2 : ∀ s, Mid s → K s) (h1 : ACode P fl c (thenA (fun s => ∃ s', Wk s s' ∧ Mid s') Q) st) : ACode P fl c (thenA K Q) st :=
  ac_post h1 fun e s hq => by
    cases e with
    | normal => obtain ⟨s', k, m⟩ := hq; exact ⟨s', k, h2 s' m⟩
    | _ => exact ⟨s, ⟨rfl, rfl, fun _ => .inr rfl, fun _ _ e => e⟩, hq⟩
theorem sumL_take (O : Ld) (i : Nat) (h : i < O.length) : sumL (O.take (i + 1)) = sumL (O.take i) + O[i].2 := by
  unfold sumL
  rw [List.take_succ_eq_append_getElem h, List.map_append, List.sum_append]; simp
theorem sumL_bd (O : Ld) (hO : ∀ p ∈ O, 0 ≤ p.2 ∧ p.2 ≤ 401) : ∀ i, 0 ≤ sumL (O.take i) ∧ sumL (O.take i) ≤ 401 * O.length := by
  have key : ∀ L : Ld, (∀ p ∈ L, 0 ≤ p.2 ∧ p.2 ≤ 401) → 0 ≤ sumL L ∧ sumL L ≤ 401 * L.length := by
    intro L
    induction L with
    | nil => simp [sumL]
    | cons x r ih =>
      intro h
      have h1 := ih fun p hp => h p (by simp [hp])
      have h2 := h x (by simp)
      unfold sumL at h1 ⊢
      simp only [List.map_cons, List.sum_cons, List.length_cons]
      omega
  intro i
  have h1 := key (O.take i) fun p hp => hO p (List.mem_of_mem_take hp)
  have h2 : (O.take i).length ≤ O.length := by rw [List.length_take]; omega
  omega
theorem WatchCounts_spec (nlL nl : Bool) (ls : List Lin) (l : List Ordr) (hnlL : ls = [] ∨ nlL = false ∧ 8 = 8) (hL : ∀ x ∈ ls, wfLn x ∧ x.exc.length ≤ 9223372036854775807) (hlL : ls.length ≤ 9223372036854775807) (hnl : l = [] ∨ nl = false ∧ 7 = 7) (hw : wfO l) (hl : l.length ≤ 9223372036854775807) (t : ByteArray) (lo hi : Int) :
    APure Tryz.prog 4 [.agg [.fslc nlL false 8 (ls.map encLn), .fslc nl false 7 (l.map encO)], sv t, .agg [iv .i64 lo, iv .i64 hi]] (bv true) := by
  intro h n
  have k0 := few_spec nlL false 8 ls hnlL hL hlL nl false 7 l hnl hw hl
  have k9 := Go.Proofs.SAN.sanity_ok
  refine ACalls.pure (ACalls.entry (by kernel_rfl) fun hb _ => calls_of Tryz.func4 rfl (by kernel_rfl) (by simp [Tryz.ntmps4]) ?_)
  cases hf : fewW ls l with
  | false =>
    rw [hf] at k0
    generalize List.map encLn ls = LL at *
    generalize List.map encO l = OO at *
    clear hf hnlL hL hlL hnl hw hl
    repeat' (first | (refine ac_seq_h fun K hK => ?_) | (refine ac_region_h fun K hK => ?_; simp (disch := omega) [go_sem, *, upd_ne, Tryz.ntmps4 ]) | (apply Hide.out hK; clear hK K; try with_reducible dsimp only [thenA]) | (apply Hide.out ht; clear ht hf Kt Kf) | (with_reducible refine APure.gcall (k0) ?_; try simp (disch := omega) [go_sem, * ]) | (with_reducible refine APure.gcall (k9) ?_; try simp (disch := omega) [go_sem, * ]) | (refine ac_cond_h fun Kt Kf ht hf => ?_; simp (disch := omega) [go_sem, * ]; try (refine ⟨fun hc => ?_, fun hc => ?_⟩ <;> try (exfalso; omega))))
    (refine ac_ret ?_; try dsimp only [thenA, blockA]; refine ⟨by simp, _, (by first | rfl | (simp (disch := omega) [go_sem, upd_ne] <;> rfl)), ?_⟩; refine ret_id ⟨fun k hk => (by first | rfl | (repeat rw [upd_ne _ _ _ _ (by omega)])), (by simp [go_sem, below]), (by simp [go_sem] <;> omega), by simp, by simp⟩)
  | true =>
    rw [hf] at k0
    obtain ⟨g1, g2, g3, g4⟩ := fewW_sm hf hL hw
    by_cases ht : t.size > 60
    · generalize List.map encLn ls = LL at *
      generalize List.map encO l = OO at *
      clear hf hnlL hL hlL hnl hw hl g1 g2 g3 g4
      repeat' (first | (refine ac_seq_h fun K hK => ?_) | (refine ac_region_h fun K hK => ?_; simp (disch := omega) [go_sem, *, upd_ne, Tryz.ntmps4 ]) | (apply Hide.out hK; clear hK K; try with_reducible dsimp only [thenA]) | (apply Hide.out ht; clear ht hf Kt Kf) | (with_reducible refine APure.gcall (k0) ?_; try simp (disch := omega) [go_sem, *, ilt_true ]) | (with_reducible refine APure.gcall (k9) ?_; try simp (disch := omega) [go_sem, * ]) | (refine ac_cond_h fun Kt Kf ht hf => ?_; simp (disch := omega) [go_sem, * ]; try (refine ⟨fun hc => ?_, fun hc => ?_⟩ <;> try (exfalso; omega))))
      (refine ac_ret ?_; try dsimp only [thenA, blockA]; refine ⟨by simp, _, (by first | rfl | (simp (disch := omega) [go_sem, upd_ne] <;> rfl)), ?_⟩; refine ret_id ⟨fun k hk => (by first | rfl | (repeat rw [upd_ne _ _ _ _ (by omega)])), (by simp [go_sem, below]), (by simp [go_sem] <;> omega), by simp, by simp⟩)
    · by_cases hlo : lo < 0
      · generalize List.map encLn ls = LL at *
        generalize List.map encO l = OO at *
        clear hf hnlL hL hlL hnl hw hl g1 g2 g3 g4
        repeat' (first | (refine ac_seq_h fun K hK => ?_) | (refine ac_region_h fun K hK => ?_; simp (disch := omega) [go_sem, *, upd_ne, Tryz.ntmps4 ]) | (apply Hide.out hK; clear hK K; try with_reducible dsimp only [thenA]) | (apply Hide.out ht; clear ht hf Kt Kf) | (with_reducible refine APure.gcall (k0) ?_; try simp (disch := omega) [go_sem, *, ilt_false ]) | (with_reducible refine APure.gcall (k9) ?_; try simp (disch := omega) [go_sem, * ]) | (refine ac_cond_h fun Kt Kf ht hf => ?_; simp (disch := omega) [go_sem, * ]; try (refine ⟨fun hc => ?_, fun hc => ?_⟩ <;> try (exfalso; omega))))
        (refine ac_ret ?_; try dsimp only [thenA, blockA]; refine ⟨by simp, _, (by first | rfl | (simp (disch := omega) [go_sem, upd_ne] <;> rfl)), ?_⟩; refine ret_id ⟨fun k hk => (by first | rfl | (repeat rw [upd_ne _ _ _ _ (by omega)])), (by simp [go_sem, below]), (by simp [go_sem] <;> omega), by simp, by simp⟩)
      · by_cases hhi : hi > 400
        · generalize List.map encLn ls = LL at *
          generalize List.map encO l = OO at *
          clear hf hnlL hL hlL hnl hw hl g1 g2 g3 g4
          repeat' (first | (refine ac_seq_h fun K hK => ?_) | (refine ac_region_h fun K hK => ?_; simp (disch := omega) [go_sem, *, upd_ne, Tryz.ntmps4 ]) | (apply Hide.out hK; clear hK K; try with_reducible dsimp only [thenA]) | (apply Hide.out ht; clear ht hf Kt Kf) | (with_reducible refine APure.gcall (k0) ?_; try simp (disch := omega) [go_sem, *, ilt_false ]) | (with_reducible refine APure.gcall (k9) ?_; try simp (disch := omega) [go_sem, * ]) | (refine ac_cond_h fun Kt Kf ht hf => ?_; simp (disch := omega) [go_sem, * ]; try (refine ⟨fun hc => ?_, fun hc => ?_⟩ <;> try (exfalso; omega))))
          (refine ac_ret ?_; try dsimp only [thenA, blockA]; refine ⟨by simp, _, (by first | rfl | (simp (disch := omega) [go_sem, upd_ne] <;> rfl)), ?_⟩; refine ret_id ⟨fun k hk => (by first | rfl | (repeat rw [upd_ne _ _ _ _ (by omega)])), (by simp [go_sem, below]), (by simp [go_sem] <;> omega), by simp, by simp⟩)
        · have k1 := Gaps_spec nlL false 8 ls hnlL g1 g3 nl false 7 l hnl hw g2 g4 false false 1 [t] (.inr ⟨rfl, rfl⟩) (by simp) (fun x hx => by rw [List.mem_singleton] at hx; subst hx; omega) lo hi
          have k2 := Loads_spec nlL false 8 ls hnlL g1 g3 nl false 7 l hnl hw g2 g4 lo hi
          simp only [List.map_cons, List.map_nil] at k1
          by_cases he : errG ls l [t] lo hi ≠ 0
          · have ho : outG ls l [t] lo hi = ([], errG ls l [t] lo hi) := by unfold outG; rw [if_pos he]
            rw [ho] at k1
            rw [show dyF ([], errG ls l [t] lo hi).1 = .fslc true true 0 [] from rfl] at k1
            simp only at k1
            have hne : (errG ls l [t] lo hi != 0) = true := by simpa using he
            generalize errG ls l [t] lo hi = e at *
            obtain ⟨a1, a2, q1, _⟩ := ldF_is (outL ls l lo hi).1
            rw [q1] at k2
            generalize (outL ls l lo hi).2 = e2 at *
            generalize List.map ldA (outL ls l lo hi).1 = DL at *
            generalize List.map encLn ls = LL at *
            generalize List.map encO l = OO at *
            generalize hwr : IntKind.i64.wrap (hi - lo) = w at *
            clear hf hnlL hL hlL hnl hw hl g1 g2 g3 g4 ho he q1
            by_cases hw60 : w > 60
            · skip
              repeat' (first | (refine ac_seq_h fun K hK => ?_) | (refine ac_region_h fun K hK => ?_; simp (disch := omega) [go_sem, *, upd_ne, Tryz.ntmps4 ]) | (apply Hide.out hK; clear hK K; try with_reducible dsimp only [thenA]) | (apply Hide.out ht; clear ht hf Kt Kf) | (with_reducible refine APure.gcall (k0) ?_; try simp (disch := omega) [go_sem, *, ilt_false ]) | (with_reducible refine APure.gcall (k9) ?_; try simp (disch := omega) [go_sem, * ]) | (refine ac_cond_h fun Kt Kf ht hf => ?_; simp (disch := omega) [go_sem, * ]; try (refine ⟨fun hc => ?_, fun hc => ?_⟩ <;> try (exfalso; omega))))
              (refine ac_ret ?_; try dsimp only [thenA, blockA]; refine ⟨by simp, _, (by first | rfl | (simp (disch := omega) [go_sem, upd_ne] <;> rfl)), ?_⟩; refine ret_id ⟨fun k hk => (by first | rfl | (repeat rw [upd_ne _ _ _ _ (by omega)])), (by simp [go_sem, below]), (by simp [go_sem] <;> omega), by simp, by simp⟩)
            · skip
              repeat' (first | (refine ac_seq_h fun K hK => ?_) | (refine ac_region_h fun K hK => ?_; simp (disch := omega) [go_sem, *, upd_ne, Tryz.ntmps4 ]) | (apply Hide.out hK; clear hK K; try with_reducible dsimp only [thenA]) | (apply Hide.out ht; clear ht hf Kt Kf) | (apply Hide.out hf; clear ht hf Kt Kf) | (with_reducible refine APure.gcall (k0) ?_; try simp (disch := omega) [go_sem, *, ilt_false ]) | (with_reducible refine APure.gcall (k9) ?_; try simp (disch := omega) [go_sem, * ]) | (with_reducible refine APure.gcall (k1) ?_; try simp (disch := omega) [go_sem, * ]) | (with_reducible refine APure.gcall (k2) ?_; try simp (disch := omega) [go_sem, * ]) | (refine ac_skip ?_; simp only [thenA]) | (refine ac_cond_h fun Kt Kf ht hf => ?_; simp (disch := omega) [go_sem, * ]; try (refine ⟨fun hc => ?_, fun hc => ?_⟩ <;> try (exfalso; omega))))
              (refine ac_ret ?_; try dsimp only [thenA, blockA]; refine ⟨by simp, _, (by first | rfl | (simp (disch := omega) [go_sem, upd_ne] <;> rfl)), ?_⟩; refine ret_id ⟨fun k hk => (by first | rfl | (repeat rw [upd_ne _ _ _ _ (by omega)])), (by simp [go_sem, below]), (by simp [go_sem] <;> omega), by simp, by simp⟩)
          · have he0 : errG ls l [t] lo hi = 0 := by simpa using he
            have hc : chkS ls l lo hi = 0 := by
              unfold errG at he0
              split at he0
              · exact he0
              · rename_i hh; simpa using hh
            obtain ⟨hc0, hlo0, hlh, hh4⟩ := chkS_zero hc
            have hn : nameOk t = true := by
              unfold errG at he0
              rw [if_neg (by simpa using hc)] at he0
              split at he0
              · cases he0
              · rename_i hh; simpa using hh
            by_cases h60 : hi - lo > 60
            · generalize List.map encLn ls = LL at *
              generalize List.map encO l = OO at *
              clear hf hnlL hL hlL hnl hw hl g1 g2 g3 g4 k1 k2 he0 hc hc0 hn he
              repeat' (first | (refine ac_seq_h fun K hK => ?_) | (refine ac_region_h fun K hK => ?_; simp (disch := omega) [go_sem, *, upd_ne, Tryz.ntmps4 ]) | (apply Hide.out hK; clear hK K; try with_reducible dsimp only [thenA]) | (apply Hide.out ht; clear ht hf Kt Kf) | (with_reducible refine APure.gcall (k0) ?_; try simp (disch := omega) [go_sem, *, wrap64_id, ilt_false ]) | (with_reducible refine APure.gcall (k9) ?_; try simp (disch := omega) [go_sem, * ]) | (refine ac_cond_h fun Kt Kf ht hf => ?_; simp (disch := omega) [go_sem, * ]; try (refine ⟨fun hc => ?_, fun hc => ?_⟩ <;> try (exfalso; omega))))
              (refine ac_ret ?_; try dsimp only [thenA, blockA]; refine ⟨by simp, _, (by first | rfl | (simp (disch := omega) [go_sem, upd_ne] <;> rfl)), ?_⟩; refine ret_id ⟨fun k hk => (by first | rfl | (repeat rw [upd_ne _ _ _ _ (by omega)])), (by simp [go_sem, below]), (by simp [go_sem] <;> omega), by simp, by simp⟩)
            · have hz := chkW_zero hc0 g1
              have ho : outG ls l [t] lo hi = (gapsL ls [t] lo (hi + 1 - lo).toNat, 0) := by unfold outG; rw [if_neg he]
              have hoL : outL ls l lo hi = (ldS ls lo (hi + 1 - lo).toNat, 0) := by unfold outL; rw [if_neg (by simpa using hc)]
              rw [ho] at k1
              rw [hoL] at k2
              simp only at k1 k2
              have kw := fun d => Who_spec nlL false 8 ls hnlL g1 g3 nl false 7 l hnl hw g2 g4 d t (by omega)
              have kd := fun d => Duties_spec nlL false 8 ls hnlL g1 g3 nl false 7 l hnl hw g2 g4 d
              have hD : ∀ d, lo ≤ d → d ≤ hi → outDu ls l d = (duR ls d, 0) := fun d h1 h2 => by
                unfold outDu; rw [if_neg (by simpa using hc0), if_pos (by omega)]; rfl
              have hW : ∀ d, lo ≤ d → d ≤ hi → outWho ls l d t = (whoT (duR ls d) t, 0) := fun d h1 h2 => by
                unfold outWho; rw [hD d h1 h2, if_neg (by simp), if_pos hn]
              have hGl : (gapsL ls [t] lo (hi + 1 - lo).toNat).length ≤ 61 := by
                have h1 := gapsL_len ls [t] (hi + 1 - lo).toNat lo
                simp only [List.length_singleton, Nat.mul_one] at h1; omega
              have hsl := sumL_le ls lo (hi + 1 - lo).toNat
              obtain ⟨a1, a2, q1, q2⟩ := dyF_is (gapsL ls [t] lo (hi + 1 - lo).toNat)
              obtain ⟨b1, b2, q3, q4⟩ := ldF_is (ldS ls lo (hi + 1 - lo).toNat)
              rw [q1] at k1
              rw [q3] at k2
              have hgn := fun d h1 h2 A hA => gap_next ls t lo d hi h1 h2 A hA
              have hsp := fun d h1 h2 => gapsL_split ls [t] lo d hi h1 h2
              replace hgn : Hide _ := hgn
              replace hsp : Hide _ := hsp
              replace kw : Hide _ := kw
              replace kd : Hide _ := kd
              replace hD : Hide _ := hD
              replace hW : Hide _ := hW
              replace q2 : Hide _ := q2
              replace q4 : Hide _ := q4
              replace hz : Hide _ := hz
              replace hnlL : Hide _ := hnlL
              replace hL : Hide _ := hL
              have hk0 : k0 = k0 := rfl
              clear hf hnl hw hl g1 g2 q1 q3 ho hoL he he0 hc hc0 hn hk0
              obtain ⟨G, hG⟩ : ∃ G, Hide (G = gapsL ls [t] lo (hi + 1 - lo).toNat) := ⟨_, rfl⟩
              obtain ⟨O, hO⟩ : ∃ O, Hide (O = ldS ls lo (hi + 1 - lo).toNat) := ⟨_, rfl⟩
              simp only [← hG.out] at k1 q2 hGl hgn
              simp only [← hO.out] at k2 q4 hsl
              generalize hLL : List.map encLn ls = LL at *
              generalize List.map encO l = OO at *
              replace hLL : Hide _ := hLL
              repeat' (first | (refine ac_seq_h fun K hK => ?_) | (refine ac_region_h fun K hK => ?_; simp (disch := omega) [go_sem, *, upd_ne, Tryz.ntmps4 ]) | (apply Hide.out hK; clear hK K; try with_reducible dsimp only [thenA]) | (apply Hide.out hf; clear ht hf Kt Kf) | (with_reducible refine APure.gcall (k0) ?_; try simp (disch := omega) [go_sem, *, wrap64_id, ilt_false ]) | (with_reducible refine APure.gcall (k1) ?_; try simp (disch := omega) [go_sem, * ]) | (with_reducible refine APure.gcall (k2) ?_; try simp (disch := omega) [go_sem, * ]) | (refine ac_block ?_) | (refine ac_skip ?_; simp only [thenA]) | (refine ac_cond_h fun Kt Kf ht hf => ?_; simp (disch := omega) [go_sem, * ]; try (refine ⟨fun hc => ?_, fun hc => ?_⟩ <;> try (exfalso; omega))))
              obtain ⟨H3, hH3⟩ : ∃ H3, Hide (H3 = (h.upd n (some (.cells [.fslc nlL false 8 LL, .fslc nl false 7 OO]))).upd (n + 1) (some (.cells [iv .i64 lo, iv .i64 hi]))) := ⟨_, rfl⟩
              have hb0 : H3 n = some (.cells [.fslc nlL false 8 LL, .fslc nl false 7 OO]) := by rw [hH3.out]; simp (disch := omega) only [upd_ne, upd_same]
              have hb1 : H3 (n + 1) = some (.cells [iv .i64 lo, iv .i64 hi]) := by rw [hH3.out]; simp (disch := omega) only [upd_same]
              have hfr : Hide (∀ x, x < n → H3 x = h x) := fun x hx => by rw [hH3.out]; simp (disch := omega) only [upd_ne]
              simp only [← hH3.out]
              replace hH3 : Hide _ := trivial
              clear k0 k1 k2
              have k18 := fun d => lduty d t ⟨#[]⟩
              have hem : (ByteArray.empty.toList == (⟨#[]⟩ : ByteArray).toList) = true := by rw [show ByteArray.empty = (⟨#[]⟩ : ByteArray) from rfl]; simp
              refine ac_loop_wk (fun s' => ∃ (d : Int) (n' : Nat) (A : List Dy) (cn : Int), n + 10 ≤ n' ∧ lo ≤ d ∧ d ≤ hi + 1 ∧ A = gapsL ls [t] lo (d - lo).toNat ∧ cn = sumL (ldS ls lo (d - lo).toNat) ∧ s' = ⟨233, [(1, sv t), (3, .ptr n 0), (5, .ptr (n + 1) 0), (7, .fslc a1 a1 a2 (G.map dyA)), (9, .fslc b1 b1 b2 (O.map ldA)), (11, iv .i64 cn), (12, iv .i64 A.length), (13, iv .i64 d)], H3, n'⟩)
                (fun s' => (hi + 1 - intAt s' 13).toNat) ?_ ?_
              · exact loop_start (by simp [go_sem]) (Sub.refl _) ⟨lo, _, [], 0, by omega, by omega, by omega, by rw [Int.sub_self]; rfl, by rw [Int.sub_self]; rfl, rfl⟩
              · rintro s' ⟨d, n', A, cn, r1, r2, r3, r4, r5, rfl⟩
                have hsl2 := sumL_le ls lo (d - lo).toNat
                rw [← r5] at hsl2
                have hls := hz.out.2.1
                have hcn : 0 ≤ cn ∧ cn ≤ 401 * 60 := by
                  have : (((d - lo).toNat : Nat) : Int) * ls.length ≤ 401 * 60 := by
                    have := Nat.mul_le_mul (show (d - lo).toNat ≤ 401 by omega) hls
                    exact_mod_cast this
                  omega
                have hAl : A.length ≤ 500 := by
                  rw [r4]
                  have h1 := gapsL_len ls [t] (d - lo).toNat lo
                  simp only [List.length_singleton, Nat.mul_one] at h1; omega
                clear hsl2
                by_cases hdh : d ≤ hi
                · have kwd := kw.out d
                  have kdd := kd.out d
                  rw [hW.out d r2 hdh] at kwd
                  rw [hD.out d r2 hdh] at kdd
                  have hA' : gapsL ls [t] lo (d + 1 - lo).toNat = A ++ if gapB ls t d then [(d, t, ByteArray.empty)] else [] := by
                    rw [r4]; unfold gapsL; rw [dys_to lo d r2, List.flatMap_append]; simp [gapsD_one]
                  have hS' : sumL (ldS ls lo (d + 1 - lo).toNat) = cn + (fstP [] (duR ls d)).length := by
                    rw [ldS_to ls lo d r2, sumL_day, ← r5]
                  have hgd := hgn.out d r2 hdh A r4
                  have hwg := whoT_gap ls t d
                  have hwl : (whoT (duR ls d) t).length ≤ 60 := Nat.le_trans (whoT_len _ _) (Nat.le_trans (duR_len ls d) hls)
                  have hSl := duR_len ls d
                  have hrest := rest_none ls
                  have hWv : whoV (whoT (duR ls d) t, 0) = .fslc ((whoT (duR ls d) t).map sv).isEmpty false 1 ((whoT (duR ls d) t).map sv) := by unfold whoV; rw [if_neg (by simp)]
                  rw [hWv] at kwd
                  obtain ⟨c1, c2, q5, q6⟩ := dutF_is d (duR ls d)
                  rw [q5] at kdd
                  simp only at kwd kdd
                  have hrd : Hide (∀ x, ls.getLast? = some x → x.kind = 2 → onL x d = true → ∀ p, p ∈ duR ls d → eqB p.2 x.person = false) := fun x h1 h2 h3 p hp => hrest x d h1 h2 h3 p hp
                  have hwE : ((whoT (duR ls d) t).map sv).length = (whoT (duR ls d) t).length := by simp
                  generalize ((whoT (duR ls d) t).map sv).isEmpty = we at *
                  generalize (whoT (duR ls d) t).map sv = WT at *
                  generalize (whoT (duR ls d) t).length = wl at *
                  generalize duR ls d = S at *
                  replace hA' : Hide _ := hA'
                  replace hS' : Hide _ := hS'
                  replace hWv : Hide _ := trivial
                  replace q5 : Hide _ := trivial
                  replace q6 : Hide _ := q6
                  replace r4 : Hide _ := trivial
                  replace r5 : Hide _ := trivial
                  clear hrest
                  have hcase : (gapB ls t d = true ∧ wl = 0 ∧ ∃ hlt : A.length < G.length, dyA G[A.length] = .agg [iv .i64 d, sv t, sv ByteArray.empty]) ∨ (gapB ls t d = false ∧ wl ≠ 0 ∧ (A.length < G.length → ∃ (hlt : A.length < G.length) (y : Dy), dyA G[A.length] = .agg [iv .i64 y.1, sv y.2.1, sv y.2.2] ∧ (y.1 == d) = false)) := by
                    cases hg : gapB ls t d with
                    | true =>
                      rw [hg] at hwg
                      have h1 := hgd.1 hg
                      obtain ⟨h2, h3⟩ := List.getElem?_eq_some_iff.1 h1
                      exact .inl ⟨rfl, by simpa using hwg, h2, by rw [h3]; rfl⟩
                    | false =>
                      rw [hg] at hwg
                      refine .inr ⟨rfl, by simpa using hwg, fun h2 => ⟨h2, G[A.length], rfl, ?_⟩⟩
                      have := hgd.2 hg G[A.length] (List.getElem?_eq_getElem h2)
                      rw [beq_eq_false_iff_ne]; omega
                  replace hgd : Hide _ := trivial
                  replace hwg : Hide _ := trivial
                  have hnx : ∀ z, gapB ls t d = z → Hide (gapsL ls [t] lo (d + 1 - lo).toNat = A ++ if z then [(d, t, ByteArray.empty)] else []) := fun z hz => by subst hz; exact hA'.out
                  obtain ⟨gz, hgz⟩ : ∃ gz, gapB ls t d = gz := ⟨_, rfl⟩
                  have hwz : ((wl : Int) == 0) = gz := by
                    rcases hcase with ⟨hg, hw0, _⟩ | ⟨hg, hw0, _⟩
                    · rw [← hgz, hg, hw0]; rfl
                    · rw [← hgz, hg, beq_eq_false_iff_ne]; omega
                  have hA2 := hnx _ hgz
                  replace hnx : Hide _ := trivial
                  replace hcase : Hide _ := hcase
                  replace hgz : Hide _ := hgz
                  repeat' (first | (refine ac_seq_h fun K hK => ?_) | (refine ac_region_h fun K hK => ?_; simp (disch := omega) [go_sem, *]) | (apply Hide.out hK; clear hK K; try with_reducible dsimp only [thenA]) | (apply Hide.out ht; clear ht hf Kt Kf) | (apply Hide.out hf; clear ht hf Kt Kf) | (with_reducible refine APure.gcall (kwd) ?_; try simp (disch := omega) [go_sem, *]) | (with_reducible refine APure.gcall (kdd) ?_; try simp (disch := omega) [go_sem, *]) | (refine ac_block ?_) | (refine ac_skip ?_; simp only [thenA]) | (refine ac_cond_h fun Kt Kf ht hf => ?_; simp (disch := omega) [go_sem, *]; try (refine ⟨fun hc => ?_, fun hc => ?_⟩ <;> try (exfalso; omega))))
                  refine ac_mid (fun s' => ∃ n5, n + 10 ≤ n5 ∧ s' = ⟨233, [(1, sv t), (3, .ptr n 0), (5, .ptr (n + 1) 0), (7, .fslc a1 a1 a2 (G.map dyA)), (9, .fslc b1 b1 b2 (O.map ldA)), (11, iv .i64 cn), (12, iv .i64 A.length), (13, iv .i64 d), (14, .fslc we false 1 WT), (16, .fslc c1 c1 c2 (S.map (dutyA d))), (18, bv gz)], H3, n5⟩) ?_ ?_
                  · clear kwd kdd
                    rintro s' ⟨n5, hn5, rfl⟩
                    refine hK.out _ ?_
                    clear hK K
                    iterate 10 (first | (refine ac_seq_h fun K hK => ?_) | (refine ac_region_h fun K hK => ?_; simp (disch := omega) [go_sem, *]) | (apply Hide.out hK; clear hK K; try with_reducible dsimp only [thenA]) | (apply Hide.out hf; clear ht hf Kt Kf) | (refine ac_skip ?_; simp only [thenA]) | (refine ac_cond_h fun Kt Kf ht hf => ?_; simp (disch := omega) [go_sem, *]; try (refine ⟨fun hc => ?_, fun hc => ?_⟩ <;> try (exfalso; omega))))
                    refine ac_mid (fun s' => ∃ (n6 : Nat) (A2 : List Dy), n + 10 ≤ n6 ∧ A2 = gapsL ls [t] lo (d + 1 - lo).toNat ∧ s' = ⟨233, [(1, sv t), (3, .ptr n 0), (5, .ptr (n + 1) 0), (7, .fslc a1 a1 a2 (G.map dyA)), (9, .fslc b1 b1 b2 (O.map ldA)), (11, iv .i64 cn), (12, iv .i64 A2.length), (13, iv .i64 d), (16, .fslc c1 c1 c2 (S.map (dutyA d)))], H3, n6⟩) ?_ ?_
                    · rintro s' ⟨n6, B, hn6, hB, rfl⟩
                      have hA3 : Hide (gapsL ls [t] lo (d + 1 - lo).toNat = B) := hB.symm
                      have hBl : B.length ≤ 600 := by
                        rw [hB]
                        have h1 := gapsL_len ls [t] (d + 1 - lo).toNat lo
                        simp only [List.length_singleton, Nat.mul_one] at h1; omega
                      replace hB : Hide _ := trivial
                      replace hA2 : Hide _ := trivial
                      replace hgz : Hide _ := trivial
                      replace hcase : Hide _ := trivial
                      replace hwz : Hide _ := trivial
                      refine hK.out _ ?_
                      clear hK K
                      repeat' (first | (refine ac_seq_h fun K hK => ?_) | (refine ac_region_h fun K hK => ?_; simp (disch := omega) [go_sem, *]) | (apply Hide.out hK; clear hK K; try with_reducible dsimp only [thenA]) | (refine ac_block ?_))
                      refine ac_loop_wk (fun s' => ∃ (i n3 : Nat) (c3 : Int), n + 10 ≤ n3 ∧ i ≤ S.length ∧ c3 = cn + (fstP [] (S.take i)).length ∧ s' = ⟨233, [(1, sv t), (3, .ptr n 0), (5, .ptr (n + 1) 0), (7, .fslc a1 a1 a2 (G.map dyA)), (9, .fslc b1 b1 b2 (O.map ldA)), (11, iv .i64 c3), (12, iv .i64 B.length), (13, iv .i64 d), (16, .fslc c1 c1 c2 (S.map (dutyA d))), (19, iv .i64 i)], H3, n3⟩)
                        (fun s' => S.length - (intAt s' 19).toNat) ?_ ?_
                      · exact loop_start (by simp [go_sem]) (Sub.refl _) ⟨0, _, cn, by omega, by omega, by simp [fstP], rfl⟩
                      · rintro s' ⟨i, n3, c3, u1, u2, u3, rfl⟩
                        have hc3 : 0 ≤ c3 ∧ c3 ≤ 401 * 60 + 60 := by
                          have := fstP_len (S.take i) []
                          rw [List.length_take] at this; omega
                        by_cases hiS : i < S.length
                        · obtain ⟨p, hp⟩ : ∃ p, S[i] = p := ⟨_, rfl⟩
                          have hneS : S ≠ [] := fun e => by rw [e] at hiS; simp at hiS
                          obtain ⟨rfl, rfl⟩ := q6.out.resolve_left hneS
                          have hpm : p ∈ S := hp ▸ List.getElem_mem hiS
                          have hexi : dutyA d S[i] = .agg [iv .i64 d, sv p.1, sv p.2] := by rw [hp]; rfl
                          have hstep : cn + (fstP [] (S.take (i + 1))).length = c3 + if ((S.take i).any fun q => eqB q.2 p.2) = true then 0 else 1 := by
                            rw [List.take_succ_eq_append_getElem hiS, hp, fstP_snoc, List.nil_append, List.length_append, u3]
                            by_cases ha : ((S.take i).any fun q => eqB q.2 p.2) = true
                            · rw [if_pos ((cntP_any _ _).2 ha), if_pos ha]; simp
                            · rw [if_neg fun hh => ha ((cntP_any _ _).1 hh), if_neg ha]; simp; omega
                          have hrp := fun x h1 h2 h3 => hrd.out x h1 h2 h3 p hpm
                          replace hp : Hide _ := hp
                          replace hstep : Hide _ := hstep
                          replace hrp : Hide _ := hrp
                          replace u3 : Hide _ := trivial
                          replace hpm : Hide _ := trivial
                          clear hneS
                          obtain ⟨p1, p2⟩ := p
                          simp only at hexi
                          repeat' (first | (refine ac_seq_h fun K hK => ?_) | (refine ac_region_h fun K hK => ?_; simp (disch := omega) [go_sem, *, ilt_true]) | (apply Hide.out hK; clear hK K; try with_reducible dsimp only [thenA]) | (apply Hide.out ht; clear ht hf Kt Kf) | (refine ac_block ?_) | (refine ac_skip ?_; simp only [thenA]) | (refine ac_cond_h fun Kt Kf ht hf => ?_; simp (disch := omega) [go_sem, *]; try (refine ⟨fun hc => ?_, fun hc => ?_⟩ <;> try (exfalso; omega))))
                          refine ac_loop_wk (fun s' => ∃ (k n4 : Nat) (z : Bool), n + 10 ≤ n4 ∧ k ≤ i ∧ z = !((S.take k).any fun q => eqB q.2 p2) ∧ s' = ⟨233, [(1, sv t), (3, .ptr n 0), (5, .ptr (n + 1) 0), (7, .fslc a1 a1 a2 (G.map dyA)), (9, .fslc b1 b1 b2 (O.map ldA)), (11, iv .i64 c3), (12, iv .i64 B.length), (13, iv .i64 d), (16, .fslc false false 3 (S.map (dutyA d))), (19, iv .i64 i), (20, bv z), (21, iv .i64 k)], H3, n4⟩)
                            (fun s' => i - (intAt s' 21).toNat) ?_ ?_
                          · exact loop_start (by simp [go_sem]) (Sub.refl _) ⟨0, _, true, by omega, by omega, by simp, rfl⟩
                          · rintro s' ⟨k, n4, z, v1, v2, v3, rfl⟩
                            by_cases hki : k < i
                            · have hkS : k < S.length := by omega
                              obtain ⟨q, hq⟩ : ∃ q, S[k] = q := ⟨_, rfl⟩
                              have hexk : dutyA d S[k] = .agg [iv .i64 d, sv q.1, sv q.2] := by rw [hq]; rfl
                              have hnx : (!((S.take (k + 1)).any fun q => eqB q.2 p2)) = (z && !eqB q.2 p2) := by
                                rw [List.take_succ_eq_append_getElem hkS, hq, List.any_append, v3]; simp
                              replace hq : Hide _ := hq
                              replace v3 : Hide _ := trivial
                              cases z with
                              | false =>
                                rw [Bool.false_and] at hnx
                                replace hnx : Hide _ := hnx
                                repeat' (first | (refine ac_seq_h fun K hK => ?_) | (refine ac_region_h fun K hK => ?_; simp (disch := omega) [go_sem, *, wrap64_id, ilt_true]) | (refine ac_draw_h mixed (by kernel_rfl) fun K hK => ?_; simp (disch := omega) [go_sem, *]) | (apply Hide.out hK; clear hK K; try with_reducible dsimp only [thenA]) | (apply Hide.out ht; clear ht hf Kt Kf) | (refine ac_block ?_) | (refine ac_skip ?_; simp only [thenA]) | (refine ac_cond_h fun Kt Kf ht hf => ?_; simp (disch := omega) [go_sem, *]; try (refine ⟨fun hc => ?_, fun hc => ?_⟩ <;> try (exfalso; omega))))
                                exact round_end (by simp (disch := omega) [go_sem]) (Sub.refl _) ⟨k + 1, _, false, by omega, by omega, hnx.out.symm, rfl⟩ (by simp [intAt, go_sem]; omega)
                              | true =>
                                rw [Bool.true_and] at hnx
                                unfold eqB at hnx
                                cases hqq : (q.2.toList == p2.toList) with
                                | true =>
                                  rw [hqq] at hnx
                                  replace hnx : Hide _ := hnx
                                  repeat' (first | (refine ac_seq_h fun K hK => ?_) | (refine ac_region_h fun K hK => ?_; simp (disch := omega) [go_sem, *, wrap64_id, ilt_true]) | (refine ac_draw_h mixed (by kernel_rfl) fun K hK => ?_; simp (disch := omega) [go_sem, *, ile_true]) | (apply Hide.out hK; clear hK K; try with_reducible dsimp only [thenA]) | (apply Hide.out ht; clear ht hf Kt Kf) | (refine ac_block ?_) | (refine ac_skip ?_; simp only [thenA]) | (refine ac_cond_h fun Kt Kf ht hf => ?_; simp (disch := omega) [go_sem, *]; try (refine ⟨fun hc => ?_, fun hc => ?_⟩ <;> try (exfalso; omega))))
                                  exact round_end (by simp (disch := omega) [go_sem]) (Sub.refl _) ⟨k + 1, _, false, by omega, by omega, hnx.out.symm, rfl⟩ (by simp [intAt, go_sem]; omega)
                                | false =>
                                  rw [hqq] at hnx
                                  replace hnx : Hide _ := hnx
                                  repeat' (first | (refine ac_seq_h fun K hK => ?_) | (refine ac_region_h fun K hK => ?_; simp (disch := omega) [go_sem, *, wrap64_id, ilt_true]) | (refine ac_draw_h mixed (by kernel_rfl) fun K hK => ?_; simp (disch := omega) [go_sem, *, ile_true]) | (apply Hide.out hK; clear hK K; try with_reducible dsimp only [thenA]) | (apply Hide.out ht; clear ht hf Kt Kf) | (refine ac_block ?_) | (refine ac_skip ?_; simp only [thenA]) | (refine ac_cond_h fun Kt Kf ht hf => ?_; simp (disch := omega) [go_sem, *]; try (refine ⟨fun hc => ?_, fun hc => ?_⟩ <;> try (exfalso; omega))))
                                  exact round_end (by simp (disch := omega) [go_sem]) (Sub.refl _) ⟨k + 1, _, true, by omega, by omega, hnx.out.symm, rfl⟩ (by simp [intAt, go_sem]; omega)
                            · have hkk : k = i := by omega
                              subst hkk
                              have hst := hstep.out
                              have hzz : ∀ z2 : Bool, z = z2 → Hide (cn + (fstP [] (S.take (k + 1))).length = c3 + if z2 = true then 1 else 0) := fun z2 e => by
                                show _ = _
                                rw [hst]
                                subst e
                                rw [v3]
                                cases ((S.take k).any fun q => eqB q.2 p2) <;> rfl
                              replace hst : Hide _ := trivial
                              replace v3 : Hide _ := trivial
                              replace hstep : Hide _ := trivial
                              replace hzz : Hide _ := hzz
                              iterate 10 (first | (refine ac_seq_h fun K hK => ?_) | (refine ac_region_h fun K hK => ?_; simp (disch := omega) [go_sem, *]) | (apply Hide.out hK; clear hK K; try with_reducible dsimp only [thenA]) | (apply Hide.out hf; clear ht hf Kt Kf) | (clear hK K; apply Hide.out hK; clear hK K; try with_reducible dsimp only [thenA]) | (refine ac_exit ?_; simp only [thenA, blockA, if_true, if_false, Nat.reduceEqDiff]) | (refine ac_cond_h fun Kt Kf ht hf => ?_; simp (disch := omega) [go_sem, *]; try (refine ⟨fun hc => ?_, fun hc => ?_⟩ <;> try (exfalso; omega))))
                              refine ac_mid (fun s' => ∃ (n5 : Nat) (c4 : Int), n + 10 ≤ n5 ∧ c4 = cn + (fstP [] (S.take (k + 1))).length ∧ s' = ⟨233, [(1, sv t), (3, .ptr n 0), (5, .ptr (n + 1) 0), (7, .fslc a1 a1 a2 (G.map dyA)), (9, .fslc b1 b1 b2 (O.map ldA)), (11, iv .i64 c4), (12, iv .i64 B.length), (13, iv .i64 d), (16, .fslc false false 3 (S.map (dutyA d))), (19, iv .i64 k)], H3, n5⟩) ?_ ?_
                              · rintro s' ⟨n5, c4, hn5, hc4, rfl⟩
                                replace hc4 : Hide _ := hc4
                                replace hzz : Hide _ := trivial
                                refine hK.out _ ?_
                                clear hK K
                                obtain ⟨m, hlm⟩ : ∃ m, ls.length = m + 1 := ⟨ls.length - 1, by omega⟩
                                have hmlt : m < ls.length := by omega
                                have hmb : m ≤ 60 := by omega
                                obtain ⟨x, hx⟩ : ∃ x, ls[m] = x := ⟨_, rfl⟩
                                have hlast : ls.getLast? = some x := by
                                  rw [List.getLast?_eq_getElem?, hlm, Nat.add_sub_cancel, List.getElem?_eq_getElem hmlt, hx]
                                have hxm : x ∈ ls := hx ▸ List.getElem_mem hmlt
                                have hLm : LL.length = m + 1 := by rw [← hLL.out, List.length_map]; exact hlm
                                have hLt : m < LL.length := by omega
                                have hexL : LL[m] = .agg [iv .i64 x.kind, sv x.tower, sv x.person, sv x.other, iv .i64 x.fr, iv .i64 x.to, iv .i64 x.ev, .fslc x.nl x.fu x.s (x.exc.map (iv .i64))] := by
                                  have : LL[m] = encLn ls[m] := by simp only [← hLL.out, List.getElem_map]
                                  rw [this, hx]; rfl
                                have hneL : ls ≠ [] := fun e => by rw [e] at hmlt; simp at hmlt
                                obtain ⟨rfl, _⟩ := hnlL.out.resolve_left hneL
                                have hno := (hz.out.1 x hxm).2.1
                                have hwx := (hL.out x hxm).1
                                have hex20 := hno.2.2.2.2.2
                                have kf := free29g x.nl x.fu x.s x.exc hwx (by omega) d
                                have hrx := hrp.out x hlast
                                have hrx2 : x.kind = 2 → x.fr = d → d ∉ x.exc → eqB p2 x.person = false := fun h1 h2 h3 => hrx h1 (by
                                  obtain ⟨w1, w2, _⟩ := hno
                                  unfold onL
                                  rw [← h2] at h3 ⊢
                                  simp [h3, w2])
                                have hcase : (x.kind ≠ 2) ∨ (x.kind = 2 ∧ x.fr ≠ d) ∨ (x.kind = 2 ∧ x.fr = d ∧ (x.person.toList == p2.toList) = false) ∨ (x.kind = 2 ∧ x.fr = d ∧ (x.person.toList == p2.toList) = true ∧ decide (d ∉ x.exc) = false) := by
                                  by_cases h1 : x.kind = 2
                                  · by_cases h2 : x.fr = d
                                    · cases h3 : (x.person.toList == p2.toList) with
                                      | false => exact .inr (.inr (.inl ⟨h1, h2, rfl⟩))
                                      | true =>
                                        refine .inr (.inr (.inr ⟨h1, h2, rfl, ?_⟩))
                                        rw [decide_eq_false_iff_not]
                                        intro h4
                                        have h5 := hrx2 h1 h2 h4
                                        unfold eqB at h5
                                        rw [beq_sym, h3] at h5; cases h5
                                    · exact .inr (.inl ⟨h1, h2⟩)
                                  · exact .inl h1
                                replace hx : Hide _ := trivial
                                replace hlast : Hide _ := trivial
                                replace hrx : Hide _ := trivial
                                replace hrx2 : Hide _ := trivial
                                replace hwx : Hide _ := trivial
                                replace hlm : Hide _ := hlm
                                replace hmlt : Hide _ := trivial
                                clear hneL hxm
                                obtain ⟨kd, tw, pe, ot, fr, to, ev, xnl, xfu, xs, exc⟩ := x
                                simp only at hexL kf hcase hex20 hno
                                replace hno : Hide _ := trivial
                                generalize List.map (iv .i64) exc = XX at *
                                generalize decide (d ∉ exc) = fz at *
                                rcases hcase with h1 | ⟨h1, h2⟩ | ⟨h1, h2, h3⟩ | ⟨h1, h2, h3, h4⟩
                                · have h1' : (kd == 2) = false := by simpa using h1
                                  repeat' (first | (refine ac_seq_h fun K hK => ?_) | (refine ac_region_h fun K hK => ?_; simp (disch := omega) [go_sem, *, wrap64_id]) | (refine ac_quiet_h mixed (by kernel_rfl) fun K hK => ?_; simp (disch := omega) [go_sem, *]) | (refine aQ_c (by simp [go_sem]) (by simp (disch := omega) [go_sem, *, wrap64_id, ilt_true, ile_true]; first | exact rfl | exact ⟨rfl, rfl, rfl⟩ | exact (kf).gcall ⟨rfl, rfl, rfl⟩) ?_; try simp only [pS_some]) | (refine aQ_end ?_) | (apply Hide.out hK; clear hK K; try with_reducible dsimp only [thenA]) | (apply Hide.out hf; clear ht hf Kt Kf) | (refine ac_skip ?_; simp only [thenA, blockA]) | (refine ac_cond_h fun Kt Kf ht hf => ?_; simp (disch := omega) [go_sem, *]; try (refine ⟨fun hc => ?_, fun hc => ?_⟩ <;> try (exfalso; omega))))
                                  exact round_end (by simp (disch := omega) [go_sem]) (Sub.refl _) ⟨k + 1, _, c4, by omega, by omega, hc4.out, rfl⟩ (by simp [intAt, go_sem]; omega)
                                · subst h1
                                  have h2' : (fr == d) = false := by simpa using h2
                                  repeat' (first | (refine ac_seq_h fun K hK => ?_) | (refine ac_region_h fun K hK => ?_; simp (disch := omega) [go_sem, *, wrap64_id]) | (refine ac_quiet_h mixed (by kernel_rfl) fun K hK => ?_; simp (disch := omega) [go_sem, *]) | (refine aQ_c (by simp [go_sem]) (by simp (disch := omega) [go_sem, *, wrap64_id, ilt_true, ile_true]; first | exact rfl | exact ⟨rfl, rfl, rfl⟩ | exact (kf).gcall ⟨rfl, rfl, rfl⟩) ?_; try simp only [pS_some]) | (refine aQ_end ?_) | (apply Hide.out hK; clear hK K; try with_reducible dsimp only [thenA]) | (apply Hide.out hf; clear ht hf Kt Kf) | (refine ac_skip ?_; simp only [thenA, blockA]) | (refine ac_cond_h fun Kt Kf ht hf => ?_; simp (disch := omega) [go_sem, *]; try (refine ⟨fun hc => ?_, fun hc => ?_⟩ <;> try (exfalso; omega))))
                                  exact round_end (by simp (disch := omega) [go_sem]) (Sub.refl _) ⟨k + 1, _, c4, by omega, by omega, hc4.out, rfl⟩ (by simp [intAt, go_sem]; omega)
                                · subst h1; subst h2
                                  repeat' (first | (refine ac_seq_h fun K hK => ?_) | (refine ac_region_h fun K hK => ?_; simp (disch := omega) [go_sem, *, wrap64_id]) | (refine ac_quiet_h mixed (by kernel_rfl) fun K hK => ?_; simp (disch := omega) [go_sem, *]) | (refine aQ_c (by simp [go_sem]) (by simp (disch := omega) [go_sem, *, wrap64_id, ilt_true, ile_true]; first | exact rfl | exact ⟨rfl, rfl, rfl⟩ | exact (kf).gcall ⟨rfl, rfl, rfl⟩) ?_; try simp only [pS_some]) | (refine aQ_end ?_) | (apply Hide.out hK; clear hK K; try with_reducible dsimp only [thenA]) | (apply Hide.out hf; clear ht hf Kt Kf) | (refine ac_skip ?_; simp only [thenA, blockA]) | (refine ac_cond_h fun Kt Kf ht hf => ?_; simp (disch := omega) [go_sem, *]; try (refine ⟨fun hc => ?_, fun hc => ?_⟩ <;> try (exfalso; omega))))
                                  exact round_end (by simp (disch := omega) [go_sem]) (Sub.refl _) ⟨k + 1, _, c4, by omega, by omega, hc4.out, rfl⟩ (by simp [intAt, go_sem]; omega)
                                · subst h1; subst h2; subst h4
                                  repeat' (first | (refine ac_seq_h fun K hK => ?_) | (refine ac_region_h fun K hK => ?_; simp (disch := omega) [go_sem, *, wrap64_id]) | (refine ac_quiet_h mixed (by kernel_rfl) fun K hK => ?_; simp (disch := omega) [go_sem, *]) | (refine aQ_c (by simp [go_sem]) (by simp (disch := omega) [go_sem, *, wrap64_id, ilt_true, ile_true]; first | exact rfl | exact ⟨rfl, rfl, rfl⟩ | exact (kf).gcall ⟨rfl, rfl, rfl⟩) ?_; try simp only [pS_some]) | (refine aQ_end ?_) | (apply Hide.out hK; clear hK K; try with_reducible dsimp only [thenA]) | (apply Hide.out hf; clear ht hf Kt Kf) | (refine ac_skip ?_; simp only [thenA, blockA]) | (refine ac_cond_h fun Kt Kf ht hf => ?_; simp (disch := omega) [go_sem, *]; try (refine ⟨fun hc => ?_, fun hc => ?_⟩ <;> try (exfalso; omega))))
                                  exact round_end (by simp (disch := omega) [go_sem]) (Sub.refl _) ⟨k + 1, _, c4, by omega, by omega, hc4.out, rfl⟩ (by simp [intAt, go_sem]; omega)
                              · cases z with
                                | true =>
                                  have hst := (hzz.out true rfl).out
                                  rw [if_pos rfl] at hst
                                  replace hst : Hide _ := hst
                                  replace hzz : Hide _ := trivial
                                  clear hK
                                  repeat' (first | (refine ac_seq_h fun K hK => ?_) | (refine ac_region_h fun K hK => ?_; simp (disch := omega) [go_sem, *, wrap64_id]) | (apply Hide.out hK; clear hK K; try with_reducible dsimp only [thenA]) | (apply Hide.out ht; clear ht hf Kt Kf) | (refine ac_cond_h fun Kt Kf ht hf => ?_; simp (disch := omega) [go_sem, *]; try (refine ⟨fun hc => ?_, fun hc => ?_⟩ <;> try (exfalso; omega))))
                                  exact loop_start (by simp [go_sem]) (Sub.refl _) ⟨_, c3 + 1, by omega, hst.out.symm, rfl⟩
                                | false =>
                                  have hst := (hzz.out false rfl).out
                                  rw [if_neg (by simp), Int.add_zero] at hst
                                  replace hst : Hide _ := hst
                                  replace hzz : Hide _ := trivial
                                  clear hK
                                  repeat' (first | (refine ac_seq_h fun K hK => ?_) | (refine ac_region_h fun K hK => ?_; simp (disch := omega) [go_sem, *]) | (apply Hide.out hK; clear hK K; try with_reducible dsimp only [thenA]) | (apply Hide.out hf; clear ht hf Kt Kf) | (refine ac_skip ?_; simp only [thenA]) | (refine ac_cond_h fun Kt Kf ht hf => ?_; simp (disch := omega) [go_sem, *]; try (refine ⟨fun hc => ?_, fun hc => ?_⟩ <;> try (exfalso; omega))))
                                  exact loop_start (by simp [go_sem]) (Sub.refl _) ⟨_, c3, by omega, hst.out.symm, rfl⟩
                        · have hii : i = S.length := by omega
                          subst hii
                          rw [List.take_length, ← hS'.out] at u3
                          replace u3 : Hide _ := u3
                          repeat' (first | (refine ac_seq_h fun K hK => ?_) | (refine ac_region_h fun K hK => ?_; simp (disch := omega) [go_sem, *, wrap64_id]) | (apply Hide.out hK; clear hK K; try with_reducible dsimp only [thenA]) | (apply Hide.out hf; clear ht hf Kt Kf) | (clear hK K; apply Hide.out hK; clear hK K; try with_reducible dsimp only [thenA]) | (refine ac_exit ?_; simp only [thenA, blockA, if_true, if_false, Nat.reduceEqDiff]) | (refine ac_cond_h fun Kt Kf ht hf => ?_; simp (disch := omega) [go_sem, *]; try (refine ⟨fun hc => ?_, fun hc => ?_⟩ <;> try (exfalso; omega))))
                          skip
                          exact round_end (by simp (disch := omega) [go_sem]) (Sub.refl _) ⟨d + 1, _, B, c3, by omega, by omega, by omega, hA3.out.symm, u3.out, rfl⟩ (by simp [intAt, go_sem]; omega)
                    · cases gz with
                      | true =>
                        have hA3 := hA2.out
                        rw [if_pos rfl] at hA3
                        have e12 : (A.length : Int) + 1 = ((gapsL ls [t] lo (d + 1 - lo).toNat).length : Int) := by rw [hA3]; simp
                        replace hA2 : Hide _ := trivial
                        replace hA3 : Hide _ := trivial
                        replace e12 : Hide _ := e12
                        clear hK
                        repeat' (first | (refine ac_seq_h fun K hK => ?_) | (refine ac_region_h fun K hK => ?_; simp (disch := omega) [go_sem, *, wrap64_id]) | (apply Hide.out hK; clear hK K; try with_reducible dsimp only [thenA]) | (apply Hide.out ht; clear ht hf Kt Kf) | (refine ac_cond_h fun Kt Kf ht hf => ?_; simp (disch := omega) [go_sem, *]; try (refine ⟨fun hc => ?_, fun hc => ?_⟩ <;> try (exfalso; omega))))
                        have e12 := e12.out
                        try rw [e12]
                        exact loop_start (by simp [go_sem]) (Sub.refl _) ⟨_, gapsL ls [t] lo (d + 1 - lo).toNat, by omega, rfl, rfl⟩
                      | false =>
                        have hA3 := hA2.out
                        rw [if_neg (by simp), List.append_nil] at hA3
                        replace hA2 : Hide _ := trivial
                        replace hA3 : Hide _ := hA3
                        clear hK
                        repeat' (first | (refine ac_seq_h fun K hK => ?_) | (refine ac_region_h fun K hK => ?_; simp (disch := omega) [go_sem, *]) | (apply Hide.out hK; clear hK K; try with_reducible dsimp only [thenA]) | (apply Hide.out hf; clear ht hf Kt Kf) | (refine ac_skip ?_; simp only [thenA]) | (refine ac_cond_h fun Kt Kf ht hf => ?_; simp (disch := omega) [go_sem, *]; try (refine ⟨fun hc => ?_, fun hc => ?_⟩ <;> try (exfalso; omega))))
                        exact loop_start (by simp [go_sem]) (Sub.refl _) ⟨_, A, by omega, hA3.out.symm, rfl⟩
                  · have k18d := k18 d
                    rcases hcase.out with ⟨hg, hw0, hlt, hex⟩ | ⟨hg, hw0, hex⟩
                    · have hgt : gz = true := by rw [← hgz.out, hg]
                      subst hgt
                      replace hgz : Hide _ := trivial
                      replace hg : Hide _ := trivial
                      have hGn : G ≠ [] := fun e => by subst e; simp at hlt
                      obtain ⟨rfl, rfl⟩ := q2.out.resolve_left hGn
                      clear hGn
                      have hag := aggEqG d d t ByteArray.empty t ⟨#[]⟩
                      clear hK
                      repeat' (first | (refine ac_quiet_h mixed (by kernel_rfl) fun K hK => ?_; simp (disch := omega) [go_sem, *]) | (refine aQ_c (by simp [go_sem]) (by simp (disch := omega) [go_sem, *, ilt_true, ile_true]; first | exact rfl | exact ⟨rfl, rfl, rfl⟩ | exact (k18d).gcall ⟨rfl, rfl, rfl⟩) ?_; try simp only [pS_some]) | (refine aQ_end ?_) | (apply Hide.out hK; clear hK K; try with_reducible dsimp only [thenA]))
                      exact loop_start (by simp [go_sem]) (Sub.refl _) ⟨_, by omega, rfl⟩
                    · have hgt : gz = false := by rw [← hgz.out, hg]
                      subst hgt
                      replace hgz : Hide _ := trivial
                      replace hg : Hide _ := trivial
                      clear hK
                      by_cases hlt : A.length < G.length
                      · obtain ⟨_, y, hey, hyd⟩ := hex hlt
                        have hGn : G ≠ [] := fun e => by subst e; simp at hlt
                        obtain ⟨rfl, rfl⟩ := q2.out.resolve_left hGn
                        clear hGn hex
                        have hag := aggEqG y.1 d y.2.1 y.2.2 t ⟨#[]⟩
                        rw [hyd, Bool.false_and, Bool.false_and] at hag
                        repeat' (first | (refine ac_quiet_h mixed (by kernel_rfl) fun K hK => ?_; simp (disch := omega) [go_sem, *]) | (refine aQ_c (by simp [go_sem]) (by simp (disch := omega) [go_sem, *, ilt_true, ile_true]; first | exact rfl | exact ⟨rfl, rfl, rfl⟩ | exact (k18d).gcall ⟨rfl, rfl, rfl⟩) ?_; try simp only [pS_some]) | (refine aQ_end ?_) | (apply Hide.out hK; clear hK K; try with_reducible dsimp only [thenA]))
                        exact loop_start (by simp [go_sem]) (Sub.refl _) ⟨_, by omega, rfl⟩
                      · clear hex
                        repeat' (first | (refine ac_quiet_h mixed (by kernel_rfl) fun K hK => ?_; simp (disch := omega) [go_sem, *]) | (refine aQ_c (by simp [go_sem]) (by simp (disch := omega) [go_sem, *, ilt_false]; first | exact rfl | exact ⟨rfl, rfl, rfl⟩ | exact (k18d).gcall ⟨rfl, rfl, rfl⟩) ?_; try simp only [pS_some]) | (refine aQ_end ?_) | (apply Hide.out hK; clear hK K; try with_reducible dsimp only [thenA]))
                        exact loop_start (by simp [go_sem]) (Sub.refl _) ⟨_, by omega, rfl⟩
                · have hdd : d = hi + 1 := by omega
                  subst hdd
                  have hAG : A = G := by rw [r4, hG.out]
                  have hcO : cn = sumL O := by rw [r5, hO.out]
                  subst hAG
                  subst hcO
                  have hOb : ∀ p ∈ O, 0 ≤ p.2 ∧ p.2 ≤ 401 := fun p hp => by
                    obtain ⟨i, hi1, e⟩ := List.mem_iff_getElem.1 hp
                    have h1 := ldN_at O i p (by rw [hO.out]; exact ldS_srt ls lo _) (by rw [List.getElem?_eq_getElem hi1, e])
                    have h2 := ldS_le ls lo p.1 (hi + 1 - lo).toNat
                    rw [← hO.out, h1] at h2; omega
                  have hOl : O.length ≤ 401 * 60 := by
                    rw [hO.out]
                    have h1 := ldS_len ls lo (hi + 1 - lo).toNat
                    have h2 : (hi + 1 - lo).toNat * ls.length ≤ 401 * 60 := Nat.mul_le_mul (by omega) hls
                    omega
                  have htk := fun i hi1 => sumL_take O i hi1
                  have htb := fun i => sumL_bd O hOb i
                  replace hOb : Hide _ := hOb
                  replace htk : Hide _ := htk
                  replace htb : Hide _ := htb
                  replace r4 : Hide _ := trivial
                  replace r5 : Hide _ := trivial
                  clear hem k18
                  repeat' (first | (refine ac_seq_h fun K hK => ?_) | (refine ac_region_h fun K hK => ?_; simp (disch := omega) [go_sem, *]) | (apply Hide.out hK; clear hK K; try with_reducible dsimp only [thenA]) | (apply Hide.out hf; clear ht hf Kt Kf) | (clear hK K; apply Hide.out hK; clear hK K; try with_reducible dsimp only [thenA]) | (refine ac_block ?_) | (refine ac_exit ?_; simp only [thenA, blockA, if_true]) | (refine ac_cond_h fun Kt Kf ht hf => ?_; simp (disch := omega) [go_sem, *]; try (refine ⟨fun hc => ?_, fun hc => ?_⟩ <;> try (exfalso; omega))))
                  refine ac_loop_wk (fun s' => ∃ (i n3 : Nat) (w : Int), n + 10 ≤ n3 ∧ i ≤ O.length ∧ w = sumL (O.take i) ∧ s' = ⟨233, [(7, .fslc a1 a1 a2 (A.map dyA)), (9, .fslc b1 b1 b2 (O.map ldA)), (11, iv .i64 (sumL O)), (12, iv .i64 A.length), (22, iv .i64 w), (23, iv .i64 i)], H3, n3⟩)
                    (fun s' => O.length - (intAt s' 23).toNat) ?_ ?_
                  · exact loop_start (by simp [go_sem]) (Sub.refl _) ⟨0, _, 0, by omega, by omega, rfl, rfl⟩
                  · rintro s' ⟨i, n3, w, u1, u2, u3, rfl⟩
                    have hwb := htb.out i
                    rw [← u3] at hwb
                    by_cases hiO : i < O.length
                    · obtain ⟨p, hp⟩ : ∃ p, O[i] = p := ⟨_, rfl⟩
                      have hneO : O ≠ [] := fun e => by rw [e] at hiO; simp at hiO
                      obtain ⟨rfl, rfl⟩ := q4.out.resolve_left hneO
                      have hpb := hOb.out p (hp ▸ List.getElem_mem hiO)
                      have hst := htk.out i hiO
                      rw [hp, ← u3] at hst
                      have hex : ldA O[i] = .agg [sv p.1, iv .i64 p.2] := by rw [hp]; rfl
                      replace hst : Hide _ := hst
                      replace hp : Hide _ := hp
                      replace u3 : Hide _ := trivial
                      clear hneO
                      repeat' (first | (refine ac_seq_h fun K hK => ?_) | (refine ac_region_h fun K hK => ?_; simp (disch := omega) [go_sem, *, wrap64_id, ilt_true, ile_true]) | (apply Hide.out hK; clear hK K; try with_reducible dsimp only [thenA]) | (apply Hide.out ht; clear ht hf Kt Kf) | (refine ac_block ?_) | (refine ac_skip ?_; simp only [thenA]) | (refine ac_cond_h fun Kt Kf ht hf => ?_; simp (disch := omega) [go_sem, *]; try (refine ⟨fun hc => ?_, fun hc => ?_⟩ <;> try (exfalso; omega))))
                      exact round_end (by simp (disch := omega) [go_sem]) (Sub.refl _) ⟨i + 1, _, w + p.2, by omega, by omega, hst.out.symm, rfl⟩ (by simp [intAt, go_sem]; omega)
                    · have hii : i = O.length := by omega
                      subst hii
                      rw [List.take_length] at u3
                      subst u3
                      repeat' (first | (refine ac_seq_h fun K hK => ?_) | (refine ac_region_h fun K hK => ?_; simp (disch := omega) [go_sem, *]) | (apply Hide.out hK; clear hK K; try with_reducible dsimp only [thenA]) | (apply Hide.out hf; clear ht hf Kt Kf) | (clear hK K; apply Hide.out hK; clear hK K; try with_reducible dsimp only [thenA]) | (with_reducible refine APure.gcall (k9) ?_; try simp (disch := omega) [go_sem, *]) | (refine ac_exit ?_; simp only [thenA, blockA, if_true]) | (refine ac_cond_h fun Kt Kf ht hf => ?_; simp (disch := omega) [go_sem, *]; try (refine ⟨fun hc => ?_, fun hc => ?_⟩ <;> try (exfalso; omega))))
                      refine ac_ret ?_
                      try dsimp only [thenA, blockA]
                      refine ⟨by simp, _, (by first | rfl | (simp (disch := omega) [go_sem, upd_ne] <;> rfl)), ?_⟩
                      exact ret_id ⟨fun x hx => hfr.out x hx, by simp [go_sem, below, resVal], by rfl, by simp, by simp⟩
end Go.AM
