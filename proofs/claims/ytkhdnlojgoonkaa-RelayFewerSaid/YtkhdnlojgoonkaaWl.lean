/- RelayFewer over the abstract machine. Conditions: as each theorem says. -/
import Derived.Test.YtkhdnlojgoonkaaWk
namespace Go.AM
open Go.Proofs Nets
set_option maxRecDepth 10000
set_option maxHeartbeats 4000000
/-- an assertion between two pieces of code -/
theorem ac_mid {P : Program} {fl : Nat} {Q : Exit → St → Prop} {K : St → Prop} {st : St} {c : Code} (M : St → Prop) (h1 : ACode P fl c (thenA M Q) st) (h2 : ∀ s, M s → K s) : ACode P fl c (thenA K Q) st :=
  ac_mono h1 fun e s h => by
    cases e with
    | normal => exact h2 s h
    | _ => exact h
def lessA (N : Net) (k : Nat) : List AV := (N.links.take k ++ N.links.drop (k + 1)).map encLink
def lessV (q : Nat) (L : List AV) : AV := if L = [] then .fslc false true 4 [] else .slc q 0 L.length 4
theorem links_ty : eltOf Try.prog 22 = some 27 ∧ szOf Try.prog 27 = some 4 ∧ byOf Try.prog 27 = some 48 ∧ zerOf Try.prog 27 = some (.agg [iv .i64 0, iv .i64 0, iv .i64 0, .fslc true true 0 []]) := ⟨by kernel_rfl, by kernel_rfl, by kernel_rfl, by kernel_rfl⟩
theorem ap_nil4 (nm : Nat) (nl full : Bool) (h : AHeap) : aAppend Try.prog nm 22 (.fslc false true 4 []) (.fslc nl full 4 []) h = some (.fslc false true 4 [], h) := by
  obtain ⟨e1, e2, e3, e4⟩ := links_ty
  simp [aAppend, e1, e2, e3, e4, srcCells, cellsOf, AV.scalar]
theorem ap_new4 (nm : Nat) (nl full : Bool) (X : List AV) (h : AHeap) (hX : X ≠ []) (hl : X.length < 1000000) : aAppend Try.prog nm 22 (.fslc false true 4 []) (.fslc nl full 4 X) h = some (.slc nm 0 X.length 4, h.upd nm (some (.cells (flat X)))) := by
  obtain ⟨e1, e2, e3, e4⟩ := links_ty
  have hl2 : X.length ≤ 67108864 := by omega
  have hf : flat [] = [] := rfl
  simp [aAppend, e1, e2, e3, e4, srcCells, cellsOf, AV.scalar, hX, hl2, hf]
theorem ap_same4 (nm m lx : Nat) (nl full : Bool) (X : List AV) (h : AHeap) (hx : X.length = lx) (hX : ∀ x ∈ X, (cellsOf x).length = 4) (hm : h m = some (.cells (flat X))) : aAppend Try.prog nm 22 (.slc m 0 lx 4) (.fslc nl full 4 []) h = some (.slc m 0 lx 4, h) := by
  subst hx
  obtain ⟨e1, e2, e3, e4⟩ := links_ty
  have hf : flat [] = [] := rfl
  have hle : X.length * 4 ≤ (flat X).length := by rw [flat_len hX]; exact Nat.le_refl _
  have hsp : h.upd m (some (.cells (splice (flat X) (X.length * 4) []))) = h := by
    funext k
    by_cases e : k = m
    · subst e; rw [upd_same, hm]; simp [splice]
    · rw [upd_ne _ _ _ _ e]
  simp [aAppend, e1, e2, e3, e4, srcCells, cellsOf, AV.scalar, hm, hf, hle, hsp]
theorem ap_more4 (nm m lx : Nat) (nl full : Bool) (X Y : List AV) (h : AHeap) (hx : X.length = lx) (hX : ∀ x ∈ X, (cellsOf x).length = 4) (hY : Y ≠ []) (hl : X.length + Y.length < 1000000) (hm : h m = some (.cells (flat X))) : aAppend Try.prog nm 22 (.slc m 0 lx 4) (.fslc nl full 4 Y) h = some (.slc nm 0 (lx + Y.length) 4, (h.upd m none).upd nm (some (.cells (flat (X ++ Y))))) := by
  subst hx
  obtain ⟨e1, e2, e3, e4⟩ := links_ty
  have hf := flat_len hX
  have hp : 0 < Y.length := List.length_pos_iff.2 hY
  have hnot : ¬ (X.length + Y.length) * 4 ≤ X.length * 4 := by omega
  have hl2 : X.length + Y.length ≤ 67108864 := by omega
  simp [aAppend, e1, e2, e3, e4, srcCells, cellsOf, AV.scalar, hm, hf, hnot, hl2, flat_append]
theorem asked_same {N N' : Net} {s t : Int} (hst : N'.st = N.st) (hC' : checkE N' = 0) (h : askedE N t [s] = 0) : askedE N' t [s] = 0 := by
  have hC := (asked_zero h).1
  unfold askedE at h ⊢
  rw [if_neg (by simp [hC'])]
  rw [if_neg (by simp [hC])] at h
  rw [hst]; exact h
theorem relayFewer_spec (N : Net) (s to t m : Int) (a : Span) (hnl : N.nl = true → N.links = []) (m0 : 0 ≤ m) (m1 : m < 256) : APure Try.prog 9 [encNet N, iv .i64 s, iv .i64 to, iv .i64 t, iv .u8 m, encSpan a] (bv true) := by
  intro h n
  refine ACalls.pure (ACalls.entry (by kernel_rfl) fun hb _ => calls_of Try.func9 rfl (by kernel_rfl) (by simp [Try.ntmps9]) ?_)
  have c10 := few_spec N
  have c18 := earliest_spec N s t
  by_cases hf : fewN N = true
  · rw [hf] at c10
    replace hf : Hide _ := hf
    by_cases hl0 : N.links = []
    · replace hnl : Hide _ := hnl
      have hlz : N.links.length = 0 := by rw [hl0]; rfl
      replace hl0 : Hide _ := hl0
      repeat' (first
        | (refine ac_seq_h fun K hK => ?_)
        | (refine ac_region_h fun K hK => ?_; simp (disch := omega) [go_sem, *, upd_ne, Try.ntmps9 ])
        | (refine ac_draw_h mixed (by kernel_rfl) fun K hK => ?_; simp (disch := omega) [go_sem, *, wrap64_id, upd_ne, mk3_true, flatten_replicate_one, stepK_if, ilt_true, ilt_false, ile_true, ile_false, Try.ntmps9 ])
        | (apply Hide.out hK; clear hK K; try with_reducible dsimp only [thenA])
        | (apply Hide.out ht; clear ht hf Kt Kf)
        | (apply Hide.out hf; clear ht hf Kt Kf)
        | (clear hK K; apply Hide.out hK; clear hK K; try with_reducible dsimp only [thenA])
        | (clear hK K; clear hK K; apply Hide.out hK; clear hK K; try with_reducible dsimp only [thenA])
        | (with_reducible refine APure.call (c10) ?_; try simp (disch := omega) [go_sem, *, upd_ne ])
        | (with_reducible refine APure.call (nets_spec) ?_; try simp (disch := omega) [go_sem, * ])
        | (refine ac_block ?_)
        | (refine ac_skip ?_; simp only [thenA, blockA])
        | (refine ac_exit ?_; simp only [thenA, blockA, if_true, if_false, Nat.reduceEqDiff])
        | (with_reducible show nextK _ _ _ _ _ _ _; simp (disch := omega) [go_sem, *, wrap64_id, upd_ne, mk3_true, flatten_replicate_one, stepK_if, ilt_true, ilt_false, ile_true, ile_false, Try.ntmps9 ])
        | (refine wantK_split (fun hc => ?_) (fun hc => ?_) <;> (try simp only [Bool.not_eq_true', Bool.not_eq_false', Bool.not_eq_eq_eq_not, Bool.not_true, Bool.not_false, decide_eq_true_eq, decide_eq_false_iff_not, Int.not_lt, Int.not_le] at hc) <;> (try (exfalso; omega)) <;> (try simp (disch := omega) [go_sem, *, wrap64_id, upd_ne, mk3_true, flatten_replicate_one, stepK_if, ilt_true, ilt_false, ile_true, ile_false, Try.ntmps9 ]))
        | (refine ac_cond_h fun Kt Kf ht hf => ?_; simp (disch := omega) [go_sem, * ]; try (refine ⟨fun hc => ?_, fun hc => ?_⟩ <;> try (exfalso; omega))))
      (refine ac_ret ?_; try dsimp only [thenA, blockA]; refine ⟨by simp, _, (by first | rfl | (simp (disch := omega) [go_sem, upd_ne] <;> rfl)), ?_⟩; refine ret_id ⟨fun k hk => (by first | rfl | (repeat rw [upd_ne _ _ _ _ (by omega)])), (by simp [go_sem, below]), (by simp [go_sem] <;> omega), by simp, by simp⟩)
    · have hnl0 : N.nl = false := by
        cases hb : N.nl
        · rfl
        · exact absurd (hnl hb) hl0
      have hlen : 0 < N.links.length := List.length_pos_iff.2 hl0
      have hlen2 : ((N.links.length : Int) == 0) = false := by simp; omega
      replace hnl0 : Hide _ := hnl0
      by_cases hE : askedE N t [s] = 0
      · by_cases hto : to < 0
        · skip
          repeat' (first
            | (refine ac_seq_h fun K hK => ?_)
            | (refine ac_region_h fun K hK => ?_; simp (disch := omega) [go_sem, *, upd_ne, Try.ntmps9 ])
            | (refine ac_draw_h mixed (by kernel_rfl) fun K hK => ?_; simp (disch := omega) [go_sem, *, wrap64_id, upd_ne, mk3_true, flatten_replicate_one, stepK_if, ilt_true, ilt_false, ile_true, ile_false, Try.ntmps9 ])
            | (apply Hide.out hK; clear hK K; try with_reducible dsimp only [thenA])
            | (apply Hide.out ht; clear ht hf Kt Kf)
            | (apply Hide.out hf; clear ht hf Kt Kf)
            | (clear hK K; apply Hide.out hK; clear hK K; try with_reducible dsimp only [thenA])
            | (clear hK K; clear hK K; apply Hide.out hK; clear hK K; try with_reducible dsimp only [thenA])
            | (with_reducible refine APure.call (c10) ?_; try simp (disch := omega) [go_sem, *, upd_ne ])
            | (with_reducible refine APure.call (nets_spec) ?_; try simp (disch := omega) [go_sem, * ])
            | (with_reducible refine APure.call (c18) ?_; try simp (disch := omega) [go_sem, * ])
            | (refine ac_block ?_)
            | (refine ac_skip ?_; simp only [thenA])
            | (refine ac_exit ?_; simp only [thenA, blockA, if_true, if_false, Nat.reduceEqDiff])
            | (with_reducible show nextK _ _ _ _ _ _ _; simp (disch := omega) [go_sem, *, wrap64_id, upd_ne, mk3_true, flatten_replicate_one, stepK_if, ilt_true, ilt_false, ile_true, ile_false, Try.ntmps9 ])
            | (refine wantK_split (fun hc => ?_) (fun hc => ?_) <;> (try simp only [Bool.not_eq_true', Bool.not_eq_false', Bool.not_eq_eq_eq_not, Bool.not_true, Bool.not_false, decide_eq_true_eq, decide_eq_false_iff_not, Int.not_lt, Int.not_le] at hc) <;> (try (exfalso; omega)) <;> (try simp (disch := omega) [go_sem, *, wrap64_id, upd_ne, mk3_true, flatten_replicate_one, stepK_if, ilt_true, ilt_false, ile_true, ile_false, Try.ntmps9 ]))
            | (refine ac_cond_h fun Kt Kf ht hf => ?_; simp (disch := omega) [go_sem, * ]; try (refine ⟨fun hc => ?_, fun hc => ?_⟩ <;> try (exfalso; omega))))
          (refine ac_ret ?_; try dsimp only [thenA, blockA]; refine ⟨by simp, _, (by first | rfl | (simp (disch := omega) [go_sem, upd_ne] <;> rfl)), ?_⟩; refine ret_id ⟨fun k hk => (by first | rfl | (repeat rw [upd_ne _ _ _ _ (by omega)])), (by simp [go_sem, below]), (by simp [go_sem] <;> omega), by simp, by simp⟩)
        · by_cases hto2 : N.st ≤ to
          · skip
            repeat' (first
              | (refine ac_seq_h fun K hK => ?_)
              | (refine ac_region_h fun K hK => ?_; simp (disch := omega) [go_sem, *, upd_ne, Try.ntmps9 ])
              | (refine ac_draw_h mixed (by kernel_rfl) fun K hK => ?_; simp (disch := omega) [go_sem, *, wrap64_id, upd_ne, mk3_true, flatten_replicate_one, stepK_if, ilt_true, ilt_false, ile_true, ile_false, Try.ntmps9 ])
              | (apply Hide.out hK; clear hK K; try with_reducible dsimp only [thenA])
              | (apply Hide.out ht; clear ht hf Kt Kf)
              | (apply Hide.out hf; clear ht hf Kt Kf)
              | (clear hK K; apply Hide.out hK; clear hK K; try with_reducible dsimp only [thenA])
              | (clear hK K; clear hK K; apply Hide.out hK; clear hK K; try with_reducible dsimp only [thenA])
              | (with_reducible refine APure.call (c10) ?_; try simp (disch := omega) [go_sem, *, upd_ne ])
              | (with_reducible refine APure.call (nets_spec) ?_; try simp (disch := omega) [go_sem, * ])
              | (with_reducible refine APure.call (c18) ?_; try simp (disch := omega) [go_sem, * ])
              | (refine ac_block ?_)
              | (refine ac_skip ?_; simp only [thenA])
              | (refine ac_exit ?_; simp only [thenA, blockA, if_true, if_false, Nat.reduceEqDiff])
              | (with_reducible show nextK _ _ _ _ _ _ _; simp (disch := omega) [go_sem, *, wrap64_id, upd_ne, mk3_true, flatten_replicate_one, stepK_if, ilt_true, ilt_false, ile_true, ile_false, Try.ntmps9 ])
              | (refine wantK_split (fun hc => ?_) (fun hc => ?_) <;> (try simp only [Bool.not_eq_true', Bool.not_eq_false', Bool.not_eq_eq_eq_not, Bool.not_true, Bool.not_false, decide_eq_true_eq, decide_eq_false_iff_not, Int.not_lt, Int.not_le] at hc) <;> (try (exfalso; omega)) <;> (try simp (disch := omega) [go_sem, *, wrap64_id, upd_ne, mk3_true, flatten_replicate_one, stepK_if, ilt_true, ilt_false, ile_true, ile_false, Try.ntmps9 ]))
              | (refine ac_cond_h fun Kt Kf ht hf => ?_; simp (disch := omega) [go_sem, * ]; try (refine ⟨fun hc => ?_, fun hc => ?_⟩ <;> try (exfalso; omega))))
            (refine ac_ret ?_; try dsimp only [thenA, blockA]; refine ⟨by simp, _, (by first | rfl | (simp (disch := omega) [go_sem, upd_ne] <;> rfl)), ?_⟩; refine ret_id ⟨fun k hk => (by first | rfl | (repeat rw [upd_ne _ _ _ _ (by omega)])), (by simp [go_sem, below]), (by simp [go_sem] <;> omega), by simp, by simp⟩)
          · obtain ⟨hC, hs, ht1, ht2⟩ := asked_zero hE
            obtain ⟨hs1, hs2⟩ := hs s (by simp)
            obtain ⟨st1, st2, hll, hok⟩ := checkE_ok hC
            obtain ⟨k, hk⟩ : ∃ k : Nat, Int.tmod m N.links.length = k := ⟨(Int.tmod m N.links.length).toNat, by have := Int.tmod_nonneg (N.links.length : Int) m0; omega⟩
            have hkl : k < N.links.length := by have := Int.tmod_lt_of_pos m (b := (N.links.length : Int)) (by omega); omega
            replace hok : Hide _ := hok
            replace hnl : Hide _ := hnl
            rw [hE, eInts_zero] at c18
            clear hs
            repeat' (first
              | (refine ac_seq_h fun K hK => ?_)
              | (refine ac_region_h fun K hK => ?_; simp (disch := omega) [go_sem, *, wrap64_id, upd_ne, Try.ntmps9 ])
              | (apply Hide.out hK; clear hK K; try with_reducible dsimp only [thenA])
              | (apply Hide.out ht; clear ht hf Kt Kf)
              | (apply Hide.out hf; clear ht hf Kt Kf)
              | (clear hK K; apply Hide.out hK; clear hK K; try with_reducible dsimp only [thenA])
              | (clear hK K; clear hK K; apply Hide.out hK; clear hK K; try with_reducible dsimp only [thenA])
              | (with_reducible refine APure.call (c10) ?_; try simp (disch := omega) [go_sem, *, upd_ne ])
              | (with_reducible refine APure.call (nets_spec) ?_; try simp (disch := omega) [go_sem, *, wrap64_id, upd_ne, mk3_true, flatten_replicate_one, stepK_if, ilt_true, ilt_false, ile_true, ile_false, Try.ntmps9 ])
              | (with_reducible refine APure.call (c18) ?_; try simp (disch := omega) [go_sem, * ])
              | (refine ac_block ?_)
              | (refine ac_skip ?_; simp only [thenA])
              | (refine ac_exit ?_; simp only [thenA, blockA, if_true, if_false, Nat.reduceEqDiff])
              | (with_reducible show nextK _ _ _ _ _ _ _; simp (disch := omega) [go_sem, *, wrap64_id, upd_ne, mk3_true, flatten_replicate_one, stepK_if, ilt_true, ilt_false, ile_true, ile_false, Try.ntmps9 ])
              | (refine wantK_split (fun hc => ?_) (fun hc => ?_) <;> (try simp only [Bool.not_eq_true', Bool.not_eq_false', Bool.not_eq_eq_eq_not, Bool.not_true, Bool.not_false, decide_eq_true_eq, decide_eq_false_iff_not, Int.not_lt, Int.not_le] at hc) <;> (try (exfalso; omega)) <;> (try simp (disch := omega) [go_sem, *, wrap64_id, upd_ne, mk3_true, flatten_replicate_one, stepK_if, ilt_true, ilt_false, ile_true, ile_false, Try.ntmps9 ]))
              | (refine ac_cond_h fun Kt Kf ht hf => ?_; simp (disch := omega) [go_sem, * ]; try (refine ⟨fun hc => ?_, fun hc => ?_⟩ <;> try (exfalso; omega))))
            generalize hA : (arrP N s t).out = A at *
            replace hA : Hide _ := hA
            refine ac_fzbox (m := n) (t := 6) (c := [iv .i64 N.st, encLinks N.nl N.links]) (by simp (disch := omega) only [upd_ne, upd_same]) (by simp [go_sem]) ?_
            obtain ⟨b, hbb⟩ : ∃ b, Hide (b = h.upd (n + 1) (some (.cells [iv .i64 a.lo, iv .i64 a.hi]))) := ⟨_, rfl⟩
            have hbn1 : Hide (b (n + 1) = some (.cells [iv .i64 a.lo, iv .i64 a.hi])) := by rw [Hide, hbb.out, upd_same]
            have hb0 : Hide (∀ k, n + 1 < k → b k = none) := fun k hk => by rw [hbb.out, upd_ne _ _ _ _ (by omega)]; exact hb.none (by omega)
            have hbk : Hide (∀ k, k < n → b k = h k) := fun k hk => by rw [hbb.out, upd_ne _ _ _ _ (by omega)]
            have hbn : b n = none := by rw [hbb.out, upd_ne _ _ _ _ (by omega)]; exact hb.none (by omega)
            refine ac_mid (fun s' => ∃ (n' q q16 : Nat), n + 1 < q16 ∧ q16 < n' ∧ n + 1 < q ∧ q < n' ∧ q ≠ q16 ∧ Wk s' ⟨235, [(1, iv .i64 s), (2, iv .i64 to), (3, iv .i64 t), (6, .fptr [iv .i64 N.st, encLinks N.nl N.links]), (11, .ptr (n + 1) 0), (13, .fslc false false 1 (A.map (iv .i64))), (15, iv .i64 k), (16, .ptr q16 0)], (b.upd q16 (some (.cells [iv .i64 N.st, lessV q (lessA N k)]))).upd q (acO (lessA N k)), n'⟩) ?_ fun s' hs' => ?_
            · have hkle : k ≤ N.links.length := by omega
              have hkle2 : k + 1 ≤ N.links.length := by omega
              have htn : ((k : Int) + 1).toNat = k + 1 := by omega
              have htk : List.take N.links.length (List.map encLink N.links) = List.map encLink N.links := List.take_of_length_le (by simp)
              refine ac_draw3_h [6] mixed (by kernel_rfl) (fun x hx => by simp at hx; subst hx; exact ⟨_, by simp [go_sem]; rfl⟩) fun K2 hK2 => ?_
              simp (disch := omega) [go_sem, *]
              have hLA : Hide (lessA N k = List.take k (List.map encLink N.links) ++ List.drop (k + 1) (List.map encLink N.links)) := by rw [Hide, lessA, List.map_append, List.map_take, List.map_drop]
              by_cases p1 : List.take k (List.map encLink N.links) = [] <;> by_cases p2 : List.drop (k + 1) (List.map encLink N.links) = []
              · rw [p1, ap_nil4]
                simp only [stepK]
                repeat' (first
                  | (refine ac_seq_h fun K hK => ?_)
                  | (refine ac_region_h fun K hK => ?_; simp (disch := omega) [go_sem, *, wrap64_id, upd_ne, mk3_true, flatten_replicate_one, stepK_if, ilt_true, ilt_false, ile_true, ile_false, Try.ntmps9])
                  | (refine ac_draw_h mixed (by kernel_rfl) fun K hK => ?_; simp (disch := omega) [go_sem, *, wrap64_id, upd_ne, mk3_true, flatten_replicate_one, stepK_if, ilt_true, ilt_false, ile_true, ile_false, Try.ntmps9])
                  | (apply Hide.out hK; clear hK K; try with_reducible dsimp only [thenA])
                  | (apply Hide.out ht; clear ht hf Kt Kf)
                  | (apply Hide.out hf; clear ht hf Kt Kf)
                  | (clear hK K; apply Hide.out hK; clear hK K; try with_reducible dsimp only [thenA])
                  | (clear hK K; clear hK K; apply Hide.out hK; clear hK K; try with_reducible dsimp only [thenA])
                  | (refine ac_block ?_)
                  | (refine ac_skip ?_; simp only [thenA, blockA])
                  | (refine ac_exit ?_; simp only [thenA, blockA, if_true, if_false, Nat.reduceEqDiff])
                  | (with_reducible show nextK _ _ _ _ _ _ _; simp (disch := omega) [go_sem, *, wrap64_id, ile_true])
                  | (refine wantK_split (fun hc => ?_) (fun hc => ?_) <;> (try simp only [Bool.not_eq_true', Bool.not_eq_false', Bool.not_eq_eq_eq_not, Bool.not_true, Bool.not_false, decide_eq_true_eq, decide_eq_false_iff_not, Int.not_lt, Int.not_le] at hc) <;> (try (exfalso; omega)) <;> (try simp (disch := omega) [go_sem, *, wrap64_id, upd_ne, mk3_true, flatten_replicate_one, stepK_if, ilt_true, ilt_false, ile_true, ile_false, Try.ntmps9]))
                  | (refine ac_cond_h fun Kt Kf ht hf => ?_; simp (disch := omega) [go_sem, *, wrap64_id, upd_ne, mk3_true, flatten_replicate_one, stepK_if, ilt_true, ilt_false, ile_true, ile_false, Try.ntmps9]; try (refine ⟨fun hc => ?_, fun hc => ?_⟩ <;> try (exfalso; omega))))
                rw [ap_nil4]
                simp only [stepK]
                repeat' (first
                  | (refine ac_seq_h fun K hK => ?_)
                  | (refine ac_region_h fun K hK => ?_; simp (disch := omega) [go_sem, *, wrap64_id, upd_ne, mk3_true, flatten_replicate_one, stepK_if, ilt_true, ilt_false, ile_true, ile_false, Try.ntmps9])
                  | (refine ac_draw_h mixed (by kernel_rfl) fun K hK => ?_; simp (disch := omega) [go_sem, *, wrap64_id, upd_ne, mk3_true, flatten_replicate_one, stepK_if, ilt_true, ilt_false, ile_true, ile_false, Try.ntmps9])
                  | (apply Hide.out hK; clear hK K; try with_reducible dsimp only [thenA])
                  | (apply Hide.out ht; clear ht hf Kt Kf)
                  | (apply Hide.out hf; clear ht hf Kt Kf)
                  | (clear hK K; apply Hide.out hK; clear hK K; try with_reducible dsimp only [thenA])
                  | (clear hK K; clear hK K; apply Hide.out hK; clear hK K; try with_reducible dsimp only [thenA])
                  | (refine ac_block ?_)
                  | (refine ac_skip ?_; simp only [thenA, blockA])
                  | (refine ac_exit ?_; simp only [thenA, blockA, if_true, if_false, Nat.reduceEqDiff])
                  | (with_reducible show nextK _ _ _ _ _ _ _; simp (disch := omega) [go_sem, *])
                  | (refine wantK_split (fun hc => ?_) (fun hc => ?_) <;> (try simp only [Bool.not_eq_true', Bool.not_eq_false', Bool.not_eq_eq_eq_not, Bool.not_true, Bool.not_false, decide_eq_true_eq, decide_eq_false_iff_not, Int.not_lt, Int.not_le] at hc) <;> (try (exfalso; omega)) <;> (try simp (disch := omega) [go_sem, *, wrap64_id, upd_ne, mk3_true, flatten_replicate_one, stepK_if, ilt_true, ilt_false, ile_true, ile_false, Try.ntmps9]))
                  | (refine ac_cond_h fun Kt Kf ht hf => ?_; simp (disch := omega) [go_sem, *, wrap64_id, upd_ne, mk3_true, flatten_replicate_one, stepK_if, ilt_true, ilt_false, ile_true, ile_false, Try.ntmps9]; try (refine ⟨fun hc => ?_, fun hc => ?_⟩ <;> try (exfalso; omega))))
                have hLA2 : lessA N k = [] := by rw [hLA.out, p1, p2]; rfl
                refine hK2.out _ ?_
                dsimp only [thenA]
                rw [hLA2]
                refine ⟨_, n + 3 + 9 + 9 + 12 + 7 + 7, n + 3 + 9 + 9 + 12 + 7 + 15, by omega, ?_, by omega, ?_, by omega, Wk.of (by simp [go_sem]) ?_⟩
                · omega
                · omega
                intro j o e
                by_cases e1 : j = n + 3 + 9 + 9 + 12 + 7 + 7
                · subst e1
                  simp (disch := omega) only [upd_ne, upd_same] at e ⊢
                  cases e
                · by_cases e2 : j = n + 3 + 9 + 9 + 12 + 7 + 15
                  · subst e2
                    simp (disch := omega) only [upd_ne, upd_same] at e ⊢
                    rw [← e]; rfl
                  · rw [upd_ne _ _ _ _ e1, upd_ne _ _ _ _ e2, hbb.out] at e
                    by_cases e3 : j = n + 1
                    · subst e3; simp (disch := omega) only [upd_ne, upd_same] at e ⊢; exact e
                    · rw [upd_ne _ _ _ _ e3] at e
                      have hjn : j < n := by
                        rcases Nat.lt_or_ge j n with h1 | h1
                        · exact h1
                        · rw [hb.none h1] at e; cases e
                      simp (disch := omega) only [upd_ne]; exact e
              · rw [p1, ap_nil4]
                simp only [stepK]
                repeat' (first
                  | (refine ac_seq_h fun K hK => ?_)
                  | (refine ac_region_h fun K hK => ?_; simp (disch := omega) [go_sem, *, wrap64_id, upd_ne, mk3_true, flatten_replicate_one, stepK_if, ilt_true, ilt_false, ile_true, ile_false, Try.ntmps9])
                  | (refine ac_draw_h mixed (by kernel_rfl) fun K hK => ?_; simp (disch := omega) [go_sem, *, wrap64_id, upd_ne, mk3_true, flatten_replicate_one, stepK_if, ilt_true, ilt_false, ile_true, ile_false, Try.ntmps9])
                  | (apply Hide.out hK; clear hK K; try with_reducible dsimp only [thenA])
                  | (apply Hide.out ht; clear ht hf Kt Kf)
                  | (apply Hide.out hf; clear ht hf Kt Kf)
                  | (clear hK K; apply Hide.out hK; clear hK K; try with_reducible dsimp only [thenA])
                  | (clear hK K; clear hK K; apply Hide.out hK; clear hK K; try with_reducible dsimp only [thenA])
                  | (refine ac_block ?_)
                  | (refine ac_skip ?_; simp only [thenA, blockA])
                  | (refine ac_exit ?_; simp only [thenA, blockA, if_true, if_false, Nat.reduceEqDiff])
                  | (with_reducible show nextK _ _ _ _ _ _ _; simp (disch := omega) [go_sem, *, wrap64_id, ile_true])
                  | (refine wantK_split (fun hc => ?_) (fun hc => ?_) <;> (try simp only [Bool.not_eq_true', Bool.not_eq_false', Bool.not_eq_eq_eq_not, Bool.not_true, Bool.not_false, decide_eq_true_eq, decide_eq_false_iff_not, Int.not_lt, Int.not_le] at hc) <;> (try (exfalso; omega)) <;> (try simp (disch := omega) [go_sem, *, wrap64_id, upd_ne, mk3_true, flatten_replicate_one, stepK_if, ilt_true, ilt_false, ile_true, ile_false, Try.ntmps9]))
                  | (refine ac_cond_h fun Kt Kf ht hf => ?_; simp (disch := omega) [go_sem, *, wrap64_id, upd_ne, mk3_true, flatten_replicate_one, stepK_if, ilt_true, ilt_false, ile_true, ile_false, Try.ntmps9]; try (refine ⟨fun hc => ?_, fun hc => ?_⟩ <;> try (exfalso; omega))))
                rw [ap_new4 _ _ _ _ _ p2 (by simp; omega)]
                simp only [stepK]
                repeat' (first
                  | (refine ac_seq_h fun K hK => ?_)
                  | (refine ac_region_h fun K hK => ?_; simp (disch := omega) [go_sem, *, wrap64_id, upd_ne, mk3_true, flatten_replicate_one, stepK_if, ilt_true, ilt_false, ile_true, ile_false, Try.ntmps9])
                  | (refine ac_draw_h mixed (by kernel_rfl) fun K hK => ?_; simp (disch := omega) [go_sem, *, wrap64_id, upd_ne, mk3_true, flatten_replicate_one, stepK_if, ilt_true, ilt_false, ile_true, ile_false, Try.ntmps9])
                  | (apply Hide.out hK; clear hK K; try with_reducible dsimp only [thenA])
                  | (apply Hide.out ht; clear ht hf Kt Kf)
                  | (apply Hide.out hf; clear ht hf Kt Kf)
                  | (clear hK K; apply Hide.out hK; clear hK K; try with_reducible dsimp only [thenA])
                  | (clear hK K; clear hK K; apply Hide.out hK; clear hK K; try with_reducible dsimp only [thenA])
                  | (refine ac_block ?_)
                  | (refine ac_skip ?_; simp only [thenA, blockA])
                  | (refine ac_exit ?_; simp only [thenA, blockA, if_true, if_false, Nat.reduceEqDiff])
                  | (with_reducible show nextK _ _ _ _ _ _ _; simp (disch := omega) [go_sem, *])
                  | (refine wantK_split (fun hc => ?_) (fun hc => ?_) <;> (try simp only [Bool.not_eq_true', Bool.not_eq_false', Bool.not_eq_eq_eq_not, Bool.not_true, Bool.not_false, decide_eq_true_eq, decide_eq_false_iff_not, Int.not_lt, Int.not_le] at hc) <;> (try (exfalso; omega)) <;> (try simp (disch := omega) [go_sem, *, wrap64_id, upd_ne, mk3_true, flatten_replicate_one, stepK_if, ilt_true, ilt_false, ile_true, ile_false, Try.ntmps9]))
                  | (refine ac_cond_h fun Kt Kf ht hf => ?_; simp (disch := omega) [go_sem, *, wrap64_id, upd_ne, mk3_true, flatten_replicate_one, stepK_if, ilt_true, ilt_false, ile_true, ile_false, Try.ntmps9]; try (refine ⟨fun hc => ?_, fun hc => ?_⟩ <;> try (exfalso; omega))))
                have hLA2 : lessA N k = List.drop (k + 1) (List.map encLink N.links) := by rw [hLA.out, p1]; rfl
                refine hK2.out _ ?_
                dsimp only [thenA]
                rw [hLA2]
                refine ⟨_, n + 3 + 9 + 9 + 12 + 7 + 13, n + 3 + 9 + 9 + 12 + 7 + 15, by omega, ?_, by omega, ?_, by omega, Wk.of (by simp [go_sem]) ?_⟩
                · omega
                · omega
                intro j o e
                by_cases e1 : j = n + 3 + 9 + 9 + 12 + 7 + 13
                · subst e1
                  simp (disch := omega) only [upd_ne, upd_same] at e ⊢
                  rw [acO_ne p2] at e; exact e
                · by_cases e2 : j = n + 3 + 9 + 9 + 12 + 7 + 15
                  · subst e2
                    simp (disch := omega) only [upd_ne, upd_same] at e ⊢
                    rw [← e, lessV, if_neg p2]; simp
                  · rw [upd_ne _ _ _ _ e1, upd_ne _ _ _ _ e2, hbb.out] at e
                    by_cases e3 : j = n + 1
                    · subst e3; simp (disch := omega) only [upd_ne, upd_same] at e ⊢; exact e
                    · rw [upd_ne _ _ _ _ e3] at e
                      have hjn : j < n := by
                        rcases Nat.lt_or_ge j n with h1 | h1
                        · exact h1
                        · rw [hb.none h1] at e; cases e
                      simp (disch := omega) only [upd_ne]; exact e
              · rw [ap_new4 _ _ _ _ _ p1 (by simp; omega)]
                simp only [stepK]
                repeat' (first
                  | (refine ac_seq_h fun K hK => ?_)
                  | (refine ac_region_h fun K hK => ?_; simp (disch := omega) [go_sem, *, wrap64_id, upd_ne, mk3_true, flatten_replicate_one, stepK_if, ilt_true, ilt_false, ile_true, ile_false, Try.ntmps9])
                  | (refine ac_draw_h mixed (by kernel_rfl) fun K hK => ?_; simp (disch := omega) [go_sem, *, wrap64_id, upd_ne, mk3_true, flatten_replicate_one, stepK_if, ilt_true, ilt_false, ile_true, ile_false, Try.ntmps9])
                  | (apply Hide.out hK; clear hK K; try with_reducible dsimp only [thenA])
                  | (apply Hide.out ht; clear ht hf Kt Kf)
                  | (apply Hide.out hf; clear ht hf Kt Kf)
                  | (clear hK K; apply Hide.out hK; clear hK K; try with_reducible dsimp only [thenA])
                  | (clear hK K; clear hK K; apply Hide.out hK; clear hK K; try with_reducible dsimp only [thenA])
                  | (refine ac_block ?_)
                  | (refine ac_skip ?_; simp only [thenA, blockA])
                  | (refine ac_exit ?_; simp only [thenA, blockA, if_true, if_false, Nat.reduceEqDiff])
                  | (with_reducible show nextK _ _ _ _ _ _ _; simp (disch := omega) [go_sem, *, wrap64_id, ile_true])
                  | (refine wantK_split (fun hc => ?_) (fun hc => ?_) <;> (try simp only [Bool.not_eq_true', Bool.not_eq_false', Bool.not_eq_eq_eq_not, Bool.not_true, Bool.not_false, decide_eq_true_eq, decide_eq_false_iff_not, Int.not_lt, Int.not_le] at hc) <;> (try (exfalso; omega)) <;> (try simp (disch := omega) [go_sem, *, wrap64_id, upd_ne, mk3_true, flatten_replicate_one, stepK_if, ilt_true, ilt_false, ile_true, ile_false, Try.ntmps9]))
                  | (refine ac_cond_h fun Kt Kf ht hf => ?_; simp (disch := omega) [go_sem, *, wrap64_id, upd_ne, mk3_true, flatten_replicate_one, stepK_if, ilt_true, ilt_false, ile_true, ile_false, Try.ntmps9]; try (refine ⟨fun hc => ?_, fun hc => ?_⟩ <;> try (exfalso; omega))))
                rw [ap_same4 _ _ _ _ _ (List.take k (List.map encLink N.links)) _ (by simp; omega) (fun x hx => by obtain ⟨z, _, rfl⟩ := List.mem_map.1 (List.mem_of_mem_take hx); rfl) (by first | (rw [upd_same]; done) | (simp (disch := omega) only [upd_ne, upd_same]))]
                simp only [stepK]
                repeat' (first
                  | (refine ac_seq_h fun K hK => ?_)
                  | (refine ac_region_h fun K hK => ?_; simp (disch := omega) [go_sem, *, wrap64_id, upd_ne, mk3_true, flatten_replicate_one, stepK_if, ilt_true, ilt_false, ile_true, ile_false, Try.ntmps9])
                  | (refine ac_draw_h mixed (by kernel_rfl) fun K hK => ?_; simp (disch := omega) [go_sem, *, wrap64_id, upd_ne, mk3_true, flatten_replicate_one, stepK_if, ilt_true, ilt_false, ile_true, ile_false, Try.ntmps9])
                  | (apply Hide.out hK; clear hK K; try with_reducible dsimp only [thenA])
                  | (apply Hide.out ht; clear ht hf Kt Kf)
                  | (apply Hide.out hf; clear ht hf Kt Kf)
                  | (clear hK K; apply Hide.out hK; clear hK K; try with_reducible dsimp only [thenA])
                  | (clear hK K; clear hK K; apply Hide.out hK; clear hK K; try with_reducible dsimp only [thenA])
                  | (refine ac_block ?_)
                  | (refine ac_skip ?_; simp only [thenA, blockA])
                  | (refine ac_exit ?_; simp only [thenA, blockA, if_true, if_false, Nat.reduceEqDiff])
                  | (with_reducible show nextK _ _ _ _ _ _ _; simp (disch := omega) [go_sem, *])
                  | (refine wantK_split (fun hc => ?_) (fun hc => ?_) <;> (try simp only [Bool.not_eq_true', Bool.not_eq_false', Bool.not_eq_eq_eq_not, Bool.not_true, Bool.not_false, decide_eq_true_eq, decide_eq_false_iff_not, Int.not_lt, Int.not_le] at hc) <;> (try (exfalso; omega)) <;> (try simp (disch := omega) [go_sem, *, wrap64_id, upd_ne, mk3_true, flatten_replicate_one, stepK_if, ilt_true, ilt_false, ile_true, ile_false, Try.ntmps9]))
                  | (refine ac_cond_h fun Kt Kf ht hf => ?_; simp (disch := omega) [go_sem, *, wrap64_id, upd_ne, mk3_true, flatten_replicate_one, stepK_if, ilt_true, ilt_false, ile_true, ile_false, Try.ntmps9]; try (refine ⟨fun hc => ?_, fun hc => ?_⟩ <;> try (exfalso; omega))))
                have hLA2 : lessA N k = List.take k (List.map encLink N.links) := by rw [hLA.out, p2]; simp
                refine hK2.out _ ?_
                dsimp only [thenA]
                rw [hLA2]
                refine ⟨_, n + 3 + 9 + 9 + 12 + 7 + 7, n + 3 + 9 + 9 + 12 + 7 + 15, by omega, ?_, by omega, ?_, by omega, Wk.of (by simp [go_sem]) ?_⟩
                · omega
                · omega
                intro j o e
                by_cases e1 : j = n + 3 + 9 + 9 + 12 + 7 + 7
                · subst e1
                  simp (disch := omega) only [upd_ne, upd_same] at e ⊢
                  rw [acO_ne p1] at e; exact e
                · by_cases e2 : j = n + 3 + 9 + 9 + 12 + 7 + 15
                  · subst e2
                    simp (disch := omega) only [upd_ne, upd_same] at e ⊢
                    rw [← e, lessV, if_neg p1]; simp [Nat.min_eq_left hkle]
                  · rw [upd_ne _ _ _ _ e1, upd_ne _ _ _ _ e2, hbb.out] at e
                    by_cases e3 : j = n + 1
                    · subst e3; simp (disch := omega) only [upd_ne, upd_same] at e ⊢; exact e
                    · rw [upd_ne _ _ _ _ e3] at e
                      have hjn : j < n := by
                        rcases Nat.lt_or_ge j n with h1 | h1
                        · exact h1
                        · rw [hb.none h1] at e; cases e
                      simp (disch := omega) only [upd_ne]; exact e
              · rw [ap_new4 _ _ _ _ _ p1 (by simp; omega)]
                simp only [stepK]
                repeat' (first
                  | (refine ac_seq_h fun K hK => ?_)
                  | (refine ac_region_h fun K hK => ?_; simp (disch := omega) [go_sem, *, wrap64_id, upd_ne, mk3_true, flatten_replicate_one, stepK_if, ilt_true, ilt_false, ile_true, ile_false, Try.ntmps9])
                  | (refine ac_draw_h mixed (by kernel_rfl) fun K hK => ?_; simp (disch := omega) [go_sem, *, wrap64_id, upd_ne, mk3_true, flatten_replicate_one, stepK_if, ilt_true, ilt_false, ile_true, ile_false, Try.ntmps9])
                  | (apply Hide.out hK; clear hK K; try with_reducible dsimp only [thenA])
                  | (apply Hide.out ht; clear ht hf Kt Kf)
                  | (apply Hide.out hf; clear ht hf Kt Kf)
                  | (clear hK K; apply Hide.out hK; clear hK K; try with_reducible dsimp only [thenA])
                  | (clear hK K; clear hK K; apply Hide.out hK; clear hK K; try with_reducible dsimp only [thenA])
                  | (refine ac_block ?_)
                  | (refine ac_skip ?_; simp only [thenA, blockA])
                  | (refine ac_exit ?_; simp only [thenA, blockA, if_true, if_false, Nat.reduceEqDiff])
                  | (with_reducible show nextK _ _ _ _ _ _ _; simp (disch := omega) [go_sem, *, wrap64_id, ile_true])
                  | (refine wantK_split (fun hc => ?_) (fun hc => ?_) <;> (try simp only [Bool.not_eq_true', Bool.not_eq_false', Bool.not_eq_eq_eq_not, Bool.not_true, Bool.not_false, decide_eq_true_eq, decide_eq_false_iff_not, Int.not_lt, Int.not_le] at hc) <;> (try (exfalso; omega)) <;> (try simp (disch := omega) [go_sem, *, wrap64_id, upd_ne, mk3_true, flatten_replicate_one, stepK_if, ilt_true, ilt_false, ile_true, ile_false, Try.ntmps9]))
                  | (refine ac_cond_h fun Kt Kf ht hf => ?_; simp (disch := omega) [go_sem, *, wrap64_id, upd_ne, mk3_true, flatten_replicate_one, stepK_if, ilt_true, ilt_false, ile_true, ile_false, Try.ntmps9]; try (refine ⟨fun hc => ?_, fun hc => ?_⟩ <;> try (exfalso; omega))))
                rw [ap_more4 _ _ _ _ _ (List.take k (List.map encLink N.links)) _ _ (by simp; omega) (fun x hx => by obtain ⟨z, _, rfl⟩ := List.mem_map.1 (List.mem_of_mem_take hx); rfl) p2 (by simp; omega) (by first | (rw [upd_same]; done) | (simp (disch := omega) only [upd_ne, upd_same]))]
                simp only [stepK]
                repeat' (first
                  | (refine ac_seq_h fun K hK => ?_)
                  | (refine ac_region_h fun K hK => ?_; simp (disch := omega) [go_sem, *, wrap64_id, upd_ne, mk3_true, flatten_replicate_one, stepK_if, ilt_true, ilt_false, ile_true, ile_false, Try.ntmps9])
                  | (refine ac_draw_h mixed (by kernel_rfl) fun K hK => ?_; simp (disch := omega) [go_sem, *, wrap64_id, upd_ne, mk3_true, flatten_replicate_one, stepK_if, ilt_true, ilt_false, ile_true, ile_false, Try.ntmps9])
                  | (apply Hide.out hK; clear hK K; try with_reducible dsimp only [thenA])
                  | (apply Hide.out ht; clear ht hf Kt Kf)
                  | (apply Hide.out hf; clear ht hf Kt Kf)
                  | (clear hK K; apply Hide.out hK; clear hK K; try with_reducible dsimp only [thenA])
                  | (clear hK K; clear hK K; apply Hide.out hK; clear hK K; try with_reducible dsimp only [thenA])
                  | (refine ac_block ?_)
                  | (refine ac_skip ?_; simp only [thenA, blockA])
                  | (refine ac_exit ?_; simp only [thenA, blockA, if_true, if_false, Nat.reduceEqDiff])
                  | (with_reducible show nextK _ _ _ _ _ _ _; simp (disch := omega) [go_sem, *])
                  | (refine wantK_split (fun hc => ?_) (fun hc => ?_) <;> (try simp only [Bool.not_eq_true', Bool.not_eq_false', Bool.not_eq_eq_eq_not, Bool.not_true, Bool.not_false, decide_eq_true_eq, decide_eq_false_iff_not, Int.not_lt, Int.not_le] at hc) <;> (try (exfalso; omega)) <;> (try simp (disch := omega) [go_sem, *, wrap64_id, upd_ne, mk3_true, flatten_replicate_one, stepK_if, ilt_true, ilt_false, ile_true, ile_false, Try.ntmps9]))
                  | (refine ac_cond_h fun Kt Kf ht hf => ?_; simp (disch := omega) [go_sem, *, wrap64_id, upd_ne, mk3_true, flatten_replicate_one, stepK_if, ilt_true, ilt_false, ile_true, ile_false, Try.ntmps9]; try (refine ⟨fun hc => ?_, fun hc => ?_⟩ <;> try (exfalso; omega))))
                have hLA2 : lessA N k = List.take k (List.map encLink N.links) ++ List.drop (k + 1) (List.map encLink N.links) := by rw [hLA.out]
                refine hK2.out _ ?_
                dsimp only [thenA]
                rw [hLA2]
                refine ⟨_, n + 3 + 9 + 9 + 12 + 7 + 13, n + 3 + 9 + 9 + 12 + 7 + 15, by omega, ?_, by omega, ?_, by omega, Wk.of (by simp [go_sem]) ?_⟩
                · omega
                · omega
                intro j o e
                by_cases e1 : j = n + 3 + 9 + 9 + 12 + 7 + 13
                · subst e1
                  simp (disch := omega) only [upd_ne, upd_same] at e ⊢
                  rw [acO_ne (show List.take k (List.map encLink N.links) ++ List.drop (k + 1) (List.map encLink N.links) ≠ [] by simp only [ne_eq, List.append_eq_nil_iff, not_and]; exact fun h => absurd h p1)] at e; exact e
                · by_cases e2 : j = n + 3 + 9 + 9 + 12 + 7 + 15
                  · subst e2
                    simp (disch := omega) only [upd_ne, upd_same] at e ⊢
                    rw [← e, lessV, if_neg (show List.take k (List.map encLink N.links) ++ List.drop (k + 1) (List.map encLink N.links) ≠ [] by simp only [ne_eq, List.append_eq_nil_iff, not_and]; exact fun h => absurd h p1)]; simp [Nat.min_eq_left hkle]
                  · rw [upd_ne _ _ _ _ e1, upd_ne _ _ _ _ e2, hbb.out] at e
                    by_cases e3 : j = n + 1
                    · subst e3; simp (disch := omega) only [upd_ne, upd_same] at e ⊢; exact e
                    · rw [upd_ne _ _ _ _ e3] at e
                      have hjn : j < n := by
                        rcases Nat.lt_or_ge j n with h1 | h1
                        · exact h1
                        · rw [hb.none h1] at e; cases e
                      simp (disch := omega) only [upd_ne]; exact e
            · obtain ⟨n', q, q16, hq1, hq2, hq3, hq4, hq5, hwk⟩ := hs'
              refine hK.out _ ?_
              clear hK K
              refine ac_wk hwk ?_
              clear hwk s'
              have hLl : (lessA N k).length < 1000000 := by
                rw [lessA, List.length_map, List.length_append, List.length_take, List.length_drop]; omega
              have hLc : Hide (∀ x ∈ lessA N k, (cellsOf x).length = 4) := fun x hx => by obtain ⟨z, _, rfl⟩ := List.mem_map.1 hx; rfl
              have hLe : Hide (elems true 4 (lessA N k).length (flat (lessA N k)) = lessA N k) := elems_flat _ fun y hy => by obtain ⟨z, _, rfl⟩ := List.mem_map.1 hy; exact ⟨_, _, _, _, rfl⟩
              have hLn : Hide (encNet (lessN N k) = .agg [iv .i64 N.st, .fslc false false 4 (lessA N k)]) := rfl
              have hCl := less_ok (k := k) hC
              have c18l := earliest_spec (lessN N k) s t
              rw [asked_same (N := N) (N' := lessN N k) rfl hCl hE, eInts_zero, hLn.out] at c18l
              have hcmpB := arr_cmp hC hCl rfl hs1 hs2 ht1 ht2 (less_better k)
              have hlenB := (arrP_spec hCl hs1 (show s < (lessN N k).st from hs2) ht1 ht2).1.ok.lo
              have hBto : Hide (at' (arrP (shutN N k) s t).out to = at' (arrP (lessN N k) s t).out to) := shut_arr (List.getElem?_eq_getElem hkl) hC hs1 hs2 ht1 ht2 (by omega) (by omega)
              generalize hB : (arrP (lessN N k) s t).out = B at *
              replace hB : Hide _ := hB
              replace hcmpB : Hide _ := hcmpB
              generalize lessA N k = L at *
              obtain ⟨H, hH⟩ : ∃ H, Hide (H = (b.upd q16 (some (.cells [iv .i64 N.st, lessV q L]))).upd q (acO L)) := ⟨_, rfl⟩
              rw [← hH.out]
              have hHn1 : H (n + 1) = some (.cells [iv .i64 a.lo, iv .i64 a.hi]) := by rw [hH.out]; simp (disch := omega) only [upd_ne]; exact hbn1.out
              have hH16 : H q16 = some (.cells [iv .i64 N.st, lessV q L]) := by rw [hH.out]; simp (disch := omega) only [upd_ne, upd_same]
              have hHq : Hide (H q = acO L) := by rw [Hide, hH.out, upd_same]
              have hHb : Hide (Sub b H) := by rw [hH.out]; exact Sub.upd (Sub.upd (Sub.refl _) (hb0.out _ (by omega)) _) (hb0.out _ (by omega)) _
              refine ac_seq_h fun K hK => ?_
              refine ac_mid (fun s' => ∃ n2, n' ≤ n2 ∧ Wk s' ⟨235, [(1, iv .i64 s), (2, iv .i64 to), (3, iv .i64 t), (6, .fptr [iv .i64 N.st, encLinks N.nl N.links]), (11, .ptr (n + 1) 0), (13, .fslc false false 1 (A.map (iv .i64))), (15, iv .i64 k), (17, .fslc false false 1 (B.map (iv .i64))), (18, iv .i64 0)], b, n2⟩) ?_ fun s' hs' => ?_
              · by_cases h0 : L = []
                · subst h0
                  rw [lessV, if_pos rfl] at hH16
                  repeat' (first
                    | (refine ac_seq_h fun K hK => ?_)
                    | (refine ac_region_h fun K hK => ?_; simp (disch := omega) [go_sem, *])
                    | (refine ac_draw_h mixed (by kernel_rfl) fun K hK => ?_; simp (disch := omega) [go_sem, *, wrap64_id, upd_ne, mk3_true, flatten_replicate_one, stepK_if, ilt_true, ilt_false, ile_true, ile_false, Try.ntmps9])
                    | (apply Hide.out hK; clear hK K; try with_reducible dsimp only [thenA])
                    | (apply Hide.out ht; clear ht hf Kt Kf)
                    | (apply Hide.out hf; clear ht hf Kt Kf)
                    | (clear hK K; apply Hide.out hK; clear hK K; try with_reducible dsimp only [thenA])
                    | (clear hK K; clear hK K; apply Hide.out hK; clear hK K; try with_reducible dsimp only [thenA])
                    | (refine ac_block ?_)
                    | (refine ac_skip ?_; simp only [thenA, blockA])
                    | (refine ac_exit ?_; simp only [thenA, blockA, if_true, if_false, Nat.reduceEqDiff])
                    | (with_reducible show nextK _ _ _ _ _ _ _; simp (disch := omega) [go_sem, *, wrap64_id, upd_ne, mk3_true, flatten_replicate_one, stepK_if, ilt_true, ilt_false, ile_true, ile_false, Try.ntmps9])
                    | (refine wantK_split (fun hc => ?_) (fun hc => ?_) <;> (try simp only [Bool.not_eq_true', Bool.not_eq_false', Bool.not_eq_eq_eq_not, Bool.not_true, Bool.not_false, decide_eq_true_eq, decide_eq_false_iff_not, Int.not_lt, Int.not_le] at hc) <;> (try (exfalso; omega)) <;> (try simp (disch := omega) [go_sem, *, wrap64_id, upd_ne, mk3_true, flatten_replicate_one, stepK_if, ilt_true, ilt_false, ile_true, ile_false, Try.ntmps9]))
                    | (refine ac_cond_h fun Kt Kf ht hf => ?_; simp (disch := omega) [go_sem, *, wrap64_id, upd_ne, mk3_true, flatten_replicate_one, stepK_if, ilt_true, ilt_false, ile_true, ile_false, Try.ntmps9]; try (refine ⟨fun hc => ?_, fun hc => ?_⟩ <;> try (exfalso; omega))))
                  refine call_weak (args' := [.agg [iv .i64 N.st, .fslc false false 4 []], iv .i64 s, iv .i64 t]) (fun G vs hv => ?_) ?_
                  · simp only [RvL, Rv] at hv ⊢
                    obtain ⟨v, vr, e, ⟨us, e2, u1, r1, f1, g1, u2, r2, f2, ⟨aa, cap, k1, k2, k3, k4, k5⟩, f3⟩, hv2⟩ := hv
                    exact ⟨v, vr, e, ⟨us, e2, u1, r1, f1, g1, u2, r2, f2, ⟨aa, cap, k1, k2, by simp, k4, k5⟩, f3⟩, hv2⟩
                  refine APure.call c18l ?_
                  repeat' (first
                    | (refine ac_seq_h fun K hK => ?_)
                    | (refine ac_region_h fun K hK => ?_; simp (disch := omega) [go_sem, *, wrap64_id, upd_ne, mk3_true, flatten_replicate_one, stepK_if, ilt_true, ilt_false, ile_true, ile_false, Try.ntmps9])
                    | (refine ac_draw_h mixed (by kernel_rfl) fun K hK => ?_; simp (disch := omega) [go_sem, *, wrap64_id, upd_ne, mk3_true, flatten_replicate_one, stepK_if, ilt_true, ilt_false, ile_true, ile_false, Try.ntmps9])
                    | (apply Hide.out hK; clear hK K; try with_reducible dsimp only [thenA])
                    | (apply Hide.out ht; clear ht hf Kt Kf)
                    | (apply Hide.out hf; clear ht hf Kt Kf)
                    | (clear hK K; apply Hide.out hK; clear hK K; try with_reducible dsimp only [thenA])
                    | (clear hK K; clear hK K; apply Hide.out hK; clear hK K; try with_reducible dsimp only [thenA])
                    | (refine ac_block ?_)
                    | (refine ac_skip ?_; simp only [thenA, blockA])
                    | (refine ac_exit ?_; simp only [thenA, blockA, if_true, if_false, Nat.reduceEqDiff])
                    | (with_reducible show nextK _ _ _ _ _ _ _; simp (disch := omega) [go_sem, *])
                    | (refine wantK_split (fun hc => ?_) (fun hc => ?_) <;> (try simp only [Bool.not_eq_true', Bool.not_eq_false', Bool.not_eq_eq_eq_not, Bool.not_true, Bool.not_false, decide_eq_true_eq, decide_eq_false_iff_not, Int.not_lt, Int.not_le] at hc) <;> (try (exfalso; omega)) <;> (try simp (disch := omega) [go_sem, *, wrap64_id, upd_ne, mk3_true, flatten_replicate_one, stepK_if, ilt_true, ilt_false, ile_true, ile_false, Try.ntmps9]))
                    | (refine ac_cond_h fun Kt Kf ht hf => ?_; simp (disch := omega) [go_sem, *, wrap64_id, upd_ne, mk3_true, flatten_replicate_one, stepK_if, ilt_true, ilt_false, ile_true, ile_false, Try.ntmps9]; try (refine ⟨fun hc => ?_, fun hc => ?_⟩ <;> try (exfalso; omega))))
                  exact ⟨_, by omega, Wk.of (by simp [go_sem]) hHb.out⟩
                · rw [lessV, if_neg h0] at hH16
                  have hHq2 := hHq.out
                  rw [acO_ne h0] at hHq2
                  repeat' (first
                    | (refine ac_seq_h fun K hK => ?_)
                    | (refine ac_region_h fun K hK => ?_; simp (disch := omega) [go_sem, *])
                    | (refine ac_draw_h mixed (by kernel_rfl) fun K hK => ?_; simp (disch := omega) [go_sem, *, wrap64_id, upd_ne, mk3_true, flatten_replicate_one, stepK_if, ilt_true, ilt_false, ile_true, ile_false, Try.ntmps9])
                    | (apply Hide.out hK; clear hK K; try with_reducible dsimp only [thenA])
                    | (apply Hide.out ht; clear ht hf Kt Kf)
                    | (apply Hide.out hf; clear ht hf Kt Kf)
                    | (clear hK K; apply Hide.out hK; clear hK K; try with_reducible dsimp only [thenA])
                    | (clear hK K; clear hK K; apply Hide.out hK; clear hK K; try with_reducible dsimp only [thenA])
                    | (refine ac_block ?_)
                    | (refine ac_skip ?_; simp only [thenA, blockA])
                    | (refine ac_exit ?_; simp only [thenA, blockA, if_true, if_false, Nat.reduceEqDiff])
                    | (with_reducible show nextK _ _ _ _ _ _ _; simp (disch := omega) [go_sem, *, wrap64_id, upd_ne, mk3_true, flatten_replicate_one, stepK_if, ilt_true, ilt_false, ile_true, ile_false, Try.ntmps9])
                    | (refine wantK_split (fun hc => ?_) (fun hc => ?_) <;> (try simp only [Bool.not_eq_true', Bool.not_eq_false', Bool.not_eq_eq_eq_not, Bool.not_true, Bool.not_false, decide_eq_true_eq, decide_eq_false_iff_not, Int.not_lt, Int.not_le] at hc) <;> (try (exfalso; omega)) <;> (try simp (disch := omega) [go_sem, *, wrap64_id, upd_ne, mk3_true, flatten_replicate_one, stepK_if, ilt_true, ilt_false, ile_true, ile_false, Try.ntmps9]))
                    | (refine ac_cond_h fun Kt Kf ht hf => ?_; simp (disch := omega) [go_sem, *, wrap64_id, upd_ne, mk3_true, flatten_replicate_one, stepK_if, ilt_true, ilt_false, ile_true, ile_false, Try.ntmps9]; try (refine ⟨fun hc => ?_, fun hc => ?_⟩ <;> try (exfalso; omega))))
                  refine call_freeze true hHq2 ?_
                  have hfl := flat_len hLc.out
                  have hle2 : 0 + L.length * 4 ≤ (flat L).length := by omega
                  have hargs : List.map (fzT q (flat L) true) [.agg [iv .i64 N.st, .slc q 0 L.length 4], iv .i64 s, iv .i64 t] = [.agg [iv .i64 N.st, .fslc false false 4 L], iv .i64 s, iv .i64 t] := by
                    simp only [List.map_cons, List.map_nil, fzT, fz]
                    rw [if_pos ⟨by trivial, hle2, by simp⟩, List.drop_zero, hLe.out]
                  rw [hargs]
                  refine APure.call c18l ?_
                  clear hHq2 hfl hle2
                  repeat' (first
                    | (refine ac_seq_h fun K hK => ?_)
                    | (refine ac_region_h fun K hK => ?_; simp (disch := omega) [go_sem, *, wrap64_id, upd_ne, mk3_true, flatten_replicate_one, stepK_if, ilt_true, ilt_false, ile_true, ile_false, Try.ntmps9])
                    | (refine ac_draw_h mixed (by kernel_rfl) fun K hK => ?_; simp (disch := omega) [go_sem, *, wrap64_id, upd_ne, mk3_true, flatten_replicate_one, stepK_if, ilt_true, ilt_false, ile_true, ile_false, Try.ntmps9])
                    | (apply Hide.out hK; clear hK K; try with_reducible dsimp only [thenA])
                    | (apply Hide.out ht; clear ht hf Kt Kf)
                    | (apply Hide.out hf; clear ht hf Kt Kf)
                    | (clear hK K; apply Hide.out hK; clear hK K; try with_reducible dsimp only [thenA])
                    | (clear hK K; clear hK K; apply Hide.out hK; clear hK K; try with_reducible dsimp only [thenA])
                    | (refine ac_block ?_)
                    | (refine ac_skip ?_; simp only [thenA, blockA])
                    | (refine ac_exit ?_; simp only [thenA, blockA, if_true, if_false, Nat.reduceEqDiff])
                    | (with_reducible show nextK _ _ _ _ _ _ _; simp (disch := omega) [go_sem, *])
                    | (refine wantK_split (fun hc => ?_) (fun hc => ?_) <;> (try simp only [Bool.not_eq_true', Bool.not_eq_false', Bool.not_eq_eq_eq_not, Bool.not_true, Bool.not_false, decide_eq_true_eq, decide_eq_false_iff_not, Int.not_lt, Int.not_le] at hc) <;> (try (exfalso; omega)) <;> (try simp (disch := omega) [go_sem, *, wrap64_id, upd_ne, mk3_true, flatten_replicate_one, stepK_if, ilt_true, ilt_false, ile_true, ile_false, Try.ntmps9]))
                    | (refine ac_cond_h fun Kt Kf ht hf => ?_; simp (disch := omega) [go_sem, *, wrap64_id, upd_ne, mk3_true, flatten_replicate_one, stepK_if, ilt_true, ilt_false, ile_true, ile_false, Try.ntmps9]; try (refine ⟨fun hc => ?_, fun hc => ?_⟩ <;> try (exfalso; omega))))
                  exact ⟨_, by omega, Wk.of (by simp [go_sem]) (Sub.upd hHb.out (hb0.out _ (by omega)) _)⟩
              · obtain ⟨n2, hn2, hwk⟩ := hs'
                refine hK.out _ ?_
                clear hK K
                refine ac_wk hwk ?_
                clear hwk s' hHn1 hH16 hHq hHb hH hLl hLc hLe hLn c18l
                have hbn1 := hbn1.out
                have hla := (arrP_spec hC hs1 hs2 ht1 ht2).1.ok.lo
                rw [hA.out] at hla
                replace hlenB : B.length = N.st.toNat := hlenB
                have c31 := closed_spec N a
                have c29 := needed_spec N s to t hnl.out
                obtain ⟨g, e2, V, C, D, hCC, c31, c18c, hcase⟩ : ∃ (g e2 : Int) (V : AV) (C : Net) (D : List Int), Hide (C = closedN N a) ∧ APure Try.prog 31 [encNet N, encSpan a] (.tup [encNet C, iv .i64 g]) ∧ APure Try.prog 18 [encNet C, iv .i64 s, iv .i64 t] (.tup [V, iv .i64 e2]) ∧ Hide ((g = 0 ∧ e2 = 0 ∧ V = .fslc false false 1 (D.map (iv .i64)) ∧ D.length = N.st.toNat ∧ ∀ v, 0 ≤ v → v < N.st → 0 ≤ at' D v → 0 ≤ at' A v ∧ at' A v ≤ at' D v) ∨ (g ≠ 0 ∧ e2 = 1 ∧ V = .fslc true true 0 [])) := by
                  by_cases hg : closedE N a = 0
                  · obtain ⟨_, hCc, hbet⟩ := closed_ok hg
                    have hCst : (closedN N a).st = N.st := by rw [closedN, if_pos hg]
                    have c18c := earliest_spec (closedN N a) s t
                    rw [asked_same (N := N) (N' := closedN N a) hCst hCc hE, eInts_zero] at c18c
                    have hcmpD := arr_cmp hC hCc hCst hs1 hs2 ht1 ht2 hbet
                    have hlenD := (arrP_spec hCc hs1 (show s < (closedN N a).st by omega) ht1 ht2).1.ok.lo
                    rw [hg] at c31
                    rw [hCst] at hlenD
                    rw [hA.out] at hcmpD
                    exact ⟨0, 0, _, _, _, rfl, c31, c18c, .inl ⟨rfl, rfl, rfl, hlenD, hcmpD⟩⟩
                  · have hN2 : closedN N a = ⟨0, true, []⟩ := by rw [closedN, if_neg hg]
                    have c18c := earliest_spec (closedN N a) s t
                    have hE2 : askedE (closedN N a) t [s] = 1 := by
                      rw [hN2]; unfold askedE
                      have : checkE ⟨0, true, []⟩ = 1 := by decide
                      rw [if_pos (by rw [this]; decide), this]
                    rw [hE2] at c18c
                    exact ⟨_, 1, _, _, [], rfl, c31, c18c, .inr ⟨hg, rfl, by simp [eInts]⟩⟩
                have hAl : ((A.length : Int) != N.st) = false := by simp; omega
                have hBl : ((B.length : Int) != N.st) = false := by simp; omega
                replace hla : Hide _ := hla
                replace hlenB : Hide _ := hlenB
                iterate 10 (first
                  | (refine ac_seq_h fun K hK => ?_)
                  | (refine ac_region_h fun K hK => ?_; simp (disch := omega) [go_sem, * ])
                  | (refine ac_draw_h mixed (by kernel_rfl) fun K hK => ?_; simp (disch := omega) [go_sem, *, wrap64_id, upd_ne, mk3_true, flatten_replicate_one, stepK_if, ilt_true, ilt_false, ile_true, ile_false, Try.ntmps9 ])
                  | (apply Hide.out hK; clear hK K; try with_reducible dsimp only [thenA])
                  | (apply Hide.out ht; clear ht hf Kt Kf)
                  | (apply Hide.out hf; clear ht hf Kt Kf)
                  | (clear hK K; apply Hide.out hK; clear hK K; try with_reducible dsimp only [thenA])
                  | (clear hK K; clear hK K; apply Hide.out hK; clear hK K; try with_reducible dsimp only [thenA])
                  | (with_reducible refine APure.call (c31) ?_; try simp (disch := omega) [go_sem, * ])
                  | (with_reducible refine APure.call (c18c) ?_; try simp (disch := omega) [go_sem, * ])
                  | (refine ac_block ?_)
                  | (refine ac_skip ?_; simp only [thenA, blockA])
                  | (refine ac_exit ?_; simp only [thenA, blockA, if_true, if_false, Nat.reduceEqDiff])
                  | (with_reducible show nextK _ _ _ _ _ _ _; simp (disch := omega) [go_sem, *, wrap64_id, upd_ne, mk3_true, flatten_replicate_one, stepK_if, ilt_true, ilt_false, ile_true, ile_false, Try.ntmps9 ])
                  | (refine wantK_split (fun hc => ?_) (fun hc => ?_) <;> (try simp only [Bool.not_eq_true', Bool.not_eq_false', Bool.not_eq_eq_eq_not, Bool.not_true, Bool.not_false, decide_eq_true_eq, decide_eq_false_iff_not, Int.not_lt, Int.not_le] at hc) <;> (try (exfalso; omega)) <;> (try simp (disch := omega) [go_sem, *, wrap64_id, upd_ne, mk3_true, flatten_replicate_one, stepK_if, ilt_true, ilt_false, ile_true, ile_false, Try.ntmps9 ]))
                  | (refine ac_cond_h fun Kt Kf ht hf => ?_; simp (disch := omega) [go_sem, *, wrap64_id, upd_ne, mk3_true, flatten_replicate_one, stepK_if, ilt_true, ilt_false, ile_true, ile_false, Try.ntmps9 ]; try (refine ⟨fun hc => ?_, fun hc => ?_⟩ <;> try (exfalso; omega))))
                refine ac_seq_h fun K hK => ?_
                refine ac_mid (fun s' => ∃ n3, n2 ≤ n3 ∧ Wk s' ⟨235, [(1, iv .i64 s), (2, iv .i64 to), (3, iv .i64 t), (6, .fptr [iv .i64 N.st, encLinks N.nl N.links]), (13, .fslc false false 1 (A.map (iv .i64))), (15, iv .i64 k), (17, .fslc false false 1 (B.map (iv .i64))), (20, iv .i64 g), (21, V), (22, iv .i64 e2)], b, n3⟩) ?_ fun s' hs' => ?_
                · rcases hcase.out with ⟨rfl, rfl, rfl, hlD, _⟩ | ⟨hg, rfl, rfl⟩
                  · have hDl : ((D.length : Int) != N.st) = false := by simp; omega
                    replace hlD : Hide _ := hlD
                    repeat' (first
                      | (refine ac_seq_h fun K hK => ?_)
                      | (refine ac_region_h fun K hK => ?_; simp (disch := omega) [go_sem, *])
                      | (refine ac_draw_h mixed (by kernel_rfl) fun K hK => ?_; simp (disch := omega) [go_sem, *, wrap64_id, upd_ne, mk3_true, flatten_replicate_one, stepK_if, ilt_true, ilt_false, ile_true, ile_false, Try.ntmps9])
                      | (apply Hide.out hK; clear hK K; try with_reducible dsimp only [thenA])
                      | (apply Hide.out ht; clear ht hf Kt Kf)
                      | (apply Hide.out hf; clear ht hf Kt Kf)
                      | (clear hK K; apply Hide.out hK; clear hK K; try with_reducible dsimp only [thenA])
                      | (clear hK K; clear hK K; apply Hide.out hK; clear hK K; try with_reducible dsimp only [thenA])
                      | (refine ac_block ?_)
                      | (refine ac_skip ?_; simp only [thenA])
                      | (refine ac_exit ?_; simp only [thenA, blockA, if_true, if_false, Nat.reduceEqDiff])
                      | (with_reducible show nextK _ _ _ _ _ _ _; simp (disch := omega) [go_sem, *, wrap64_id, upd_ne, mk3_true, flatten_replicate_one, stepK_if, ilt_true, ilt_false, ile_true, ile_false, Try.ntmps9])
                      | (refine wantK_split (fun hc => ?_) (fun hc => ?_) <;> (try simp only [Bool.not_eq_true', Bool.not_eq_false', Bool.not_eq_eq_eq_not, Bool.not_true, Bool.not_false, decide_eq_true_eq, decide_eq_false_iff_not, Int.not_lt, Int.not_le] at hc) <;> (try (exfalso; omega)) <;> (try simp (disch := omega) [go_sem, *, wrap64_id, upd_ne, mk3_true, flatten_replicate_one, stepK_if, ilt_true, ilt_false, ile_true, ile_false, Try.ntmps9]))
                      | (refine ac_cond_h fun Kt Kf ht hf => ?_; simp (disch := omega) [go_sem, *]; try (refine ⟨fun hc => ?_, fun hc => ?_⟩ <;> try (exfalso; omega))))
                    refine ⟨_, by omega, Wk.of (by simp [go_sem]) ?_⟩
                    repeat (first | exact Sub.refl _ | refine Sub.upd ?_ (hb0.out _ (by omega)) _)
                  · have hgb : (g == 0) = false := by simpa using hg
                    repeat' (first
                      | (refine ac_seq_h fun K hK => ?_)
                      | (refine ac_region_h fun K hK => ?_; simp (disch := omega) [go_sem, *])
                      | (refine ac_draw_h mixed (by kernel_rfl) fun K hK => ?_; simp (disch := omega) [go_sem, *, wrap64_id, upd_ne, mk3_true, flatten_replicate_one, stepK_if, ilt_true, ilt_false, ile_true, ile_false, Try.ntmps9])
                      | (apply Hide.out hK; clear hK K; try with_reducible dsimp only [thenA])
                      | (apply Hide.out ht; clear ht hf Kt Kf)
                      | (apply Hide.out hf; clear ht hf Kt Kf)
                      | (clear hK K; apply Hide.out hK; clear hK K; try with_reducible dsimp only [thenA])
                      | (clear hK K; clear hK K; apply Hide.out hK; clear hK K; try with_reducible dsimp only [thenA])
                      | (refine ac_block ?_)
                      | (refine ac_skip ?_; simp only [thenA])
                      | (refine ac_exit ?_; simp only [thenA, blockA, if_true, if_false, Nat.reduceEqDiff])
                      | (with_reducible show nextK _ _ _ _ _ _ _; simp (disch := omega) [go_sem, *, wrap64_id, upd_ne, mk3_true, flatten_replicate_one, stepK_if, ilt_true, ilt_false, ile_true, ile_false, Try.ntmps9])
                      | (refine wantK_split (fun hc => ?_) (fun hc => ?_) <;> (try simp only [Bool.not_eq_true', Bool.not_eq_false', Bool.not_eq_eq_eq_not, Bool.not_true, Bool.not_false, decide_eq_true_eq, decide_eq_false_iff_not, Int.not_lt, Int.not_le] at hc) <;> (try (exfalso; omega)) <;> (try simp (disch := omega) [go_sem, *, wrap64_id, upd_ne, mk3_true, flatten_replicate_one, stepK_if, ilt_true, ilt_false, ile_true, ile_false, Try.ntmps9]))
                      | (refine ac_cond_h fun Kt Kf ht hf => ?_; simp (disch := omega) [go_sem, *]; try (refine ⟨fun hc => ?_, fun hc => ?_⟩ <;> try (exfalso; omega))))
                    refine ⟨_, by omega, Wk.of (by simp [go_sem]) ?_⟩
                    repeat (first | exact Sub.refl _ | refine Sub.upd ?_ (hb0.out _ (by omega)) _)
                · obtain ⟨n3, hn3, hwk⟩ := hs'
                  refine hK.out _ ?_
                  clear hK K
                  refine ac_wk hwk ?_
                  clear hwk s' c31 c18c
                  obtain ⟨st, hst⟩ : ∃ st : Nat, N.st = st := ⟨N.st.toNat, by omega⟩
                  have hAs : A.length = st := by have := hla.out; omega
                  have hBs : B.length = st := by have := hlenB.out; omega
                  have hst1 : (st : Int) ≤ 10 := by omega
                  replace hst : Hide _ := hst
                  replace hAs : Hide _ := hAs
                  replace hBs : Hide _ := hBs
                  refine ac_seq_h fun K hK => ?_
                  refine ac_mid (fun s' => ∃ n4, n2 ≤ n4 ∧ Wk s' ⟨235, [(1, iv .i64 s), (2, iv .i64 to), (3, iv .i64 t), (6, .fptr [iv .i64 N.st, encLinks N.nl N.links]), (13, .fslc false false 1 (A.map (iv .i64))), (15, iv .i64 k), (17, .fslc false false 1 (B.map (iv .i64)))], b, n4⟩) ?_ fun s' hs' => ?_
                  · skip
                    repeat' (first
                      | (refine ac_seq_h fun K hK => ?_)
                      | (refine ac_region_h fun K hK => ?_; simp (disch := omega) [go_sem, *])
                      | (refine ac_draw_h mixed (by kernel_rfl) fun K hK => ?_; simp (disch := omega) [go_sem, *, wrap64_id, upd_ne, mk3_true, flatten_replicate_one, stepK_if, ilt_true, ilt_false, ile_true, ile_false, Try.ntmps9])
                      | (apply Hide.out hK; clear hK K; try with_reducible dsimp only [thenA])
                      | (apply Hide.out ht; clear ht hf Kt Kf)
                      | (apply Hide.out hf; clear ht hf Kt Kf)
                      | (clear hK K; apply Hide.out hK; clear hK K; try with_reducible dsimp only [thenA])
                      | (clear hK K; clear hK K; apply Hide.out hK; clear hK K; try with_reducible dsimp only [thenA])
                      | (refine ac_block ?_)
                      | (refine ac_skip ?_; simp only [thenA, blockA])
                      | (refine ac_exit ?_; simp only [thenA, blockA, if_true, if_false, Nat.reduceEqDiff])
                      | (with_reducible show nextK _ _ _ _ _ _ _; simp (disch := omega) [go_sem, *, wrap64_id, upd_ne, mk3_true, flatten_replicate_one, stepK_if, ilt_true, ilt_false, ile_true, ile_false, Try.ntmps9])
                      | (refine wantK_split (fun hc => ?_) (fun hc => ?_) <;> (try simp only [Bool.not_eq_true', Bool.not_eq_false', Bool.not_eq_eq_eq_not, Bool.not_true, Bool.not_false, decide_eq_true_eq, decide_eq_false_iff_not, Int.not_lt, Int.not_le] at hc) <;> (try (exfalso; omega)) <;> (try simp (disch := omega) [go_sem, *, wrap64_id, upd_ne, mk3_true, flatten_replicate_one, stepK_if, ilt_true, ilt_false, ile_true, ile_false, Try.ntmps9]))
                      | (refine ac_cond_h fun Kt Kf ht hf => ?_; simp (disch := omega) [go_sem, *, wrap64_id, upd_ne, mk3_true, flatten_replicate_one, stepK_if, ilt_true, ilt_false, ile_true, ile_false, Try.ntmps9]; try (refine ⟨fun hc => ?_, fun hc => ?_⟩ <;> try (exfalso; omega))))
                    refine ac_loop_wk (fun s' => ∃ (i n4 : Nat), n2 < n4 ∧ i ≤ st ∧ s' = ⟨235, [(1, iv .i64 s), (2, iv .i64 to), (3, iv .i64 t), (6, .fptr [iv .i64 N.st, encLinks N.nl N.links]), (13, .fslc false false 1 (A.map (iv .i64))), (15, iv .i64 k), (17, .fslc false false 1 (B.map (iv .i64))), (20, iv .i64 g), (21, V), (22, iv .i64 e2), (23, iv .i64 i)], b, n4⟩)
                      (fun s' => st - (intAt s' 23).toNat) ?_ ?_
                    · exact loop_start (by simp [go_sem]) (Sub.refl _) ⟨0, _, by omega, by omega, rfl⟩
                    · rintro s' ⟨i, n4, hn4, hi, rfl⟩
                      have hsto := hst.out
                      have hAso := hAs.out
                      have hBso := hBs.out
                      by_cases hlt : i < st
                      · have hiA : i < A.length := by omega
                        have hiB : i < B.length := by omega
                        have hiS : (i : Int) < N.st := by omega
                        obtain ⟨x, hx1, hx2, _⟩ := at_k hiB
                        obtain ⟨y, hy1, hy2, _⟩ := at_k hiA
                        have hxy : 0 ≤ x → 0 ≤ y ∧ y ≤ x := by
                          have := hcmpB.out i (by omega) (by omega)
                          have e1 : at' B i = x := by simp [at', hx2]
                          have e2 : at' A i = y := by simp [at', hy2]
                          rw [hA.out, e1, e2] at this
                          exact this
                        rcases hcase.out with ⟨rfl, rfl, rfl, hlD, hcD⟩ | ⟨hg, rfl, rfl⟩
                        · have hDs : D.length = st := by omega
                          have hiD : i < D.length := by omega
                          obtain ⟨z, hz1, hz2, _⟩ := at_k hiD
                          have hyz : 0 ≤ z → 0 ≤ y ∧ y ≤ z := by
                            have := hcD i (by omega) (by omega)
                            have e1 : at' D i = z := by simp [at', hz2]
                            have e2 : at' A i = y := by simp [at', hy2]
                            rw [e1, e2] at this
                            exact this
                          clear hlD hcD hDs hsto hAso hBso
                          by_cases hx0 : 0 ≤ x <;> by_cases hz0 : 0 ≤ z
                          · obtain ⟨hy0, hyx⟩ := hxy hx0
                            obtain ⟨hy0', hyz'⟩ := hyz hz0
                            clear hxy hyz
                            repeat' (first
                              | (refine ac_seq_h fun K hK => ?_)
                              | (refine ac_region_h fun K hK => ?_; simp (disch := omega) [go_sem, *, wrap64_id])
                              | (refine ac_draw_h mixed (by kernel_rfl) fun K hK => ?_; simp (disch := omega) [go_sem, *, ilt_false, ile_true])
                              | (apply Hide.out hK; clear hK K; try with_reducible dsimp only [thenA])
                              | (apply Hide.out ht; clear ht hf Kt Kf)
                              | (apply Hide.out hf; clear ht hf Kt Kf)
                              | (clear hK K; apply Hide.out hK; clear hK K; try with_reducible dsimp only [thenA])
                              | (clear hK K; clear hK K; apply Hide.out hK; clear hK K; try with_reducible dsimp only [thenA])
                              | (refine ac_block ?_)
                              | (refine ac_skip ?_; simp only [thenA, blockA])
                              | (refine ac_exit ?_; simp only [thenA, blockA, if_true, if_false, Nat.reduceEqDiff])
                              | (with_reducible show nextK _ _ _ _ _ _ _; simp (disch := omega) [go_sem, *, wrap64_id, upd_ne, mk3_true, flatten_replicate_one, stepK_if, ilt_true, ilt_false, ile_true, ile_false])
                              | (refine wantK_split (fun hc => ?_) (fun hc => ?_) <;> (try simp only [Bool.not_eq_true', Bool.not_eq_false', Bool.not_eq_eq_eq_not, Bool.not_true, Bool.not_false, decide_eq_true_eq, decide_eq_false_iff_not, Int.not_lt, Int.not_le] at hc) <;> (try (exfalso; omega)) <;> (try simp (disch := omega) [go_sem, *, wrap64_id, upd_ne, mk3_true, flatten_replicate_one, stepK_if, ilt_true, ilt_false, ile_true, ile_false]))
                              | (refine ac_cond_h fun Kt Kf ht hf => ?_; simp (disch := omega) [go_sem, *]; try (refine ⟨fun hc => ?_, fun hc => ?_⟩ <;> try (exfalso; omega))))
                            exact round_end (by simp [go_sem]) (Sub.refl _) ⟨i + 1, _, by omega, by omega, rfl⟩ (by simp [intAt, go_sem]; omega)
                          · obtain ⟨hy0, hyx⟩ := hxy hx0
                            skip
                            clear hxy hyz
                            repeat' (first
                              | (refine ac_seq_h fun K hK => ?_)
                              | (refine ac_region_h fun K hK => ?_; simp (disch := omega) [go_sem, *, wrap64_id])
                              | (refine ac_draw_h mixed (by kernel_rfl) fun K hK => ?_; simp (disch := omega) [go_sem, *, ilt_false, ile_true])
                              | (apply Hide.out hK; clear hK K; try with_reducible dsimp only [thenA])
                              | (apply Hide.out ht; clear ht hf Kt Kf)
                              | (apply Hide.out hf; clear ht hf Kt Kf)
                              | (clear hK K; apply Hide.out hK; clear hK K; try with_reducible dsimp only [thenA])
                              | (clear hK K; clear hK K; apply Hide.out hK; clear hK K; try with_reducible dsimp only [thenA])
                              | (refine ac_block ?_)
                              | (refine ac_skip ?_; simp only [thenA, blockA])
                              | (refine ac_exit ?_; simp only [thenA, blockA, if_true, if_false, Nat.reduceEqDiff])
                              | (with_reducible show nextK _ _ _ _ _ _ _; simp (disch := omega) [go_sem, *, wrap64_id, upd_ne, mk3_true, flatten_replicate_one, stepK_if, ilt_true, ilt_false, ile_true, ile_false])
                              | (refine wantK_split (fun hc => ?_) (fun hc => ?_) <;> (try simp only [Bool.not_eq_true', Bool.not_eq_false', Bool.not_eq_eq_eq_not, Bool.not_true, Bool.not_false, decide_eq_true_eq, decide_eq_false_iff_not, Int.not_lt, Int.not_le] at hc) <;> (try (exfalso; omega)) <;> (try simp (disch := omega) [go_sem, *, wrap64_id, upd_ne, mk3_true, flatten_replicate_one, stepK_if, ilt_true, ilt_false, ile_true, ile_false]))
                              | (refine ac_cond_h fun Kt Kf ht hf => ?_; simp (disch := omega) [go_sem, *]; try (refine ⟨fun hc => ?_, fun hc => ?_⟩ <;> try (exfalso; omega))))
                            exact round_end (by simp [go_sem]) (Sub.refl _) ⟨i + 1, _, by omega, by omega, rfl⟩ (by simp [intAt, go_sem]; omega)
                          · skip
                            obtain ⟨hy0', hyz'⟩ := hyz hz0
                            clear hxy hyz
                            repeat' (first
                              | (refine ac_seq_h fun K hK => ?_)
                              | (refine ac_region_h fun K hK => ?_; simp (disch := omega) [go_sem, *, wrap64_id])
                              | (refine ac_draw_h mixed (by kernel_rfl) fun K hK => ?_; simp (disch := omega) [go_sem, *, ilt_false, ile_true])
                              | (apply Hide.out hK; clear hK K; try with_reducible dsimp only [thenA])
                              | (apply Hide.out ht; clear ht hf Kt Kf)
                              | (apply Hide.out hf; clear ht hf Kt Kf)
                              | (clear hK K; apply Hide.out hK; clear hK K; try with_reducible dsimp only [thenA])
                              | (clear hK K; clear hK K; apply Hide.out hK; clear hK K; try with_reducible dsimp only [thenA])
                              | (refine ac_block ?_)
                              | (refine ac_skip ?_; simp only [thenA, blockA])
                              | (refine ac_exit ?_; simp only [thenA, blockA, if_true, if_false, Nat.reduceEqDiff])
                              | (with_reducible show nextK _ _ _ _ _ _ _; simp (disch := omega) [go_sem, *, wrap64_id, upd_ne, mk3_true, flatten_replicate_one, stepK_if, ilt_true, ilt_false, ile_true, ile_false])
                              | (refine wantK_split (fun hc => ?_) (fun hc => ?_) <;> (try simp only [Bool.not_eq_true', Bool.not_eq_false', Bool.not_eq_eq_eq_not, Bool.not_true, Bool.not_false, decide_eq_true_eq, decide_eq_false_iff_not, Int.not_lt, Int.not_le] at hc) <;> (try (exfalso; omega)) <;> (try simp (disch := omega) [go_sem, *, wrap64_id, upd_ne, mk3_true, flatten_replicate_one, stepK_if, ilt_true, ilt_false, ile_true, ile_false]))
                              | (refine ac_cond_h fun Kt Kf ht hf => ?_; simp (disch := omega) [go_sem, *]; try (refine ⟨fun hc => ?_, fun hc => ?_⟩ <;> try (exfalso; omega))))
                            exact round_end (by simp [go_sem]) (Sub.refl _) ⟨i + 1, _, by omega, by omega, rfl⟩ (by simp [intAt, go_sem]; omega)
                          · skip
                            skip
                            clear hxy hyz
                            repeat' (first
                              | (refine ac_seq_h fun K hK => ?_)
                              | (refine ac_region_h fun K hK => ?_; simp (disch := omega) [go_sem, *, wrap64_id])
                              | (refine ac_draw_h mixed (by kernel_rfl) fun K hK => ?_; simp (disch := omega) [go_sem, *, ile_true])
                              | (apply Hide.out hK; clear hK K; try with_reducible dsimp only [thenA])
                              | (apply Hide.out ht; clear ht hf Kt Kf)
                              | (apply Hide.out hf; clear ht hf Kt Kf)
                              | (clear hK K; apply Hide.out hK; clear hK K; try with_reducible dsimp only [thenA])
                              | (clear hK K; clear hK K; apply Hide.out hK; clear hK K; try with_reducible dsimp only [thenA])
                              | (refine ac_block ?_)
                              | (refine ac_skip ?_; simp only [thenA, blockA])
                              | (refine ac_exit ?_; simp only [thenA, blockA, if_true, if_false, Nat.reduceEqDiff])
                              | (with_reducible show nextK _ _ _ _ _ _ _; simp (disch := omega) [go_sem, *, wrap64_id, upd_ne, mk3_true, flatten_replicate_one, stepK_if, ilt_true, ilt_false, ile_true, ile_false])
                              | (refine wantK_split (fun hc => ?_) (fun hc => ?_) <;> (try simp only [Bool.not_eq_true', Bool.not_eq_false', Bool.not_eq_eq_eq_not, Bool.not_true, Bool.not_false, decide_eq_true_eq, decide_eq_false_iff_not, Int.not_lt, Int.not_le] at hc) <;> (try (exfalso; omega)) <;> (try simp (disch := omega) [go_sem, *, wrap64_id, upd_ne, mk3_true, flatten_replicate_one, stepK_if, ilt_true, ilt_false, ile_true, ile_false]))
                              | (refine ac_cond_h fun Kt Kf ht hf => ?_; simp (disch := omega) [go_sem, *]; try (refine ⟨fun hc => ?_, fun hc => ?_⟩ <;> try (exfalso; omega))))
                            exact round_end (by simp [go_sem]) (Sub.refl _) ⟨i + 1, _, by omega, by omega, rfl⟩ (by simp [intAt, go_sem]; omega)
                        · have hgb : (g == 0) = false := by simpa using hg
                          clear hsto hAso hBso
                          by_cases hx0 : 0 ≤ x
                          · obtain ⟨hy0, hyx⟩ := hxy hx0
                            clear hxy
                            repeat' (first
                              | (refine ac_seq_h fun K hK => ?_)
                              | (refine ac_region_h fun K hK => ?_; simp (disch := omega) [go_sem, *, wrap64_id])
                              | (refine ac_draw_h mixed (by kernel_rfl) fun K hK => ?_; simp (disch := omega) [go_sem, *, ilt_false, ile_true])
                              | (apply Hide.out hK; clear hK K; try with_reducible dsimp only [thenA])
                              | (apply Hide.out ht; clear ht hf Kt Kf)
                              | (apply Hide.out hf; clear ht hf Kt Kf)
                              | (clear hK K; apply Hide.out hK; clear hK K; try with_reducible dsimp only [thenA])
                              | (clear hK K; clear hK K; apply Hide.out hK; clear hK K; try with_reducible dsimp only [thenA])
                              | (refine ac_block ?_)
                              | (refine ac_skip ?_; simp only [thenA, blockA])
                              | (refine ac_exit ?_; simp only [thenA, blockA, if_true, if_false, Nat.reduceEqDiff])
                              | (with_reducible show nextK _ _ _ _ _ _ _; simp (disch := omega) [go_sem, *, wrap64_id, upd_ne, mk3_true, flatten_replicate_one, stepK_if, ilt_true, ilt_false, ile_true, ile_false])
                              | (refine wantK_split (fun hc => ?_) (fun hc => ?_) <;> (try simp only [Bool.not_eq_true', Bool.not_eq_false', Bool.not_eq_eq_eq_not, Bool.not_true, Bool.not_false, decide_eq_true_eq, decide_eq_false_iff_not, Int.not_lt, Int.not_le] at hc) <;> (try (exfalso; omega)) <;> (try simp (disch := omega) [go_sem, *, wrap64_id, upd_ne, mk3_true, flatten_replicate_one, stepK_if, ilt_true, ilt_false, ile_true, ile_false]))
                              | (refine ac_cond_h fun Kt Kf ht hf => ?_; simp (disch := omega) [go_sem, *]; try (refine ⟨fun hc => ?_, fun hc => ?_⟩ <;> try (exfalso; omega))))
                            exact round_end (by simp [go_sem]) (Sub.refl _) ⟨i + 1, _, by omega, by omega, rfl⟩ (by simp [intAt, go_sem]; omega)
                          · skip
                            clear hxy
                            repeat' (first
                              | (refine ac_seq_h fun K hK => ?_)
                              | (refine ac_region_h fun K hK => ?_; simp (disch := omega) [go_sem, *, wrap64_id])
                              | (refine ac_draw_h mixed (by kernel_rfl) fun K hK => ?_; simp (disch := omega) [go_sem, *, ile_true])
                              | (apply Hide.out hK; clear hK K; try with_reducible dsimp only [thenA])
                              | (apply Hide.out ht; clear ht hf Kt Kf)
                              | (apply Hide.out hf; clear ht hf Kt Kf)
                              | (clear hK K; apply Hide.out hK; clear hK K; try with_reducible dsimp only [thenA])
                              | (clear hK K; clear hK K; apply Hide.out hK; clear hK K; try with_reducible dsimp only [thenA])
                              | (refine ac_block ?_)
                              | (refine ac_skip ?_; simp only [thenA, blockA])
                              | (refine ac_exit ?_; simp only [thenA, blockA, if_true, if_false, Nat.reduceEqDiff])
                              | (with_reducible show nextK _ _ _ _ _ _ _; simp (disch := omega) [go_sem, *, wrap64_id, upd_ne, mk3_true, flatten_replicate_one, stepK_if, ilt_true, ilt_false, ile_true, ile_false])
                              | (refine wantK_split (fun hc => ?_) (fun hc => ?_) <;> (try simp only [Bool.not_eq_true', Bool.not_eq_false', Bool.not_eq_eq_eq_not, Bool.not_true, Bool.not_false, decide_eq_true_eq, decide_eq_false_iff_not, Int.not_lt, Int.not_le] at hc) <;> (try (exfalso; omega)) <;> (try simp (disch := omega) [go_sem, *, wrap64_id, upd_ne, mk3_true, flatten_replicate_one, stepK_if, ilt_true, ilt_false, ile_true, ile_false]))
                              | (refine ac_cond_h fun Kt Kf ht hf => ?_; simp (disch := omega) [go_sem, *]; try (refine ⟨fun hc => ?_, fun hc => ?_⟩ <;> try (exfalso; omega))))
                            exact round_end (by simp [go_sem]) (Sub.refl _) ⟨i + 1, _, by omega, by omega, rfl⟩ (by simp [intAt, go_sem]; omega)
                      · have hiS : N.st ≤ (i : Int) := by omega
                        clear hsto hAso hBso hlt
                        repeat' (first
                          | (refine ac_seq_h fun K hK => ?_)
                          | (refine ac_region_h fun K hK => ?_; simp (disch := omega) [go_sem, *, ilt_false])
                          | (refine ac_draw_h mixed (by kernel_rfl) fun K hK => ?_; simp (disch := omega) [go_sem, *, wrap64_id, upd_ne, mk3_true, flatten_replicate_one, stepK_if, ilt_true, ilt_false, ile_true, ile_false])
                          | (apply Hide.out hK; clear hK K; try with_reducible dsimp only [thenA])
                          | (apply Hide.out ht; clear ht hf Kt Kf)
                          | (apply Hide.out hf; clear ht hf Kt Kf)
                          | (clear hK K; apply Hide.out hK; clear hK K; try with_reducible dsimp only [thenA])
                          | (clear hK K; clear hK K; apply Hide.out hK; clear hK K; try with_reducible dsimp only [thenA])
                          | (refine ac_block ?_)
                          | (refine ac_skip ?_; simp only [thenA, blockA])
                          | (refine ac_exit ?_; simp only [thenA, blockA, if_true])
                          | (with_reducible show nextK _ _ _ _ _ _ _; simp (disch := omega) [go_sem, *, wrap64_id, upd_ne, mk3_true, flatten_replicate_one, stepK_if, ilt_true, ilt_false, ile_true, ile_false])
                          | (refine wantK_split (fun hc => ?_) (fun hc => ?_) <;> (try simp only [Bool.not_eq_true', Bool.not_eq_false', Bool.not_eq_eq_eq_not, Bool.not_true, Bool.not_false, decide_eq_true_eq, decide_eq_false_iff_not, Int.not_lt, Int.not_le] at hc) <;> (try (exfalso; omega)) <;> (try simp (disch := omega) [go_sem, *, wrap64_id, upd_ne, mk3_true, flatten_replicate_one, stepK_if, ilt_true, ilt_false, ile_true, ile_false]))
                          | (refine ac_cond_h fun Kt Kf ht hf => ?_; simp (disch := omega) [go_sem, *]; try (refine ⟨fun hc => ?_, fun hc => ?_⟩ <;> try (exfalso; omega))))
                        exact ⟨_, by omega, Wk.of (by simp [go_sem]) (Sub.refl _)⟩
                  · obtain ⟨n4, hn4, hwk⟩ := hs'
                    refine hK.out _ ?_
                    clear hK K
                    refine ac_wk hwk ?_
                    clear hwk s' hcase
                    have hEE : askedE N t [s, to] = 0 := by
                      rw [askedE2_eq, askedE2, if_pos hE]
                      have : bad N to = false := by simp [bad, within]; omega
                      rw [this]; rfl
                    have hto0 : 0 ≤ to := by omega
                    have hAs := hAs.out
                    have hBs := hBs.out
                    have hst := hst.out
                    have htA : to.toNat < A.length := by omega
                    have htB : to.toNat < B.length := by omega
                    have hgtA := at_get' (o := A) to htA
                    have hgtA2 : A[to.toNat]? = some (at' A to) := at_get hto0 (by omega)
                    have hgtB := at_get' (o := B) to htB
                    have hgtB2 : B[to.toNat]? = some (at' B to) := at_get hto0 (by omega)
                    have htAI : to < A.length := by omega
                    have htBI : to < B.length := by omega
                    rw [hEE] at c29
                    have hwE : wayE N s to t 0 = if at' A to < 0 then 5 else 0 := by rw [wayE, if_neg (by simp), hA.out]
                    have hnT : needH N s to t 0 = if at' A to < 0 then [] else needTo N s to t N.links.length := by
                      rw [needH, hwE]; split <;> simp
                    rw [hwE, hnT] at c29
                    clear hEE hwE hnT hE hto hto2
                    have hmem : ((k : Int) ∈ needTo N s to t N.links.length) ↔ at' B to ≠ at' A to := by
                      have h1 : needAt N s to t k = true ↔ at' B to ≠ at' A to := by
                        rw [needAt, hBto.out, hA.out]; simp
                      rw [← h1, needTo]
                      simp only [List.mem_map, List.mem_filter, List.mem_range]
                      constructor
                      · rintro ⟨w, ⟨_, h⟩, e⟩
                        have : w = k := by have e : (w : Int) = k := e; omega
                        subst this; exact h
                      · intro h; exact ⟨k, ⟨hkl, h⟩, rfl⟩
                    have hnl' : (needTo N s to t N.links.length).length ≤ 40 := Nat.le_trans (needTo_le _ _ _ _ _) hll
                    generalize needTo N s to t N.links.length = L at *
                    generalize at' A to = y at *
                    generalize at' B to = x at *
                    replace hmem : Hide _ := hmem
                    replace hAs : Hide _ := hAs
                    replace hBs : Hide _ := hBs
                    replace hst : Hide _ := hst
                    by_cases hy0 : y < 0
                    · rw [if_pos hy0, if_pos hy0] at c29
                      have c29 : APure Try.prog 29 [encNet N, iv .i64 s, iv .i64 to, iv .i64 t] (.tup [.fslc true true 0 [], iv .i64 5]) := c29
                      repeat' (first
                        | (refine ac_seq_h fun K hK => ?_)
                        | (refine ac_region_h fun K hK => ?_; simp (disch := omega) [go_sem, * ])
                        | (refine ac_draw_h mixed (by kernel_rfl) fun K hK => ?_; simp (disch := omega) [go_sem, *, wrap64_id, upd_ne, mk3_true, flatten_replicate_one, stepK_if, ilt_true, ilt_false, ile_true, ile_false, Try.ntmps9 ])
                        | (apply Hide.out hK; clear hK K; try with_reducible dsimp only [thenA])
                        | (apply Hide.out ht; clear ht hf Kt Kf)
                        | (apply Hide.out hf; clear ht hf Kt Kf)
                        | (clear hK K; apply Hide.out hK; clear hK K; try with_reducible dsimp only [thenA])
                        | (clear hK K; clear hK K; apply Hide.out hK; clear hK K; try with_reducible dsimp only [thenA])
                        | (with_reducible refine APure.call (c29) ?_; try simp (disch := omega) [go_sem, * ])
                        | (with_reducible refine APure.call (nets_spec) ?_; try simp (disch := omega) [go_sem, * ])
                        | (refine ac_block ?_)
                        | (refine ac_skip ?_; simp only [thenA, blockA])
                        | (refine ac_exit ?_; simp only [thenA, blockA, if_true, if_false, Nat.reduceEqDiff])
                        | (with_reducible show nextK _ _ _ _ _ _ _; simp (disch := omega) [go_sem, *, wrap64_id, upd_ne, mk3_true, flatten_replicate_one, stepK_if, ilt_true, ilt_false, ile_true, ile_false, Try.ntmps9 ])
                        | (refine wantK_split (fun hc => ?_) (fun hc => ?_) <;> (try simp only [Bool.not_eq_true', Bool.not_eq_false', Bool.not_eq_eq_eq_not, Bool.not_true, Bool.not_false, decide_eq_true_eq, decide_eq_false_iff_not, Int.not_lt, Int.not_le] at hc) <;> (try (exfalso; omega)) <;> (try simp (disch := omega) [go_sem, *, wrap64_id, upd_ne, mk3_true, flatten_replicate_one, stepK_if, ilt_true, ilt_false, ile_true, ile_false, Try.ntmps9 ]))
                        | (refine ac_cond_h fun Kt Kf ht hf => ?_; simp (disch := omega) [go_sem, * ]; try (refine ⟨fun hc => ?_, fun hc => ?_⟩ <;> try (exfalso; omega))))
                      refine ac_ret ?_
                      refine ⟨by simp, _, (by first | rfl | (simp (disch := omega) [go_sem, upd_ne] <;> rfl)), ?_⟩
                      exact ret_id ⟨fun k hk => by simp (disch := omega) only []; exact hbk.out k hk, by simp [go_sem, below, resVal], by rfl, by simp, by simp⟩
                    · rw [if_neg hy0, if_neg hy0] at c29
                      by_cases hz : L = []
                      · subst hz
                        have hxy : x = y := by
                          have := hmem.out
                          simp at this; exact this
                        have c29 : APure Try.prog 29 [encNet N, iv .i64 s, iv .i64 to, iv .i64 t] (.tup [.fslc true true 0 [], iv .i64 0]) := c29
                        subst hxy
                        repeat' (first
                          | (refine ac_seq_h fun K hK => ?_)
                          | (refine ac_region_h fun K hK => ?_; simp (disch := omega) [go_sem, * ])
                          | (refine ac_draw_h mixed (by kernel_rfl) fun K hK => ?_; simp (disch := omega) [go_sem, *, wrap64_id, upd_ne, mk3_true, flatten_replicate_one, stepK_if, ilt_true, ilt_false, ile_true, ile_false, Try.ntmps9 ])
                          | (apply Hide.out hK; clear hK K; try with_reducible dsimp only [thenA])
                          | (apply Hide.out ht; clear ht hf Kt Kf)
                          | (apply Hide.out hf; clear ht hf Kt Kf)
                          | (clear hK K; apply Hide.out hK; clear hK K; try with_reducible dsimp only [thenA])
                          | (clear hK K; clear hK K; apply Hide.out hK; clear hK K; try with_reducible dsimp only [thenA])
                          | (with_reducible refine APure.call (c29) ?_; try simp (disch := omega) [go_sem, * ])
                          | (with_reducible refine APure.call (nets_spec) ?_; try simp (disch := omega) [go_sem, *, wrap64_id, upd_ne, mk3_true, flatten_replicate_one, stepK_if, ilt_true, ilt_false, ile_true, ile_false, Try.ntmps9 ])
                          | (refine ac_block ?_)
                          | (refine ac_skip ?_; simp only [thenA])
                          | (refine ac_exit ?_; simp only [thenA, blockA, if_true, if_false, Nat.reduceEqDiff])
                          | (with_reducible show nextK _ _ _ _ _ _ _; simp (disch := omega) [go_sem, *, wrap64_id, upd_ne, mk3_true, flatten_replicate_one, stepK_if, ilt_true, ilt_false, ile_true, ile_false, Try.ntmps9 ])
                          | (refine wantK_split (fun hc => ?_) (fun hc => ?_) <;> (try simp only [Bool.not_eq_true', Bool.not_eq_false', Bool.not_eq_eq_eq_not, Bool.not_true, Bool.not_false, decide_eq_true_eq, decide_eq_false_iff_not, Int.not_lt, Int.not_le] at hc) <;> (try (exfalso; omega)) <;> (try simp (disch := omega) [go_sem, *, wrap64_id, upd_ne, mk3_true, flatten_replicate_one, stepK_if, ilt_true, ilt_false, ile_true, ile_false, Try.ntmps9 ]))
                          | (refine ac_cond_h fun Kt Kf ht hf => ?_; simp (disch := omega) [go_sem, * ]; try (refine ⟨fun hc => ?_, fun hc => ?_⟩ <;> try (exfalso; omega))))
                        refine ac_loop_wk (fun s' => ∃ (n5 : Nat), n2 < n5 ∧ s' = ⟨235, [(2, iv .i64 to), (13, .fslc false false 1 (A.map (iv .i64))), (15, iv .i64 k), (17, .fslc false false 1 (B.map (iv .i64))), (24, .fslc true true 0 []), (26, bv false), (27, iv .i64 0)], b, n5⟩)
                          (fun s' => 0) ?_ ?_
                        · exact loop_start (by simp [go_sem]) (Sub.refl _) ⟨_, by omega, rfl⟩
                        · rintro s' ⟨n5, hn5, rfl⟩
                          repeat' (first
                            | (refine ac_seq_h fun K hK => ?_)
                            | (refine ac_region_h fun K hK => ?_; simp (disch := omega) [go_sem, * ])
                            | (refine ac_draw_h mixed (by kernel_rfl) fun K hK => ?_; simp (disch := omega) [go_sem, * ])
                            | (apply Hide.out hK; clear hK K; try with_reducible dsimp only [thenA])
                            | (apply Hide.out ht; clear ht hf Kt Kf)
                            | (apply Hide.out hf; clear ht hf Kt Kf)
                            | (clear hK K; apply Hide.out hK; clear hK K; try with_reducible dsimp only [thenA])
                            | (clear hK K; clear hK K; apply Hide.out hK; clear hK K; try with_reducible dsimp only [thenA])
                            | (with_reducible refine APure.call (nets_spec) ?_; try simp (disch := omega) [go_sem, * ])
                            | (refine ac_block ?_)
                            | (refine ac_skip ?_; simp only [thenA, blockA])
                            | (refine ac_exit ?_; simp only [thenA, blockA, if_true])
                            | (with_reducible show nextK _ _ _ _ _ _ _; simp (disch := omega) [go_sem, *, wrap64_id, upd_ne, mk3_true, flatten_replicate_one, stepK_if, ilt_true, ilt_false, ile_true, ile_false, Try.ntmps9 ])
                            | (refine wantK_split (fun hc => ?_) (fun hc => ?_) <;> (try simp only [Bool.not_eq_true', Bool.not_eq_false', Bool.not_eq_eq_eq_not, Bool.not_true, Bool.not_false, decide_eq_true_eq, decide_eq_false_iff_not, Int.not_lt, Int.not_le] at hc) <;> (try (exfalso; omega)) <;> (try simp (disch := omega) [go_sem, *, wrap64_id, upd_ne, mk3_true, flatten_replicate_one, stepK_if, ilt_true, ilt_false, ile_true, ile_false, Try.ntmps9 ]))
                            | (refine ac_cond_h fun Kt Kf ht hf => ?_; simp (disch := omega) [go_sem, * ]; try (refine ⟨fun hc => ?_, fun hc => ?_⟩ <;> try (exfalso; omega))))
                          refine ac_ret ?_
                          refine ⟨by simp, _, (by first | rfl | (simp (disch := omega) [go_sem, upd_ne] <;> rfl)), ?_⟩
                          exact ret_id ⟨fun k hk => by simp (disch := omega) only []; exact hbk.out k hk, by simp [go_sem, below, resVal], by rfl, by simp, by simp⟩
                      · rw [neV, if_neg (by simpa using hz)] at c29
                        repeat' (first
                          | (refine ac_seq_h fun K hK => ?_)
                          | (refine ac_region_h fun K hK => ?_; simp (disch := omega) [go_sem, * ])
                          | (refine ac_draw_h mixed (by kernel_rfl) fun K hK => ?_; simp (disch := omega) [go_sem, *, wrap64_id, upd_ne, mk3_true, flatten_replicate_one, stepK_if, ilt_true, ilt_false, ile_true, ile_false, Try.ntmps9 ])
                          | (apply Hide.out hK; clear hK K; try with_reducible dsimp only [thenA])
                          | (apply Hide.out ht; clear ht hf Kt Kf)
                          | (apply Hide.out hf; clear ht hf Kt Kf)
                          | (clear hK K; apply Hide.out hK; clear hK K; try with_reducible dsimp only [thenA])
                          | (clear hK K; clear hK K; apply Hide.out hK; clear hK K; try with_reducible dsimp only [thenA])
                          | (with_reducible refine APure.call (c29) ?_; try simp (disch := omega) [go_sem, * ])
                          | (with_reducible refine APure.call (nets_spec) ?_; try simp (disch := omega) [go_sem, *, wrap64_id, upd_ne, mk3_true, flatten_replicate_one, stepK_if, ilt_true, ilt_false, ile_true, ile_false, Try.ntmps9 ])
                          | (refine ac_block ?_)
                          | (refine ac_skip ?_; simp only [thenA])
                          | (refine ac_exit ?_; simp only [thenA, blockA, if_true, if_false, Nat.reduceEqDiff])
                          | (with_reducible show nextK _ _ _ _ _ _ _; simp (disch := omega) [go_sem, *, wrap64_id, upd_ne, mk3_true, flatten_replicate_one, stepK_if, ilt_true, ilt_false, ile_true, ile_false, Try.ntmps9 ])
                          | (refine wantK_split (fun hc => ?_) (fun hc => ?_) <;> (try simp only [Bool.not_eq_true', Bool.not_eq_false', Bool.not_eq_eq_eq_not, Bool.not_true, Bool.not_false, decide_eq_true_eq, decide_eq_false_iff_not, Int.not_lt, Int.not_le] at hc) <;> (try (exfalso; omega)) <;> (try simp (disch := omega) [go_sem, *, wrap64_id, upd_ne, mk3_true, flatten_replicate_one, stepK_if, ilt_true, ilt_false, ile_true, ile_false, Try.ntmps9 ]))
                          | (refine ac_cond_h fun Kt Kf ht hf => ?_; simp (disch := omega) [go_sem, * ]; try (refine ⟨fun hc => ?_, fun hc => ?_⟩ <;> try (exfalso; omega))))
                        refine ac_loop_wk (fun s' => ∃ (j n5 : Nat), n2 < n5 ∧ j ≤ L.length ∧ s' = ⟨235, [(2, iv .i64 to), (13, .fslc false false 1 (A.map (iv .i64))), (15, iv .i64 k), (17, .fslc false false 1 (B.map (iv .i64))), (24, .fslc false false 1 (L.map (iv .i64))), (26, bv (decide ((k : Int) ∈ L.take j))), (27, iv .i64 j)], b, n5⟩)
                          (fun s' => L.length - (intAt s' 27).toNat) ?_ ?_
                        · exact loop_start (by simp [go_sem]) (Sub.refl _) ⟨0, _, by omega, by omega, rfl⟩
                        · rintro s' ⟨j, n5, hn5, hj, rfl⟩
                          by_cases hlt : j < L.length
                          · obtain ⟨z, hz1, hz2, _⟩ := at_k hlt
                            have hnx : (k : Int) ∈ L.take (j + 1) ↔ ((k : Int) ∈ L.take j ∨ z = k) := by
                              rw [List.take_succ_eq_append_getElem hlt, hz1]; simp [eq_comm]
                            replace hnx : Hide _ := hnx
                            replace hz : Hide _ := hz
                            by_cases p1 : (k : Int) ∈ L.take j
                            · have hd : decide ((k : Int) ∈ L.take (j + 1)) = true := decide_eq_true (hnx.out.2 (.inl p1))
                              rw [decide_eq_true p1]
                              replace p1 : Hide _ := p1
                              replace hd : Hide _ := hd
                              repeat' (first
                                | (refine ac_seq_h fun K hK => ?_)
                                | (refine ac_region_h fun K hK => ?_; simp (disch := omega) [go_sem, *, wrap64_id, ilt_true])
                                | (refine ac_draw_h mixed (by kernel_rfl) fun K hK => ?_; simp (disch := omega) [go_sem, *, wrap64_id, upd_ne, mk3_true, flatten_replicate_one, stepK_if, ilt_true, ilt_false, ile_true, ile_false, Try.ntmps9])
                                | (apply Hide.out hK; clear hK K; try with_reducible dsimp only [thenA])
                                | (apply Hide.out ht; clear ht hf Kt Kf)
                                | (apply Hide.out hf; clear ht hf Kt Kf)
                                | (clear hK K; apply Hide.out hK; clear hK K; try with_reducible dsimp only [thenA])
                                | (clear hK K; clear hK K; apply Hide.out hK; clear hK K; try with_reducible dsimp only [thenA])
                                | (refine ac_block ?_)
                                | (refine ac_skip ?_; simp only [thenA])
                                | (refine ac_exit ?_; simp only [thenA, blockA, if_true, if_false, Nat.reduceEqDiff])
                                | (with_reducible show nextK _ _ _ _ _ _ _; simp (disch := omega) [go_sem, *, wrap64_id, upd_ne, mk3_true, flatten_replicate_one, stepK_if, ilt_true, ilt_false, ile_true, ile_false, Try.ntmps9])
                                | (refine wantK_split (fun hc => ?_) (fun hc => ?_) <;> (try simp only [Bool.not_eq_true', Bool.not_eq_false', Bool.not_eq_eq_eq_not, Bool.not_true, Bool.not_false, decide_eq_true_eq, decide_eq_false_iff_not, Int.not_lt, Int.not_le] at hc) <;> (try (exfalso; omega)) <;> (try simp (disch := omega) [go_sem, *, wrap64_id, upd_ne, mk3_true, flatten_replicate_one, stepK_if, ilt_true, ilt_false, ile_true, ile_false, Try.ntmps9]))
                                | (refine ac_cond_h fun Kt Kf ht hf => ?_; simp (disch := omega) [go_sem, *]; try (refine ⟨fun hc => ?_, fun hc => ?_⟩ <;> try (exfalso; omega))))
                              have hd := hd.out
                              exact round_end (by simp [go_sem, hd]) (Sub.refl _) ⟨j + 1, _, by omega, by omega, rfl⟩ (by simp [intAt, go_sem]; omega)
                            · rw [decide_eq_false p1]
                              by_cases p2 : z = k
                              · have hd : decide ((k : Int) ∈ L.take (j + 1)) = true := decide_eq_true (hnx.out.2 (.inr p2))
                                have hzk : (z == (k : Int)) = true := by simpa using p2
                                replace p1 : Hide _ := p1
                                replace p2 : Hide _ := p2
                                replace hd : Hide _ := hd
                                repeat' (first
                                  | (refine ac_seq_h fun K hK => ?_)
                                  | (refine ac_region_h fun K hK => ?_; simp (disch := omega) [go_sem, *, wrap64_id, ilt_true, ile_true])
                                  | (refine ac_draw_h mixed (by kernel_rfl) fun K hK => ?_; simp (disch := omega) [go_sem, *, wrap64_id, upd_ne, mk3_true, flatten_replicate_one, stepK_if, ilt_true, ilt_false, ile_true, ile_false, Try.ntmps9])
                                  | (apply Hide.out hK; clear hK K; try with_reducible dsimp only [thenA])
                                  | (apply Hide.out ht; clear ht hf Kt Kf)
                                  | (apply Hide.out hf; clear ht hf Kt Kf)
                                  | (clear hK K; apply Hide.out hK; clear hK K; try with_reducible dsimp only [thenA])
                                  | (clear hK K; clear hK K; apply Hide.out hK; clear hK K; try with_reducible dsimp only [thenA])
                                  | (refine ac_block ?_)
                                  | (refine ac_skip ?_; simp only [thenA])
                                  | (refine ac_exit ?_; simp only [thenA, blockA, if_true, if_false, Nat.reduceEqDiff])
                                  | (with_reducible show nextK _ _ _ _ _ _ _; simp (disch := omega) [go_sem, *, wrap64_id, upd_ne, mk3_true, flatten_replicate_one, stepK_if, ilt_true, ilt_false, ile_true, ile_false, Try.ntmps9])
                                  | (refine wantK_split (fun hc => ?_) (fun hc => ?_) <;> (try simp only [Bool.not_eq_true', Bool.not_eq_false', Bool.not_eq_eq_eq_not, Bool.not_true, Bool.not_false, decide_eq_true_eq, decide_eq_false_iff_not, Int.not_lt, Int.not_le] at hc) <;> (try (exfalso; omega)) <;> (try simp (disch := omega) [go_sem, *, wrap64_id, upd_ne, mk3_true, flatten_replicate_one, stepK_if, ilt_true, ilt_false, ile_true, ile_false, Try.ntmps9]))
                                  | (refine ac_cond_h fun Kt Kf ht hf => ?_; simp (disch := omega) [go_sem, *]; try (refine ⟨fun hc => ?_, fun hc => ?_⟩ <;> try (exfalso; omega))))
                                have hd := hd.out
                                exact round_end (by simp [go_sem, hd]) (Sub.refl _) ⟨j + 1, _, by omega, by omega, rfl⟩ (by simp [intAt, go_sem]; omega)
                              · have hd : decide ((k : Int) ∈ L.take (j + 1)) = false := decide_eq_false (fun h => by rcases hnx.out.1 h with h | h; exact p1 h; exact p2 h)
                                have hzk : (z == (k : Int)) = false := by simpa using p2
                                replace p1 : Hide _ := p1
                                replace p2 : Hide _ := p2
                                replace hd : Hide _ := hd
                                repeat' (first
                                  | (refine ac_seq_h fun K hK => ?_)
                                  | (refine ac_region_h fun K hK => ?_; simp (disch := omega) [go_sem, *, wrap64_id, ilt_true, ile_true])
                                  | (refine ac_draw_h mixed (by kernel_rfl) fun K hK => ?_; simp (disch := omega) [go_sem, *, wrap64_id, upd_ne, mk3_true, flatten_replicate_one, stepK_if, ilt_true, ilt_false, ile_true, ile_false, Try.ntmps9])
                                  | (apply Hide.out hK; clear hK K; try with_reducible dsimp only [thenA])
                                  | (apply Hide.out ht; clear ht hf Kt Kf)
                                  | (apply Hide.out hf; clear ht hf Kt Kf)
                                  | (clear hK K; apply Hide.out hK; clear hK K; try with_reducible dsimp only [thenA])
                                  | (clear hK K; clear hK K; apply Hide.out hK; clear hK K; try with_reducible dsimp only [thenA])
                                  | (refine ac_block ?_)
                                  | (refine ac_skip ?_; simp only [thenA])
                                  | (refine ac_exit ?_; simp only [thenA, blockA, if_true, if_false, Nat.reduceEqDiff])
                                  | (with_reducible show nextK _ _ _ _ _ _ _; simp (disch := omega) [go_sem, *, wrap64_id, upd_ne, mk3_true, flatten_replicate_one, stepK_if, ilt_true, ilt_false, ile_true, ile_false, Try.ntmps9])
                                  | (refine wantK_split (fun hc => ?_) (fun hc => ?_) <;> (try simp only [Bool.not_eq_true', Bool.not_eq_false', Bool.not_eq_eq_eq_not, Bool.not_true, Bool.not_false, decide_eq_true_eq, decide_eq_false_iff_not, Int.not_lt, Int.not_le] at hc) <;> (try (exfalso; omega)) <;> (try simp (disch := omega) [go_sem, *, wrap64_id, upd_ne, mk3_true, flatten_replicate_one, stepK_if, ilt_true, ilt_false, ile_true, ile_false, Try.ntmps9]))
                                  | (refine ac_cond_h fun Kt Kf ht hf => ?_; simp (disch := omega) [go_sem, *]; try (refine ⟨fun hc => ?_, fun hc => ?_⟩ <;> try (exfalso; omega))))
                                have hd := hd.out
                                exact round_end (by simp [go_sem, hd]) (Sub.refl _) ⟨j + 1, _, by omega, by omega, rfl⟩ (by simp [intAt, go_sem]; omega)
                          · have hjl : j = L.length := by omega
                            rw [hjl, List.take_length]
                            replace hjl : Hide _ := hjl
                            have hm2 := hmem.out
                            by_cases p : x = y
                            · have hd : decide ((k : Int) ∈ L) = false := decide_eq_false (fun h => hm2.1 h p)
                              rw [hd]
                              have hxy : (x != y) = false := by simpa using p
                              replace p : Hide _ := p
                              clear hm2 hd
                              repeat' (first
                                | (refine ac_seq_h fun K hK => ?_)
                                | (refine ac_region_h fun K hK => ?_; simp (disch := omega) [go_sem, * ])
                                | (refine ac_draw_h mixed (by kernel_rfl) fun K hK => ?_; simp (disch := omega) [go_sem, * ])
                                | (apply Hide.out hK; clear hK K; try with_reducible dsimp only [thenA])
                                | (apply Hide.out ht; clear ht hf Kt Kf)
                                | (apply Hide.out hf; clear ht hf Kt Kf)
                                | (clear hK K; apply Hide.out hK; clear hK K; try with_reducible dsimp only [thenA])
                                | (clear hK K; clear hK K; apply Hide.out hK; clear hK K; try with_reducible dsimp only [thenA])
                                | (with_reducible refine APure.call (nets_spec) ?_; try simp (disch := omega) [go_sem, * ])
                                | (refine ac_block ?_)
                                | (refine ac_skip ?_; simp only [thenA, blockA])
                                | (refine ac_exit ?_; simp only [thenA, blockA, if_true])
                                | (with_reducible show nextK _ _ _ _ _ _ _; simp (disch := omega) [go_sem, *, wrap64_id, upd_ne, mk3_true, flatten_replicate_one, stepK_if, ilt_true, ilt_false, ile_true, ile_false, Try.ntmps9 ])
                                | (refine wantK_split (fun hc => ?_) (fun hc => ?_) <;> (try simp only [Bool.not_eq_true', Bool.not_eq_false', Bool.not_eq_eq_eq_not, Bool.not_true, Bool.not_false, decide_eq_true_eq, decide_eq_false_iff_not, Int.not_lt, Int.not_le] at hc) <;> (try (exfalso; omega)) <;> (try simp (disch := omega) [go_sem, *, wrap64_id, upd_ne, mk3_true, flatten_replicate_one, stepK_if, ilt_true, ilt_false, ile_true, ile_false, Try.ntmps9 ]))
                                | (refine ac_cond_h fun Kt Kf ht hf => ?_; simp (disch := omega) [go_sem, * ]; try (refine ⟨fun hc => ?_, fun hc => ?_⟩ <;> try (exfalso; omega))))
                              refine ac_ret ?_
                              refine ⟨by simp, _, (by first | rfl | (simp (disch := omega) [go_sem, upd_ne] <;> rfl)), ?_⟩
                              exact ret_id ⟨fun k hk => by simp (disch := omega) only []; exact hbk.out k hk, by simp [go_sem, below, resVal], by rfl, by simp, by simp⟩
                            · have hd : decide ((k : Int) ∈ L) = true := decide_eq_true (hm2.2 p)
                              rw [hd]
                              have hxy : (x != y) = true := by simpa using p
                              replace p : Hide _ := p
                              clear hm2 hd
                              repeat' (first
                                | (refine ac_seq_h fun K hK => ?_)
                                | (refine ac_region_h fun K hK => ?_; simp (disch := omega) [go_sem, * ])
                                | (refine ac_draw_h mixed (by kernel_rfl) fun K hK => ?_; simp (disch := omega) [go_sem, * ])
                                | (apply Hide.out hK; clear hK K; try with_reducible dsimp only [thenA])
                                | (apply Hide.out ht; clear ht hf Kt Kf)
                                | (apply Hide.out hf; clear ht hf Kt Kf)
                                | (clear hK K; apply Hide.out hK; clear hK K; try with_reducible dsimp only [thenA])
                                | (clear hK K; clear hK K; apply Hide.out hK; clear hK K; try with_reducible dsimp only [thenA])
                                | (with_reducible refine APure.call (nets_spec) ?_; try simp (disch := omega) [go_sem, * ])
                                | (refine ac_block ?_)
                                | (refine ac_skip ?_; simp only [thenA, blockA])
                                | (refine ac_exit ?_; simp only [thenA, blockA, if_true])
                                | (with_reducible show nextK _ _ _ _ _ _ _; simp (disch := omega) [go_sem, *, wrap64_id, upd_ne, mk3_true, flatten_replicate_one, stepK_if, ilt_true, ilt_false, ile_true, ile_false, Try.ntmps9 ])
                                | (refine wantK_split (fun hc => ?_) (fun hc => ?_) <;> (try simp only [Bool.not_eq_true', Bool.not_eq_false', Bool.not_eq_eq_eq_not, Bool.not_true, Bool.not_false, decide_eq_true_eq, decide_eq_false_iff_not, Int.not_lt, Int.not_le] at hc) <;> (try (exfalso; omega)) <;> (try simp (disch := omega) [go_sem, *, wrap64_id, upd_ne, mk3_true, flatten_replicate_one, stepK_if, ilt_true, ilt_false, ile_true, ile_false, Try.ntmps9 ]))
                                | (refine ac_cond_h fun Kt Kf ht hf => ?_; simp (disch := omega) [go_sem, * ]; try (refine ⟨fun hc => ?_, fun hc => ?_⟩ <;> try (exfalso; omega))))
                              refine ac_ret ?_
                              refine ⟨by simp, _, (by first | rfl | (simp (disch := omega) [go_sem, upd_ne] <;> rfl)), ?_⟩
                              exact ret_id ⟨fun k hk => by simp (disch := omega) only []; exact hbk.out k hk, by simp [go_sem, below, resVal], by rfl, by simp, by simp⟩
      · have hEn : (askedE N t [s] != 0) = true := by simpa using hE
        rw [eInts, if_neg hE] at c18
        replace hnl : Hide _ := hnl
        repeat' (first
          | (refine ac_seq_h fun K hK => ?_)
          | (refine ac_region_h fun K hK => ?_; simp (disch := omega) [go_sem, *, upd_ne, Try.ntmps9 ])
          | (refine ac_draw_h mixed (by kernel_rfl) fun K hK => ?_; simp (disch := omega) [go_sem, *, wrap64_id, upd_ne, mk3_true, flatten_replicate_one, stepK_if, ilt_true, ilt_false, ile_true, ile_false, Try.ntmps9 ])
          | (apply Hide.out hK; clear hK K; try with_reducible dsimp only [thenA])
          | (apply Hide.out ht; clear ht hf Kt Kf)
          | (apply Hide.out hf; clear ht hf Kt Kf)
          | (clear hK K; apply Hide.out hK; clear hK K; try with_reducible dsimp only [thenA])
          | (clear hK K; clear hK K; apply Hide.out hK; clear hK K; try with_reducible dsimp only [thenA])
          | (with_reducible refine APure.call (c10) ?_; try simp (disch := omega) [go_sem, *, upd_ne ])
          | (with_reducible refine APure.call (nets_spec) ?_; try simp (disch := omega) [go_sem, * ])
          | (with_reducible refine APure.call (c18) ?_; try simp (disch := omega) [go_sem, * ])
          | (refine ac_block ?_)
          | (refine ac_skip ?_; simp only [thenA])
          | (refine ac_exit ?_; simp only [thenA, blockA, if_true, if_false, Nat.reduceEqDiff])
          | (with_reducible show nextK _ _ _ _ _ _ _; simp (disch := omega) [go_sem, *, wrap64_id, upd_ne, mk3_true, flatten_replicate_one, stepK_if, ilt_true, ilt_false, ile_true, ile_false, Try.ntmps9 ])
          | (refine wantK_split (fun hc => ?_) (fun hc => ?_) <;> (try simp only [Bool.not_eq_true', Bool.not_eq_false', Bool.not_eq_eq_eq_not, Bool.not_true, Bool.not_false, decide_eq_true_eq, decide_eq_false_iff_not, Int.not_lt, Int.not_le] at hc) <;> (try (exfalso; omega)) <;> (try simp (disch := omega) [go_sem, *, wrap64_id, upd_ne, mk3_true, flatten_replicate_one, stepK_if, ilt_true, ilt_false, ile_true, ile_false, Try.ntmps9 ]))
          | (refine ac_cond_h fun Kt Kf ht hf => ?_; simp (disch := omega) [go_sem, * ]; try (refine ⟨fun hc => ?_, fun hc => ?_⟩ <;> try (exfalso; omega))))
        (refine ac_ret ?_; try dsimp only [thenA, blockA]; refine ⟨by simp, _, (by first | rfl | (simp (disch := omega) [go_sem, upd_ne] <;> rfl)), ?_⟩; refine ret_id ⟨fun k hk => (by first | rfl | (repeat rw [upd_ne _ _ _ _ (by omega)])), (by simp [go_sem, below]), (by simp [go_sem] <;> omega), by simp, by simp⟩)
  · have hf : fewN N = false := by simpa using hf
    rw [hf] at c10
    replace hf : Hide _ := hf
    replace hnl : Hide _ := hnl
    repeat' (first
      | (refine ac_seq_h fun K hK => ?_)
      | (refine ac_region_h fun K hK => ?_; simp (disch := omega) [go_sem, *, upd_ne, Try.ntmps9 ])
      | (refine ac_draw_h mixed (by kernel_rfl) fun K hK => ?_; simp (disch := omega) [go_sem, *, wrap64_id, upd_ne, mk3_true, flatten_replicate_one, stepK_if, ilt_true, ilt_false, ile_true, ile_false, Try.ntmps9 ])
      | (apply Hide.out hK; clear hK K; try with_reducible dsimp only [thenA])
      | (apply Hide.out ht; clear ht hf Kt Kf)
      | (apply Hide.out hf; clear ht hf Kt Kf)
      | (clear hK K; apply Hide.out hK; clear hK K; try with_reducible dsimp only [thenA])
      | (clear hK K; clear hK K; apply Hide.out hK; clear hK K; try with_reducible dsimp only [thenA])
      | (with_reducible refine APure.call (c10) ?_; try simp (disch := omega) [go_sem, * ])
      | (with_reducible refine APure.call (nets_spec) ?_; try simp (disch := omega) [go_sem, * ])
      | (refine ac_block ?_)
      | (refine ac_skip ?_; simp only [thenA, blockA])
      | (refine ac_exit ?_; simp only [thenA, blockA, if_true, if_false, Nat.reduceEqDiff])
      | (with_reducible show nextK _ _ _ _ _ _ _; simp (disch := omega) [go_sem, *, wrap64_id, upd_ne, mk3_true, flatten_replicate_one, stepK_if, ilt_true, ilt_false, ile_true, ile_false, Try.ntmps9 ])
      | (refine wantK_split (fun hc => ?_) (fun hc => ?_) <;> (try simp only [Bool.not_eq_true', Bool.not_eq_false', Bool.not_eq_eq_eq_not, Bool.not_true, Bool.not_false, decide_eq_true_eq, decide_eq_false_iff_not, Int.not_lt, Int.not_le] at hc) <;> (try (exfalso; omega)) <;> (try simp (disch := omega) [go_sem, *, wrap64_id, upd_ne, mk3_true, flatten_replicate_one, stepK_if, ilt_true, ilt_false, ile_true, ile_false, Try.ntmps9 ]))
      | (refine ac_cond_h fun Kt Kf ht hf => ?_; simp (disch := omega) [go_sem, * ]; try (refine ⟨fun hc => ?_, fun hc => ?_⟩ <;> try (exfalso; omega))))
    (refine ac_ret ?_; try dsimp only [thenA, blockA]; refine ⟨by simp, _, (by first | rfl | (simp (disch := omega) [go_sem, upd_ne] <;> rfl)), ?_⟩; refine ret_id ⟨fun k hk => (by first | rfl | (repeat rw [upd_ne _ _ _ _ (by omega)])), (by simp [go_sem, below]), (by simp [go_sem] <;> omega), by simp, by simp⟩)
end Go.AM
