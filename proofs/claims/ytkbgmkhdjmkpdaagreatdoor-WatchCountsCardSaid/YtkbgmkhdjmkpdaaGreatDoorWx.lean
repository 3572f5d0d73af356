/- Who, by the program; duties and texts by value. Conditions: as each theorem says. -/
import Derived.Test.YtkbgmkhdjmkpdaaGreatDoorDe
import Derived.Test.YtkbgmkhdjmkpdaaGreatDoorEb
import Derived.Test.YtkbgmkhdjmkpdaaGreatDoorAx
namespace Go.AM
open Go.Proofs Cw Du Go.RowKit
set_option maxRecDepth 10000
set_option maxHeartbeats 4000000
theorem dutF_is (d : Int) (L : List Pr) : ∃ nl s, dutF d L = .fslc nl nl s (L.map (dutyA d)) ∧ (L = [] ∨ nl = false ∧ s = 3) := by
  unfold dutF
  split
  · rename_i e; subst e; exact ⟨true, 0, rfl, .inl rfl⟩
  · exact ⟨false, 3, rfl, .inr ⟨rfl, rfl⟩⟩
/-- texts by value -/
def txF (L : List ByteArray) : AV := if L = [] then .fslc true true 0 [] else .fslc false false 1 (L.map sv)
end Go.AM

namespace Go.AM
open Go.Proofs Cw Du
set_option maxRecDepth 10000
set_option maxHeartbeats 4000000
/-- who of a list watches a tower -/
def whoT (L : List Pr) (t : ByteArray) : List ByteArray := (L.filter fun p => eqB p.1 t).map (·.2)
def outWho (ls : List Lin) (l : List Ordr) (d : Int) (t : ByteArray) : List ByteArray × Int := if (outDu ls l d).2 ≠ 0 then ([], (outDu ls l d).2) else if nameOk t then (whoT (outDu ls l d).1 t, 0) else ([], 1)
theorem whoT_step (L : List Pr) (t : ByteArray) (i : Nat) (p : Pr) (h : L[i]? = some p) : whoT (L.take (i + 1)) t = whoT (L.take i) t ++ (if eqB p.1 t = true then [p.2] else []) := by
  obtain ⟨hlt, e⟩ := List.getElem?_eq_some_iff.1 h
  unfold whoT
  rw [List.take_succ_eq_append_getElem hlt, e, List.filter_append, List.map_append]
  congr 1
  cases hq : eqB p.1 t <;> simp [hq]
theorem whoT_len (L : List Pr) (t : ByteArray) : (whoT L t).length ≤ L.length := by
  unfold whoT; rw [List.length_map]; exact List.length_filter_le _ _
theorem ap_txt {nm m : Nat} {V : List ByteArray} {p : ByteArray} {h : AHeap} {b c : Bool} (hm : h m = acO (V.map sv)) (hl : V.length ≤ 2000000) :
    aAppend Tryz.prog nm 35 (acV 1 m (V.map sv)) (.fslc b c 1 [sv p]) h = some (acV 1 nm ((V ++ [p]).map sv), (h.upd m none).upd nm (acO ((V ++ [p]).map sv))) := by
  have := ap_ac (P := Tryz.prog) (T := 35) (e := 9) (s := 1) (by_ := 16) (z := sv ByteArray.empty) (by kernel_rfl) (by kernel_rfl) (by kernel_rfl) (by kernel_rfl) (by simp [cellsOf, AV.scalar]) (nm := nm) (m := m) (L := V.map sv) (X := [sv p]) (nl := b) (full := c) hm (fun y hy => by obtain ⟨o, _, rfl⟩ := List.mem_map.1 hy; rfl) (by simp) (by simp; omega)
  rw [List.map_append]; exact this
theorem flat_txt (V : List ByteArray) : flat (V.map sv) = V.map sv := by
  induction V with
  | nil => rfl
  | cons v r ih => rw [List.map_cons, flat_consD, ih]; rfl
theorem elemsT : ∀ V : List ByteArray, elems false 1 V.length (flat (V.map sv)) = V.map sv
  | [] => rfl
  | v :: r => by
    have ih := elemsT r
    rw [flat_txt] at ih ⊢
    simp only [elems, chunk, List.map_cons, List.length_cons] at ih ⊢
    have e1 : List.drop 1 (sv v :: List.map sv r) = List.map sv r := rfl
    rw [e1, ih]; rfl
theorem below_txF (n : Nat) (V : List ByteArray) : below n (txF V) := by
  unfold txF
  split
  · simp [below, belowL]
  · simp only [below]; rw [belowL_iff]; intro y hy; obtain ⟨o, _, rfl⟩ := List.mem_map.1 hy; simp [below]
end Go.AM

namespace Go.AM
open Go.Proofs Cw Du
set_option maxRecDepth 10000
set_option maxHeartbeats 4000000
/-- what Who gives, by value -/
def whoV (r : List ByteArray × Int) : AV := if r.2 ≠ 0 then .fslc true true 0 [] else .fslc (r.1.map sv).isEmpty false 1 (r.1.map sv)
theorem outDu_len (ls : List Lin) (l : List Ordr) (d : Int) : (outDu ls l d).1.length ≤ ls.length := by
  unfold outDu
  split
  · simp
  · split
    · exact Nat.le_trans (Nat.le_of_eq (sortP_perm _).length_eq) (dayD_len ls d)
    · simp
theorem Who_spec (nlL fuL : Bool) (sL : Nat) (ls : List Lin) (hnlL : ls = [] ∨ nlL = false ∧ sL = 8) (hsL : smL ls) (hlL : ls.length ≤ 1000000) (nl fu : Bool) (s : Nat) (l : List Ordr) (hnl : l = [] ∨ nl = false ∧ s = 7) (hw : wfO l) (hs : smO l) (hl : l.length ≤ 1000000) (d : Int) (t : ByteArray) (ht : t.size ≤ 1000000) :
    APure Tryz.prog 12 [.agg [.fslc nlL fuL sL (ls.map encLn), .fslc nl fu s (l.map encO)], iv .i64 d, sv t] (.tup [whoV (outWho ls l d t), iv .i64 (outWho ls l d t).2]) := by
  intro h n
  have k1 := Duties_spec nlL fuL sL ls hnlL hsL hlL nl fu s l hnl hw hs hl d
  have k2 := named83 t ht
  have hlen := Nat.le_trans (outDu_len ls l d) hlL
  refine ACalls.pure (ACalls.entry (by kernel_rfl) fun hb _ => calls_of Tryz.func12 rfl (by kernel_rfl) (by simp [Tryz.ntmps12]) ?_)
  unfold outWho
  generalize outDu ls l d = R at *
  obtain ⟨L, e⟩ := R
  simp only at k1 hlen ⊢
  obtain ⟨nl2, s2, e2, hnl2⟩ := dutF_is d L
  rw [e2] at k1
  generalize List.map encLn ls = LL at *
  generalize List.map encO l = OO at *
  clear hsL hs hw hnl hnlL hlL hl ht e2
  by_cases he : e = 0
  · subst he
    cases hq : nameOk t with
    | true =>
      rw [hq] at k2
      have hr : (if (0 : Int) ≠ 0 then (([] : List ByteArray), (0 : Int)) else if true = true then (whoT L t, 0) else ([], 1)) = (whoT L t, 0) := rfl
      rw [hr]
      obtain ⟨T, hT⟩ : ∃ T, Hide (T = whoV (whoT (L.take L.length) t, 0)) := ⟨_, rfl⟩
      have hT2 : whoV (whoT L t, 0) = T := by rw [hT.out, List.take_length]
      rw [hT2]
      clear hT2 hr
      replace hnl2 : Hide _ := hnl2
      repeat' (first | (refine ac_seq_h fun K hK => ?_) | (refine ac_region_h fun K hK => ?_; simp (disch := omega) [go_sem, *, Tryz.ntmps12 ]) | (apply Hide.out hK; clear hK K; try with_reducible dsimp only [thenA]) | (apply Hide.out hf; clear ht hf Kt Kf) | (with_reducible refine APure.gcall (k1) ?_; try simp (disch := omega) [go_sem, * ]) | (with_reducible refine APure.gcall (k2) ?_; try simp (disch := omega) [go_sem, * ]) | (refine ac_block ?_) | (refine ac_skip ?_; simp only [thenA]) | (refine ac_cond_h fun Kt Kf ht hf => ?_; simp (disch := omega) [go_sem, * ]; try (refine ⟨fun hc => ?_, fun hc => ?_⟩ <;> try (exfalso; omega))))
      refine ac_hbD fun hB => ?_
      have hmo0 : (h.upd n (some (.cells [.fslc nlL fuL sL LL, .fslc nl fu s OO]))) (n + 3 + 8 + 2 + 3 + 1 + 3) = none := HB_none hB (Nat.le_refl _)
      clear hB
      refine ac_loop_wk (fun s' => ∃ (i n2 mo : Nat) (H2 : AHeap) (V : List ByteArray), n < n2 ∧ n < mo ∧ mo ≤ n2 ∧ i ≤ L.length ∧ V = whoT (L.take i) t ∧ H2 mo = acO (V.map sv) ∧ (∀ x, x < n → H2 x = h x) ∧ s' = ⟨42, [(2, sv t), (10, acV 1 mo (V.map sv)), (25, .fslc nl2 nl2 s2 (L.map (dutyA d))), (26, iv .i64 L.length), (27, iv .i64 i)], H2, n2⟩)
        (fun s' => L.length - (intAt s' 27).toNat) ?_ ?_
      · refine loop_start ?_ (Sub.refl _) ⟨0, n + 3 + 8 + 2 + 3 + 1 + 3, n + 3 + 8 + 2 + 3 + 1 + 3, _, [], by omega, by omega, by omega, by omega, rfl, hmo0, fun x hx => by rw [upd_ne _ _ _ _ (by omega)], rfl⟩
        rw [show ([] : List ByteArray).map sv = [] from rfl, ac_nil]; simp [go_sem]
      · rintro s' ⟨i, n2, mo, H2, V, hn2, hmo1, hmo2, hi, hVe, hV, hfr, rfl⟩
        replace hfr : Hide _ := hfr
        replace hV : Hide _ := hV
        by_cases hlt : i < L.length
        · obtain ⟨⟨p1, p2⟩, hx⟩ : ∃ o, L[i] = o := ⟨_, rfl⟩
          have hne : L ≠ [] := fun e => by rw [e] at hlt; simp at hlt
          obtain ⟨rfl, rfl⟩ := hnl2.out.resolve_left hne
          have hex : dutyA d L[i] = .agg [iv .i64 d, sv p1, sv p2] := by rw [hx]; rfl
          have hst := whoT_step L t i (p1, p2) (by rw [List.getElem?_eq_getElem hlt, hx])
          have hVl : V.length ≤ 1000000 := by
            have := whoT_len (L.take i) t
            rw [List.length_take] at this
            rw [hVe]; omega
          rw [← hVe] at hst
          replace hx : Hide _ := hx
          replace hVe : Hide _ := hVe
          replace hT : Hide _ := hT
          clear hne
          cases c0 : eqB p1 t with
          | false =>
            rw [if_neg (show ¬ eqB (p1, p2).1 t = true from by rw [show eqB (p1, p2).1 t = eqB p1 t from rfl, c0]; simp), List.append_nil] at hst
            have c1 : (p1.toList == t.toList) = false := c0
            replace c0 : Hide _ := trivial
            replace hst : Hide _ := hst
            repeat' (first | (refine ac_seq_h fun K hK => ?_) | (refine ac_region_h fun K hK => ?_; simp (disch := omega) [go_sem, *, wrap64_id, ilt_true, ile_true]) | (apply Hide.out hK; clear hK K; try with_reducible dsimp only [thenA]) | (apply Hide.out ht; clear ht hf Kt Kf) | (apply Hide.out hf; clear ht hf Kt Kf) | (refine ac_block ?_) | (refine ac_skip ?_; simp only [thenA, blockA]) | (refine ac_cond_h fun Kt Kf ht hf => ?_; simp (disch := omega) [go_sem, *]; try (refine ⟨fun hc => ?_, fun hc => ?_⟩ <;> try (exfalso; omega))))
            refine round_end (by simp [go_sem]) (Sub.refl _) ⟨i + 1, _, mo, _, V, ?_, hmo1, ?_, by omega, hst.out.symm, ?_, fun x hx => ?_, rfl⟩ (by simp [intAt, go_sem]; omega)
            · first | omega | (simp only; omega)
            · first | omega | (simp only; omega)
            · repeat rw [upd_ne _ _ _ _ (by omega)]
              exact hV.out
            · repeat rw [upd_ne _ _ _ _ (by omega)]
              exact hfr.out x hx
          | true =>
            rw [if_pos (show eqB (p1, p2).1 t = true from c0)] at hst
            have c1 : (p1.toList == t.toList) = true := c0
            replace c0 : Hide _ := trivial
            replace hst : Hide _ := hst
            repeat' (first | (refine ac_seq_h fun K hK => ?_) | (refine ac_region_h fun K hK => ?_; simp (disch := omega) [go_sem, *, ilt_true, ile_true]) | (apply Hide.out hK; clear hK K; try with_reducible dsimp only [thenA]) | (apply Hide.out ht; clear ht hf Kt Kf) | (refine ac_block ?_) | (refine ac_skip ?_; simp only [thenA]) | (refine ac_cond_h fun Kt Kf ht hf => ?_; simp (disch := omega) [go_sem, *]; try (refine ⟨fun hc => ?_, fun hc => ?_⟩ <;> try (exfalso; omega))))
            rw [ap_txt (m := mo) (V := V) (p := p2)]
            · simp (disch := omega) [go_sem]
              repeat' (first | (refine ac_region_h fun K hK => ?_; simp (disch := omega) [go_sem, *, wrap64_id]) | (apply Hide.out hK; clear hK K; try with_reducible dsimp only [thenA]))
              refine round_end (by simp [go_sem]) (Sub.refl _) ⟨i + 1, _, n2 + 1 + 4 + 4 + 4, _, V ++ [p2], ?_, ?_, ?_, by omega, hst.out.symm, ?_, fun x hx => ?_, rfl⟩ (by simp [intAt, go_sem]; omega)
              · first | omega | (simp only; omega)
              · first | omega | (simp only; omega)
              · first | omega | (simp only; omega)
              · rw [List.map_append]; exact upd_same _ _ _
              · repeat rw [upd_ne _ _ _ _ (by omega)]
                exact hfr.out x hx
            · repeat rw [upd_ne _ _ _ _ (by omega)]
              exact hV.out
            · omega
        · have hii : i = L.length := by omega
          subst hii
          have hTT : T = .fslc (V.map sv).isEmpty false 1 (V.map sv) := by rw [hT.out, ← hVe]; rfl
          subst hTT
          replace hT : Hide _ := trivial
          replace hVe : Hide _ := trivial
          refine ac_fzac (t := 10) (m := mo) (s := 1) (L := V.map sv) false (fun _ => rfl) hV.out (by simp [go_sem]) (fun x hx => by obtain ⟨o, _, rfl⟩ := List.mem_map.1 hx; rfl) (by rw [List.length_map]; exact elemsT V) ?_
          have hbl : belowL n (V.map sv) := by rw [belowL_iff]; intro y hy; obtain ⟨o, _, rfl⟩ := List.mem_map.1 hy; simp [below]
          repeat' (first | (refine ac_seq_h fun K hK => ?_) | (refine ac_region_h fun K hK => ?_; simp (disch := omega) [go_sem, *]) | (apply Hide.out hK; clear hK K; try with_reducible dsimp only [thenA]) | (apply Hide.out hf; clear ht hf Kt Kf) | (clear hK K; apply Hide.out hK; clear hK K; try with_reducible dsimp only [thenA]) | (refine ac_exit ?_; simp only [thenA, blockA, if_true]) | (refine ac_cond_h fun Kt Kf ht hf => ?_; simp (disch := omega) [go_sem, *]; try (refine ⟨fun hc => ?_, fun hc => ?_⟩ <;> try (exfalso; omega))))
          refine ac_ret ?_
          try dsimp only [thenA, blockA]
          refine ⟨by simp, _, (by first | rfl | (simp (disch := omega) [go_sem, upd_ne] <;> rfl)), ?_⟩
          refine ret_id ⟨fun k hk => ?_, ?_, by simp [go_sem], by simp, by simp⟩
          · rw [upd_ne _ _ _ _ (by omega)]; exact hfr.out k hk
          · simp [go_sem, below, belowL, hbl]
    | false =>
      rw [hq] at k2
      have hr : (if (0 : Int) ≠ 0 then (([] : List ByteArray), (0 : Int)) else if false = true then (whoT L t, 0) else ([], 1)) = ([], 1) := rfl
      rw [hr, show whoV ([], 1) = .fslc true true 0 [] from rfl]
      clear hr hq hnl2
      generalize List.map (dutyA d) L = LM at *
      repeat' (first | (refine ac_seq_h fun K hK => ?_) | (refine ac_region_h fun K hK => ?_; simp (disch := omega) [go_sem, *, Tryz.ntmps12 ]) | (apply Hide.out hK; clear hK K; try with_reducible dsimp only [thenA]) | (apply Hide.out ht; clear ht hf Kt Kf) | (apply Hide.out hf; clear ht hf Kt Kf) | (with_reducible refine APure.gcall (k1) ?_; try simp (disch := omega) [go_sem, * ]) | (with_reducible refine APure.gcall (k2) ?_; try simp (disch := omega) [go_sem, * ]) | (refine ac_skip ?_; simp only [thenA]) | (refine ac_cond_h fun Kt Kf ht hf => ?_; simp (disch := omega) [go_sem, * ]; try (refine ⟨fun hc => ?_, fun hc => ?_⟩ <;> try (exfalso; omega))))
      (refine ac_ret ?_; try dsimp only [thenA, blockA]; refine ⟨by simp, _, (by first | rfl | (simp (disch := omega) [go_sem, upd_ne] <;> rfl)), ?_⟩; refine ret_id ⟨fun k hk => (by first | rfl | (repeat rw [upd_ne _ _ _ _ (by omega)])), (by simp [go_sem, below, belowL]), (by simp [go_sem] <;> omega), by simp, by simp⟩)
  · rw [if_pos (show e ≠ 0 from he)]
    have hv : whoV ([], e) = .fslc true true 0 [] := by unfold whoV; rw [if_pos (show e ≠ 0 from he)]
    rw [hv]
    have hne : (e != 0) = true := by simpa using he
    clear hv he hnl2 k2
    generalize List.map (dutyA d) L = LM at *
    repeat' (first | (refine ac_seq_h fun K hK => ?_) | (refine ac_region_h fun K hK => ?_; simp (disch := omega) [go_sem, *, Tryz.ntmps12 ]) | (apply Hide.out hK; clear hK K; try with_reducible dsimp only [thenA]) | (apply Hide.out ht; clear ht hf Kt Kf) | (with_reducible refine APure.gcall (k1) ?_; try simp (disch := omega) [go_sem, * ]) | (refine ac_cond_h fun Kt Kf ht hf => ?_; simp (disch := omega) [go_sem, * ]; try (refine ⟨fun hc => ?_, fun hc => ?_⟩ <;> try (exfalso; omega))))
    (refine ac_ret ?_; try dsimp only [thenA, blockA]; refine ⟨by simp, _, (by first | rfl | (simp (disch := omega) [go_sem, upd_ne] <;> rfl)), ?_⟩; refine ret_id ⟨fun k hk => (by first | rfl | (repeat rw [upd_ne _ _ _ _ (by omega)])), (by simp [go_sem, below, belowL]), (by simp [go_sem] <;> omega), by simp, by simp⟩)
end Go.AM
