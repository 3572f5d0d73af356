/- Rosters: watches alone, by the specification. Conditions: as each theorem says. -/
import Derived.Test.YtkbgmkhdjmkpdaaGreatDoorRc
namespace Go.AM
open Go.Proofs Cw Du Go.RowKit
set_option maxRecDepth 10000
set_option maxHeartbeats 4000000
theorem has_spec (d e : Int) (S : List Pr) (p : Pr) (hl : S.length ≤ 1000000) : zL Tryz.prog 67 [ZW d S, zY e p] (bv (Zh S p)) := by
  intro h n
  refine zS.pure (zS.entry (by kernel_rfl) fun hb _ => zX Tryz.func67 rfl (by kernel_rfl) (by simp [Tryz.ntmps67]) ?_)
  obtain ⟨T, hT⟩ : ∃ T, zC (T = Zh S p) := ⟨_, rfl⟩
  rw [← hT.out]
  obtain ⟨nl, s, e2, hnl⟩ := JU d S
  rw [e2]
  obtain ⟨p1, p2⟩ := p
  rw [show zY e (p1, p2) = .agg [iv .i64 e, sv p1, sv p2] from rfl]
  replace hnl : zC _ := hnl
  clear e2
  repeat' (first | (refine zF fun K hK => ?_) | (refine zB fun K hK => ?_; simp (disch := omega) [go_sem, *, Tryz.ntmps67]) | (apply zC.out hK; clear hK K; try with_reducible dsimp only [zD]) | (refine zJ ?_))
  refine za (fun s' => ∃ (i n' : Nat), n < n' ∧ i ≤ S.length ∧ (∀ (j : Nat) (x : Pr), j < i → S[j]? = some x → ((x.1.toList == p1.toList) && (x.2.toList == p2.toList)) = false) ∧ s' = ⟨30, [(0, .fslc nl nl s (S.map (zY d))), (3, .ptr n 0), (5, iv .i64 i)], h.upd n (some (.cells [iv .i64 e, sv p1, sv p2])), n'⟩)
    (fun s' => S.length - (zf s' 5).toNat) ?_ ?_
  · exact zb (by simp [go_sem]) (Sub.refl _) ⟨0, _, by omega, by omega, fun j x hj => by omega, rfl⟩
  · rintro s' ⟨i, n', hn', hi, hall, rfl⟩
    replace hall : zC _ := hall
    by_cases hlt : i < S.length
    · obtain ⟨⟨x1, x2⟩, hx⟩ : ∃ x, S[i] = x := ⟨_, rfl⟩
      have hne : S ≠ [] := fun e => by rw [e] at hlt; simp at hlt
      obtain ⟨rfl, rfl⟩ := hnl.out.resolve_left hne
      have hex : zY d S[i] = .agg [iv .i64 d, sv x1, sv x2] := by rw [hx]; rfl
      have hxs : S[i]? = some (x1, x2) := by rw [List.getElem?_eq_getElem hlt, hx]
      have hmem : (x1, x2) ∈ S := hx ▸ List.getElem_mem hlt
      replace hx : zC _ := hx
      clear hne
      cases hq1 : (x1.toList == p1.toList) with
      | false =>
        have hst : zC (∀ (j : Nat) (x : Pr), j < i + 1 → S[j]? = some x → ((x.1.toList == p1.toList) && (x.2.toList == p2.toList)) = false) := fun j x hj h1 => by
          rcases Nat.lt_or_ge j i with h3 | h3
          · exact hall.out j x h3 h1
          · have : j = i := by omega
            subst this
            rw [hxs] at h1; cases h1; simp [hq1]
        replace hxs : zC _ := trivial
        replace hmem : zC _ := trivial
        repeat' (first | (refine zF fun K hK => ?_) | (refine zB fun K hK => ?_; simp (disch := omega) [go_sem, *, zQ]) | (apply zC.out hK; clear hK K; try with_reducible dsimp only [zD]) | (apply zC.out ht; clear ht hf Kt Kf) | (refine zJ ?_) | (refine zK ?_; simp only [zD]) | (refine zH fun Kt Kf ht hf => ?_; simp (disch := omega) [go_sem, *]; try (refine ⟨fun hc => ?_, fun hc => ?_⟩ <;> try (exfalso; omega))))
        refine zq mixed (by kernel_rfl) fun K hK => ?_
        simp (disch := omega) [go_sem, *]
        repeat' (first | (refine zB fun K hK => ?_; simp (disch := omega) [go_sem, *, zN]) | (refine jm (by simp [go_sem]) (by simp (disch := omega) [go_sem, *, zP]; first | exact rfl | exact ⟨rfl, rfl, rfl⟩) ?_; try simp only [zm]) | (refine ZR ?_) | (apply zC.out hK; clear hK K; try with_reducible dsimp only [zD]) | (apply zC.out hf; clear ht hf Kt Kf) | (refine zK ?_; simp only [zD, zO]) | (refine zH fun Kt Kf ht hf => ?_; simp (disch := omega) [go_sem, *]; try (refine ⟨fun hc => ?_, fun hc => ?_⟩ <;> try (exfalso; omega))))
        exact zV (by simp (disch := omega) [go_sem]) (Sub.refl _) ⟨i + 1, _, by omega, by omega, hst.out, rfl⟩ (by simp [zf, go_sem]; omega)
      | true =>
        cases hq2 : (x2.toList == p2.toList) with
        | false =>
          have hst : zC (∀ (j : Nat) (x : Pr), j < i + 1 → S[j]? = some x → ((x.1.toList == p1.toList) && (x.2.toList == p2.toList)) = false) := fun j x hj h1 => by
            rcases Nat.lt_or_ge j i with h3 | h3
            · exact hall.out j x h3 h1
            · have : j = i := by omega
              subst this
              rw [hxs] at h1; cases h1; simp [hq2]
          replace hxs : zC _ := trivial
          replace hmem : zC _ := trivial
          repeat' (first | (refine zF fun K hK => ?_) | (refine zB fun K hK => ?_; simp (disch := omega) [go_sem, *, zQ]) | (apply zC.out hK; clear hK K; try with_reducible dsimp only [zD]) | (apply zC.out ht; clear ht hf Kt Kf) | (refine zJ ?_) | (refine zK ?_; simp only [zD]) | (refine zH fun Kt Kf ht hf => ?_; simp (disch := omega) [go_sem, *]; try (refine ⟨fun hc => ?_, fun hc => ?_⟩ <;> try (exfalso; omega))))
          refine zq mixed (by kernel_rfl) fun K hK => ?_
          simp (disch := omega) [go_sem, *]
          repeat' (first | (refine zB fun K hK => ?_; simp (disch := omega) [go_sem, *, zN]) | (refine jm (by simp [go_sem]) (by simp (disch := omega) [go_sem, *, zP]; first | exact rfl | exact ⟨rfl, rfl, rfl⟩) ?_; try simp only [zm]) | (refine ZR ?_) | (apply zC.out hK; clear hK K; try with_reducible dsimp only [zD]) | (apply zC.out hf; clear ht hf Kt Kf) | (refine zK ?_; simp only [zD, zO]) | (refine zH fun Kt Kf ht hf => ?_; simp (disch := omega) [go_sem, *]; try (refine ⟨fun hc => ?_, fun hc => ?_⟩ <;> try (exfalso; omega))))
          exact zV (by simp (disch := omega) [go_sem]) (Sub.refl _) ⟨i + 1, _, by omega, by omega, hst.out, rfl⟩ (by simp [zf, go_sem]; omega)
        | true =>
          have hTt : T = true := by
            rw [hT.out, Zi, show p1 = x1 from ((ZM x1 p1).1 hq1).symm, show p2 = x2 from ((ZM x2 p2).1 hq2).symm]
            exact hmem
          subst hTt
          replace hxs : zC _ := trivial
          replace hmem : zC _ := trivial
          repeat' (first | (refine zF fun K hK => ?_) | (refine zB fun K hK => ?_; simp (disch := omega) [go_sem, *, zQ]) | (apply zC.out hK; clear hK K; try with_reducible dsimp only [zD]) | (apply zC.out ht; clear ht hf Kt Kf) | (refine zJ ?_) | (refine zK ?_; simp only [zD]) | (refine zH fun Kt Kf ht hf => ?_; simp (disch := omega) [go_sem, *]; try (refine ⟨fun hc => ?_, fun hc => ?_⟩ <;> try (exfalso; omega))))
          refine zq mixed (by kernel_rfl) fun K hK => ?_
          simp (disch := omega) [go_sem, *]
          repeat' (first | (refine zF fun K hK => ?_) | (refine zB fun K hK => ?_; simp (disch := omega) [go_sem, *]) | (refine jm (by simp [go_sem]) (by simp (disch := omega) [go_sem, *, zP]; first | exact rfl | exact ⟨rfl, rfl, rfl⟩) ?_; try simp only [zm]) | (refine ZR ?_) | (apply zC.out hK; clear hK K; try with_reducible dsimp only [zD]) | (apply zC.out ht; clear ht hf Kt Kf) | (refine zH fun Kt Kf ht hf => ?_; simp (disch := omega) [go_sem, *]; try (refine ⟨fun hc => ?_, fun hc => ?_⟩ <;> try (exfalso; omega))))
          exact zR
    · have hTf : T = false := by
        rw [hT.out]
        cases em : Zh S (p1, p2) with
        | false => rfl
        | true =>
          obtain ⟨j, hj, e3⟩ := List.getElem_of_mem ((Zi _ _).1 em)
          have := hall.out j (p1, p2) (by omega) (by rw [List.getElem?_eq_getElem hj, e3])
          simp at this
      subst hTf
      repeat' (first | (refine zF fun K hK => ?_) | (refine zB fun K hK => ?_; simp (disch := omega) [go_sem, *, zW]) | (apply zC.out hK; clear hK K; try with_reducible dsimp only [zD]) | (apply zC.out hf; clear ht hf Kt Kf) | (clear hK K; apply zC.out hK; clear hK K; try with_reducible dsimp only [zD]) | (refine zU ?_; simp only [zD, zO, if_true]) | (refine zH fun Kt Kf ht hf => ?_; simp (disch := omega) [go_sem, *]; try (refine ⟨fun hc => ?_, fun hc => ?_⟩ <;> try (exfalso; omega))))
      exact zR
def JR (S : Int → List Pr) (lo : Int) (k : Nat) : Nat → List AV
  | 0 => []
  | K + 1 => JR S lo k K ++ [if K < k then ZW (lo + K) (S (lo + K)) else .fslc true true 0 [], iv .i64 0]
theorem ji (S : Int → List Pr) (lo : Int) (k : Nat) : ∀ K, (JR S lo k K).length = K * 2
  | 0 => rfl
  | K + 1 => by rw [JR, List.length_append, ji S lo k K]; simp; omega
theorem allC_at (S : Int → List Pr) (lo : Int) (k j : Nat) (hj : j < k) : ∀ K, j < K → (JR S lo k K)[j * 2]? = some (ZW (lo + j) (S (lo + j)))
  | 0, h => by omega
  | K + 1, h => by
    rw [JR]
    by_cases e : j = K
    · subst e
      rw [List.getElem?_append_right (by rw [ji]; omega), ji, Nat.sub_self, if_pos hj]; rfl
    · rw [List.getElem?_append_left (by rw [ji]; omega)]
      exact allC_at S lo k j hj K (by omega)
theorem allC_zero (S : Int → List Pr) (lo : Int) : ∀ K, JR S lo 0 K = (List.replicate K [AV.fslc true true 0 [], iv .i64 0]).flatten
  | 0 => rfl
  | K + 1 => by rw [JR, allC_zero S lo K, if_neg (by omega), List.replicate_succ', List.flatten_append]; simp
theorem allC_set (S : Int → List Pr) (lo : Int) (k : Nat) : ∀ K, k < K → List.take (k * 2) (JR S lo k K) ++ ZW (lo + k) (S (lo + k)) :: List.drop (k * 2 + 1) (JR S lo k K) = JR S lo (k + 1) K
  | 0, h => by omega
  | K + 1, h => by
    rw [JR, JR]
    by_cases e : k = K
    · subst e
      have hl := ji S lo k k
      have e2 : ∀ K', K' ≤ k → JR S lo k K' = JR S lo (k + 1) K' := by
        intro K' hK
        induction K' with
        | zero => rfl
        | succ m ih => rw [JR, JR, ih (by omega), if_pos (by omega), if_pos (by omega)]
      rw [← e2 k (Nat.le_refl _), List.take_append, List.take_of_length_le (by omega), hl, Nat.sub_self, List.drop_append, List.drop_eq_nil_of_le (by omega), hl, show k * 2 + 1 - k * 2 = 1 by omega, if_pos (show k < k + 1 by omega)]
      simp
    · have hl := ji S lo k K
      rw [List.take_append_of_le_length (by omega), List.drop_append_of_le_length (by omega)]
      have ih := allC_set S lo k K (by omega)
      rw [← ih]
      have : (K < k) ↔ (K < k + 1) := by omega
      simp only [this, List.append_assoc, List.cons_append]
end Go.AM
namespace Go.AM
open Go.Proofs Cw Du Go.RowKit
set_option maxRecDepth 10000
set_option maxHeartbeats 4000000
theorem ret_lnM {fl : Nat} {K : AV → zI → Nat → Prop} {m : Nat} {V : List Lin} {e : Int} {h : zI} {n : Nat} (hm : h m = some (.cells (flat (V.map zT)))) (h0 : V ≠ []) (hk : ZI fl K (.agg [lnF V, .fslc true true 0 [], iv .i64 e]) (h.upd m none) n) : ZI fl K (.agg [.slc m 0 V.length 8, .fslc true true 0 [], iv .i64 e]) h n := by
  refine ret_fzD true hm ?_
  have hfl := QX V
  have ef : fzD m (flat (V.map zT)) true (.agg [.slc m 0 V.length 8, .fslc true true 0 [], iv .i64 e]) = .agg [.fslc false false 8 (V.map zT), .fslc true true 0 [], iv .i64 e] := by
    simp only [fzD, J7, Nat.zero_add, List.drop_zero]
    rw [if_pos ⟨trivial, by omega, by simp⟩, elemsLn]
  rw [ef]
  simpa [lnF, h0] using hk
theorem dyOf_next (S : Int → List Pr) (lo d : Int) (p : Pr) (h : lo ≤ d) : Zf S lo (d + 1 - lo).toNat p = Zf S lo (d - lo).toNat p ++ if Zh (S d) p then [d] else [] := by
  unfold Zf
  rw [dys_to lo d h, List.filter_append]
  congr 1
  cases hp : Zh (S d) p <;> simp [hp]
theorem dyOf_short (S : Int → List Pr) (lo : Int) (k : Nat) (p : Pr) : (Zf S lo k p).length ≤ k := by
  unfold Zf
  have := List.length_filter_le (fun d => Zh (S d) p) (dys lo k)
  rw [JV] at this; exact this
theorem rPlain_spec (nlL fuL : Bool) (sL : Nat) (ls : List Lin) (hnlL : ls = [] ∨ nlL = false ∧ sL = 8) (hsL : smL ls) (hlL : ls.length ≤ 1000000) (nl fu : Bool) (s : Nat) (l : List Ordr) (hnl : l = [] ∨ nl = false ∧ s = 7) (hw : wfO l) (hs : smO l) (hl : l.length ≤ 1000000) (lo hi : Int) :
    zL Tryz.prog 23 [.agg [.fslc nlL fuL sL (ls.map zT), .fslc nl fu s (l.map ZB)], .agg [iv .i64 lo, iv .i64 hi]] (.agg [lnF (J2 ls l lo hi).1, .fslc true true 0 [], iv .i64 (J2 ls l lo hi).2]) := by
  intro h n
  have k1 := spanned_spec nlL fuL sL ls hnlL hsL hlL nl fu s l hnl hw hs hl lo hi
  refine zS.pure (zS.entry (by kernel_rfl) fun hb _ => zX Tryz.func23 rfl (by kernel_rfl) (by simp [Tryz.ntmps23]) ?_)
  by_cases hc : jN ls l lo hi = 0
  · rw [hc] at k1
    obtain ⟨hc0, hlo, hlh, hhi⟩ := QY hc
    have hz := JE hc0 hsL
    have kd := fun d h0 h4 => day_spec nlL fuL sL ls hnlL (by omega) hz.1 nl fu s (l.map ZB) d h0 h4
    have ke := fun d => dayR_eq ls (fun x hx => (hz.1 x hx).2.2) d
    have ho : J2 ls l lo hi = if 60 < (plnS (duR ls) lo (hi + 1 - lo).toNat).length then ([], 2) else (plnS (duR ls) lo (hi + 1 - lo).toNat, 0) := by unfold J2; rw [if_neg (by simpa using hc)]
    have hS := fun d => jD (dayD_nodup ls (fun x hx => (hz.1 x hx).2.2) d)
    change ∀ d, Ze (duR ls d) at hS
    have hll := fun d => jz ls d
    replace ho : zC _ := ho
    replace hz : zC _ := hz
    replace hS : zC _ := hS
    replace kd : zC _ := kd
    replace ke : zC _ := ke
    replace hll : zC _ := hll
    generalize hLL : List.map zT ls = LL at *
    generalize List.map ZB l = OO at *
    replace hLL : zC _ := hLL
    clear hc hc0 hsL hs hw hnl hnlL
    repeat' (first | (refine zF fun K hK => ?_) | (refine zB fun K hK => ?_; simp (disch := omega) [go_sem, *, zN, zG, Zp, Tryz.ntmps23 ]) | (apply zC.out hK; clear hK K; try with_reducible dsimp only [zD]) | (apply zC.out hf; clear ht hf Kt Kf) | (with_reducible refine zL.gcall (k1) ?_; try simp (disch := omega) [go_sem, * ]) | (refine zJ ?_) | (refine zK ?_; simp only [zD]) | (refine zH fun Kt Kf ht hf => ?_; simp (disch := omega) [go_sem, * ]; try (refine ⟨fun hc => ?_, fun hc => ?_⟩ <;> try (exfalso; omega))))
    obtain ⟨A, hA⟩ : ∃ A, A = n + 3 + 4 + 2 + 1 + 6 := ⟨_, rfl⟩
    obtain ⟨Kn, hKn⟩ : ∃ Kn, Kn = (hi - lo + 1).toNat := ⟨_, rfl⟩
    obtain ⟨H3, hH3⟩ : ∃ H3, H3 = (((h.upd n (some (.cells [.fslc nlL fuL sL LL, .fslc nl fu s OO]))).upd (n + 1) (some (.cells [iv .i64 lo, iv .i64 hi]))).upd (n + 2) (some (.cells [.fslc true true 0 [], .fslc true true 0 [], iv .i64 0]))).upd A (some (.cells (List.replicate Kn [AV.fslc true true 0 [], iv .i64 0]).flatten)) := ⟨_, rfl⟩
    rw [← hA, ← hKn, ← hH3]
    have hA1 : n + 16 ≤ A := by omega
    have hA2 : A ≤ n + 16 := by omega
    have hK1 : (Kn : Int) = hi + 1 - lo := by omega
    have hK2 : (hi + 1 - lo).toNat = Kn := by omega
    have hb0 : H3 n = some (.cells [.fslc nlL fuL sL LL, .fslc nl fu s OO]) := by rw [hH3]; simp (disch := omega) only [zG, zM]
    have hb1 : H3 (n + 1) = some (.cells [iv .i64 lo, iv .i64 hi]) := by rw [hH3]; simp (disch := omega) only [zG, zM]
    have hb2 : H3 (n + 2) = some (.cells [.fslc true true 0 [], .fslc true true 0 [], iv .i64 0]) := by rw [hH3]; simp (disch := omega) only [zG, zM]
    have hbA : H3 A = some (.cells (JR (duR ls) lo 0 Kn)) := by rw [hH3, zM, allC_zero]
    have hfr : zC (∀ x, x < n → H3 x = h x) := fun x hx => by rw [hH3]; simp (disch := omega) only [zG]
    have hl60 := hz.out.2.1
    have hal := fun k => alP_len (duR ls) 60 (fun d => Nat.le_trans (jz ls d) hl60) lo k
    replace hH3 : zC _ := trivial
    replace hal : zC _ := hal
    replace hK1 : zC _ := hK1
    replace hK2 : zC _ := hK2
    replace hKn : zC _ := hKn
    clear hA k1
    refine za (fun s' => ∃ (d : Int) (n' : Nat) (P : List Pr) (H : zI), A + 2 ≤ n' ∧ lo ≤ d ∧ d ≤ hi + 1 ∧ P = alP (duR ls) lo (d - lo).toNat ∧ H A = some (.cells (JR (duR ls) lo (d - lo).toNat Kn)) ∧ (∀ x, x < n + 3 → H x = H3 x) ∧
        s' = ⟨129, [(2, .ptr n 0), (3, .ptr (n + 1) 0), (4, .ptr (n + 2) 0), (6, ZW 0 P), (7, .slc A 0 Kn 2), (8, iv .i64 d)], H, n'⟩)
      (fun s' => (hi + 1 - zf s' 8).toNat) ?_ ?_
    · exact zb (by simp [go_sem, ZW]) (Sub.refl _) ⟨lo, _, [], H3, by (try simp only); omega, by omega, by omega, by rw [Int.sub_self]; rfl, by rw [Int.sub_self]; exact hbA, fun _ _ => rfl, rfl⟩
    · rintro s' ⟨d, n', P, H, r1, r2, r3, r4, r5, r6, rfl⟩
      have f0 := (r6 n (by omega)).trans hb0
      have f1 := (r6 (n + 1) (by omega)).trans hb1
      have hPl : P.length ≤ 401 * 60 := by
        rw [r4]; have := hal.out (d - lo).toNat
        have : (d - lo).toNat * 60 ≤ 401 * 60 := Nat.mul_le_mul (by omega) (Nat.le_refl _)
        omega
      replace r6 : zC _ := r6
      by_cases hdh : d ≤ hi
      · have k2 := kd.out d (by omega) (by omega)
        rw [ke.out d] at k2
        change zL _ _ _ (ZW d (duR ls d)) at k2
        have hSl := hll.out d
        have hset := allC_set (duR ls) lo (d - lo).toNat Kn (by have := hKn.out; omega)
        have hat := allC_at (duR ls) lo ((d - lo).toNat + 1) (d - lo).toNat (by omega) Kn (by have := hKn.out; omega)
        rw [show lo + ((d - lo).toNat : Int) = d by omega] at hset hat
        rw [show (d - lo).toNat + 1 = (d + 1 - lo).toNat by omega] at hset hat
        have hPn : alP (duR ls) lo (d + 1 - lo).toNat = (duR ls d).foldl Z3 P := by
          rw [r4]; unfold alP; rw [dys_to lo d r2, List.foldl_append]; rfl
        have hcl := ji (duR ls) lo (d - lo).toNat Kn
        have hcl2 := ji (duR ls) lo (d + 1 - lo).toNat Kn
        generalize duR ls d = S at *
        obtain ⟨nl2, s2, e2, e3⟩ := JU d S
        rw [e2] at k2 hset hat
        have hdl : 0 ≤ d - lo := by omega
        have hdk : d - lo < Kn := by have := hKn.out; omega
        generalize hC1 : JR (duR ls) lo (d - lo).toNat Kn = C1 at *
        generalize hC2 : JR (duR ls) lo (d + 1 - lo).toNat Kn = C2 at *
        have hat2 : ∀ h, C2[(d - lo).toNat * 2]'h = .fslc nl2 nl2 s2 (S.map (zY d)) := fun h => Option.some.inj ((List.getElem?_eq_getElem h).symm.trans hat)
        replace hat : zC _ := trivial
        replace e3 : zC _ := e3
        replace e2 : zC _ := trivial
        replace hset : zC _ := hset
        replace hPn : zC _ := hPn
        replace hC1 : zC _ := trivial
        replace hC2 : zC _ := hC2
        replace r4 : zC _ := trivial
        repeat' (first | (refine zF fun K hK => ?_) | (refine zB fun K hK => ?_; simp (disch := omega) [go_sem, *]) | (apply zC.out hK; clear hK K; try with_reducible dsimp only [zD]) | (apply zC.out ht; clear ht hf Kt Kf) | (refine zJ ?_) | (refine zK ?_; simp only [zD]) | (refine zH fun Kt Kf ht hf => ?_; simp (disch := omega) [go_sem, *]; try (refine ⟨fun hc => ?_, fun hc => ?_⟩ <;> try (exfalso; omega))))
        refine Qx [10] (fun h' => h' n = some (.cells [.fslc nlL fuL sL LL, .fslc nl fu s OO]) ∧ h' (n + 1) = some (.cells [iv .i64 lo, iv .i64 hi])) mixed (by kernel_rfl) (by simp (disch := omega) [go_sem, f0, f1]) fun K hK => ?_
        simp (disch := omega) [go_sem, *]
        repeat' (first | (refine aC_c (by simp [go_sem]) (by decide) (fun h' hh => by (try dsimp only at hh); (try simp (disch := omega) [go_sem, *, zN]); first | exact rfl | exact ⟨rfl, rfl, rfl⟩ | exact (k2).gcall ⟨rfl, rfl, rfl⟩) ?_; try simp only [zm]) | (refine aC_x (by simp [go_sem]) (by decide) (by (try simp (disch := omega) [go_sem, *, ZT]); first | exact rfl | exact ⟨rfl, rfl⟩ | exact ⟨rfl, rfl, rfl⟩ | exact (k2).gcall ⟨rfl, rfl, rfl⟩) (by first | exact .inl rfl | (right; simp (disch := omega) [go_sem, zG, f0, f1])) ?_; try simp only [JA]) | (refine aC_end ?_; apply zC.out hK; clear hK K; try with_reducible dsimp only [zD]))
        repeat' (first | (refine zF fun K hK => ?_) | (refine zB fun K hK => ?_; simp (disch := omega) [go_sem, *]) | (apply zC.out hK; clear hK K; try with_reducible dsimp only [zD]) | (refine zJ ?_))
        rw [hset.out]
        replace hset : zC _ := trivial
        obtain ⟨H5, hH5⟩ : ∃ H5, H5 = H.upd A (some (.cells C2)) := ⟨_, rfl⟩
        have g5 : H5 A = some (.cells C2) := by rw [hH5]; exact zM _ _ _
        have g0 : H5 n = some (.cells [.fslc nlL fuL sL LL, .fslc nl fu s OO]) := by rw [hH5, zG _ _ _ _ (by omega)]; exact f0
        have g1 : H5 (n + 1) = some (.cells [iv .i64 lo, iv .i64 hi]) := by rw [hH5, zG _ _ _ _ (by omega)]; exact f1
        have g6 : ∀ x, x < n + 3 → H5 x = H3 x := fun x hx => by rw [hH5, zG _ _ _ _ (by omega)]; exact r6.out x hx
        rw [← hH5]
        replace hH5 : zC _ := trivial
        replace g6 : zC _ := g6
        clear f0 f1 r5
        refine za (fun s' => ∃ (i n4 : Nat) (P2 : List Pr) (H6 : zI), n' ≤ n4 ∧ i ≤ S.length ∧ P2 = (S.take i).foldl Z3 P ∧ P2.length ≤ P.length + i ∧ (∀ x, x ≤ A → H6 x = H5 x) ∧
            s' = ⟨129, [(2, .ptr n 0), (3, .ptr (n + 1) 0), (4, .ptr (n + 2) 0), (6, ZW 0 P2), (7, .slc A 0 Kn 2), (8, iv .i64 d), (9, iv .i64 i)], H6, n4⟩)
          (fun s' => S.length - (zf s' 9).toNat) ?_ ?_
        · exact zb (by simp [go_sem]) (Sub.refl _) ⟨0, _, P, H5, by omega, by omega, rfl, by omega, fun _ _ => rfl, rfl⟩
        · rintro s' ⟨i, n4, P2, H6, p1, p2, p3, p4, p5, rfl⟩
          have z5 := (p5 A (by omega)).trans g5
          have z1 := (p5 (n + 1) (by omega)).trans g1
          replace p5 : zC _ := p5
          by_cases hlt : i < S.length
          · obtain ⟨⟨p1', p2'⟩, hp⟩ : ∃ p, S[i] = p := ⟨_, rfl⟩
            have hne : S ≠ [] := fun e => by rw [e] at hlt; simp at hlt
            obtain ⟨rfl, rfl⟩ := e3.out.resolve_left hne
            have hex : zY d S[i] = .agg [iv .i64 d, sv p1', sv p2'] := by rw [hp]; rfl
            have htk : (S.take (i + 1)).foldl Z3 P = Z3 P2 (p1', p2') := by rw [List.take_succ_eq_append_getElem hlt, hp, List.foldl_append, ← p3]; rfl
            have k3 := put_spec 0 P2 (p1', p2') (by omega)
            rw [show zY 0 (p1', p2') = .agg [iv .i64 0, sv p1', sv p2'] from rfl] at k3
            have hil := insP_len (p1', p2') P2
            replace htk : zC _ := htk
            replace hp : zC _ := hp
            replace p3 : zC _ := trivial
            clear hne
            generalize Z3 P2 (p1', p2') = P3 at *
            repeat' (first | (refine zF fun K hK => ?_) | (refine zB fun K hK => ?_; simp (disch := omega) [go_sem, *, zN, zQ, zP]) | (apply zC.out hK; clear hK K; try with_reducible dsimp only [zD]) | (apply zC.out ht; clear ht hf Kt Kf) | (with_reducible refine zL.gcall (k3) ?_; try simp (disch := omega) [go_sem, *]) | (refine zJ ?_) | (refine zK ?_; simp only [zD]) | (refine zH fun Kt Kf ht hf => ?_; simp (disch := omega) [go_sem, *]; try (refine ⟨fun hc => ?_, fun hc => ?_⟩ <;> try (exfalso; omega))))
            exact zV (by simp (disch := omega) [go_sem]) (Sub.refl _) ⟨i + 1, _, P3, _, by omega, by omega, htk.out.symm, by omega, fun x hx => by rw [zG _ _ _ _ (by omega), zG _ _ _ _ (by omega)]; exact p5.out x hx, rfl⟩ (by simp [zf, go_sem]; omega)
          · have hii : i = S.length := by omega
            subst hii
            rw [List.take_length, ← hPn.out] at p3
            replace p3 : zC _ := p3
            repeat' (first | (refine zF fun K hK => ?_) | (refine zB fun K hK => ?_; simp (disch := omega) [go_sem, *, zN]) | (apply zC.out hK; clear hK K; try with_reducible dsimp only [zD]) | (apply zC.out hf; clear ht hf Kt Kf) | (clear hK K; apply zC.out hK; clear hK K; try with_reducible dsimp only [zD]) | (refine zU ?_; simp only [zD, zO, if_true, if_false, Nat.reduceEqDiff]) | (refine zH fun Kt Kf ht hf => ?_; simp (disch := omega) [go_sem, *]; try (refine ⟨fun hc => ?_, fun hc => ?_⟩ <;> try (exfalso; omega))))
            exact zV (by simp (disch := omega) [go_sem]) (Sub.refl _) ⟨d + 1, _, P2, H6, by omega, by omega, by omega, p3.out, by rw [hC2.out]; exact z5, fun x hx => (p5.out x (by omega)).trans (g6.out x hx), rfl⟩ (by simp [zf, go_sem]; omega)
      · have hdd : d = hi + 1 := by omega
        subst hdd
        rw [hK2.out] at r4 r5
        have ho3 := ho.out
        rw [hK2.out, show plnS (duR ls) lo Kn = plnA (duR ls) lo Kn (alP (duR ls) lo Kn) from rfl, ← r4] at ho3
        have hpl := fun i => plnA_len (duR ls) 60 (fun d => Nat.le_trans (jz ls d) hl60) lo Kn i
        have hpn := fun i p => plnA_next (duR ls) lo Kn (alP (duR ls) lo Kn) i p
        have hdb := fun p d => qc (duR ls) lo Kn p d
        have hda := fun p => dyOf_asc (duR ls) lo Kn p
        have hdn := fun p => dyOf_ne (duR ls) lo Kn p
        rw [← r4] at hpl hpn hdn
        have hdl : ∀ p, (Zf (duR ls) lo Kn p).length ≤ 401 := fun p => by
          unfold Zf
          have := List.length_filter_le (fun d => Zh (duR ls d) p) (dys lo Kn)
          rw [JV] at this; have := hK2.out; omega
        have hkb : Kn * 60 ≤ 401 * 60 := Nat.mul_le_mul (by have := hK2.out; omega) (Nat.le_refl _)
        have hat3 : ∀ j, j < Kn → (JR (duR ls) lo Kn Kn)[j * 2]? = some (ZW (lo + j) (duR ls (lo + j))) := fun j hj => allC_at (duR ls) lo Kn j hj Kn hj
        have hcl := ji (duR ls) lo Kn Kn
        generalize hC2 : JR (duR ls) lo Kn Kn = C2 at *
        obtain ⟨nlp, sp, ep, hnp⟩ := JU 0 P
        rw [ep]
        have b2 := (r6.out (n + 2) (by omega)).trans hb2
        have fr6 : ∀ x, x < n → H x = h x := fun x hx => (r6.out x (by omega)).trans (hfr.out x hx)
        replace ho3 : zC _ := ho3
        replace hpl : zC _ := hpl
        replace hpn : zC _ := hpn
        replace hdb : zC _ := hdb
        replace hda : zC _ := hda
        replace hdn : zC _ := hdn
        replace hdl : zC _ := hdl
        replace hat3 : zC _ := hat3
        replace hnp : zC _ := hnp
        replace fr6 : zC _ := fr6
        replace hC2 : zC _ := trivial
        replace r4 : zC _ := trivial
        replace r6 : zC _ := trivial
        clear ep f0
        refine ac_hbD fun hB => ?_
        have hno : ∀ x, n' ≤ x → H x = none := fun x hx => QZ hB (by simp only; omega)
        replace hno : zC _ := hno
        replace hB : zC _ := trivial
        repeat' (first | (refine zF fun K hK => ?_) | (refine zB fun K hK => ?_; simp (disch := omega) [go_sem, *]) | (apply zC.out hK; clear hK K; try with_reducible dsimp only [zD]) | (apply zC.out hf; clear ht hf Kt Kf) | (clear hK K; apply zC.out hK; clear hK K; try with_reducible dsimp only [zD]) | (refine zJ ?_) | (refine zU ?_; simp only [zD, zO, if_true]) | (refine zH fun Kt Kf ht hf => ?_; simp (disch := omega) [go_sem, *]; try (refine ⟨fun hc => ?_, fun hc => ?_⟩ <;> try (exfalso; omega))))
        refine za (fun s' => ∃ (i n5 q : Nat) (W : List Lin) (H6 : zI), n' + 8 ≤ n5 ∧ i ≤ P.length ∧ n' + 5 < q ∧ q < n5 ∧ W = plnA (duR ls) lo Kn (P.take i) ∧ H6 (n' + 5) = some (.cells [acV 8 q (W.map zT), .fslc true true 0 []]) ∧ H6 q = acO (W.map zT) ∧ H6 A = some (.cells C2) ∧ H6 (n + 1) = some (.cells [iv .i64 lo, iv .i64 hi]) ∧ H6 (n + 2) = some (.cells [.fslc true true 0 [], .fslc true true 0 [], iv .i64 0]) ∧ (∀ x, x < n → H6 x = h x) ∧
            s' = ⟨129, [(3, .ptr (n + 1) 0), (4, .ptr (n + 2) 0), (6, .fslc nlp nlp sp (P.map (zY 0))), (7, .slc A 0 Kn 2), (11, .ptr (n' + 5) 0), (12, iv .i64 i)], H6, n5⟩)
          (fun s' => P.length - (zf s' 12).toNat) ?_ ?_
        · exact zb (by simp [go_sem]) (Sub.refl _) ⟨0, _, n' + 6, [], _, by (try simp only); omega, by omega, by omega, by (try simp only); omega, rfl, zM _ _ _, by rw [zG _ _ _ _ (by omega), zG _ _ _ _ (by omega)]; exact hno.out _ (by omega), by rw [zG _ _ _ _ (by omega), zG _ _ _ _ (by omega)]; exact r5, by rw [zG _ _ _ _ (by omega), zG _ _ _ _ (by omega)]; exact f1, by rw [zG _ _ _ _ (by omega), zG _ _ _ _ (by omega)]; exact b2, fun x hx => by rw [zG _ _ _ _ (by omega), zG _ _ _ _ (by omega)]; exact fr6.out x hx, rfl⟩
        · rintro s' ⟨i, n5, q, W, H6, w1, w2, w3, w4, w5, w6, w7, w8, w9, w10, w11, rfl⟩
          replace w11 : zC _ := w11
          have hWl : W.length ≤ 401 * 60 := by rw [w5]; have := hpl.out i; omega
          by_cases hlt : i < P.length
          · obtain ⟨p, hp⟩ : ∃ p, P[i] = p := ⟨_, rfl⟩
            have hne : P ≠ [] := fun e => by rw [e] at hlt; simp at hlt
            obtain ⟨rfl, rfl⟩ := hnp.out.resolve_left hne
            have hpm : p ∈ P := hp ▸ List.getElem_mem hlt
            have hnx := hpn.out i p (by rw [List.getElem?_eq_getElem hlt, hp])
            rw [← w5] at hnx
            have hD0 := hdn.out p hpm
            have hDb := fun d (hd : d ∈ Zf (duR ls) lo Kn p) => (hdb.out p d).1 hd
            have hDl := hdl.out p
            have kruns := runs_spec 0 false p (Zf (duR ls) lo Kn p) hD0 (hda.out p) (fun d hd => by have := hDb d hd; have := hK2.out; omega) hDl
            have hLp := lnsP_len p (Zf (duR ls) lo Kn p) hD0
            have hX0 : qP p (Zf (duR ls) lo Kn p) ≠ [] := by
              obtain ⟨d, hd⟩ := List.exists_mem_of_ne_nil _ hD0
              obtain ⟨x, hx, _⟩ := (lnsP_on p _ (hda.out p) hD0 d).2 hd
              exact List.ne_nil_of_mem hx
            have hds := fun d (hd : lo ≤ d) => dyOf_next (duR ls) lo d p hd
            have hsl := fun d => dyOf_short (duR ls) lo (d - lo).toNat p
            have hDK : ∀ d, d = hi + 1 → Zf (duR ls) lo (d - lo).toNat p = Zf (duR ls) lo Kn p := fun d hd => by rw [hd, hK2.out]
            generalize Zf (duR ls) lo Kn p = D at *
            generalize hXX : qP p D = X at *
            rw [show lnF X = .fslc false false 8 (X.map zT) from if_neg hX0] at kruns
            have hex : zY 0 P[i] = .agg [iv .i64 0, sv p.1, sv p.2] := by rw [hp]; rfl
            have kh := fun S (hS : S.length ≤ 60) d => has_spec d 0 S p (by omega)
            simp only [show zY 0 p = .agg [iv .i64 0, sv p.1, sv p.2] from rfl] at kh
            replace hnx : zC _ := hnx
            replace hp : zC _ := hp
            replace w5 : zC _ := trivial
            replace hDb : zC _ := trivial
            replace hX0 : zC _ := hX0
            replace hD0 : zC _ := hD0
            replace hds : zC _ := hds
            replace hsl : zC _ := hsl
            replace hDK : zC _ := hDK
            replace kh : zC _ := kh
            clear hne hpm
            refine ac_hbD fun hB => ?_
            have hno6 : ∀ x, n5 ≤ x → H6 x = none := fun x hx => QZ hB (by simp only; omega)
            replace hno6 : zC _ := hno6
            replace hB : zC _ := trivial
            repeat' (first | (refine zF fun K hK => ?_) | (refine zB fun K hK => ?_; simp (disch := omega) [go_sem, *, zQ]) | (apply zC.out hK; clear hK K; try with_reducible dsimp only [zD]) | (apply zC.out ht; clear ht hf Kt Kf) | (refine zJ ?_) | (refine zK ?_; simp only [zD]) | (refine zH fun Kt Kf ht hf => ?_; simp (disch := omega) [go_sem, *]; try (refine ⟨fun hc => ?_, fun hc => ?_⟩ <;> try (exfalso; omega))))
            refine za (fun s' => ∃ (d : Int) (n6 qr : Nat) (V : List Int) (H7 : zI), n5 + 2 ≤ n6 ∧ lo ≤ d ∧ d ≤ hi + 1 ∧ n5 ≤ qr ∧ qr < n6 ∧ V = Zf (duR ls) lo (d - lo).toNat p ∧ H7 qr = acO (V.map (iv .i64)) ∧ (∀ x, x < n5 → H7 x = H6 x) ∧
                s' = ⟨129, [(3, .ptr (n + 1) 0), (4, .ptr (n + 2) 0), (6, .fslc false false 3 (P.map (zY 0))), (7, .slc A 0 Kn 2), (11, .ptr (n' + 5) 0), (12, iv .i64 i), (13, acV 1 qr (V.map (iv .i64))), (14, iv .i64 d)], H7, n6⟩)
              (fun s' => (hi + 1 - zf s' 14).toNat) ?_ ?_
            · exact zb (by simp [go_sem, jx]) (Sub.refl _) ⟨lo, _, n5, [], H6, by (try simp only); omega, by omega, by omega, by omega, by (try simp only); omega, by rw [Int.sub_self]; rfl, hno6.out _ (by omega), fun _ _ => rfl, rfl⟩
            · rintro s' ⟨d, n6, qr, V, H7, u1, u2, u3, u4, u5, u6, u7, u8, rfl⟩
              have z1 := (u8 (n + 1) (by omega)).trans w9
              have zA := (u8 A (by omega)).trans w8
              have hVl : V.length ≤ 402 := by rw [u6]; have := hsl.out d; omega
              replace u8 : zC _ := u8
              replace u7 : zC _ := u7
              by_cases hdh : d ≤ hi
              · have hj : (d - lo).toNat < Kn := by have := hK2.out; omega
                have ha := hat3.out (d - lo).toNat hj
                rw [show lo + ((d - lo).toNat : Int) = d by omega] at ha
                have kk := kh.out (duR ls d) (Nat.le_trans (hll.out d) hl60) d
                have hnd := hds.out d u2
                rw [← u6] at hnd
                obtain ⟨b, hb⟩ : ∃ b, Zh (duR ls d) p = b := ⟨_, rfl⟩
                rw [hb] at kk hnd
                generalize ZW d (duR ls d) = dv at *
                have ha2 : ∀ h, C2[(d - lo).toNat * 2]'h = dv := fun h => Option.some.inj ((List.getElem?_eq_getElem h).symm.trans ha)
                have hdl : 0 ≤ d - lo := by omega
                have hdk : d - lo < Kn := by omega
                replace ha : zC _ := trivial
                replace hb : zC _ := trivial
                replace hnd : zC _ := hnd
                replace u6 : zC _ := trivial
                repeat' (first | (refine zF fun K hK => ?_) | (refine zB fun K hK => ?_; simp (disch := omega) [go_sem, *]) | (apply zC.out hK; clear hK K; try with_reducible dsimp only [zD]) | (apply zC.out ht; clear ht hf Kt Kf) | (refine zJ ?_) | (refine zK ?_; simp only [zD]) | (refine zH fun Kt Kf ht hf => ?_; simp (disch := omega) [go_sem, *]; try (refine ⟨fun hc => ?_, fun hc => ?_⟩ <;> try (exfalso; omega))))
                refine zq mixed (by kernel_rfl) fun K hK => ?_
                simp (disch := omega) [go_sem, *]
                repeat' (first | (refine zF fun K hK => ?_) | (refine zB fun K hK => ?_; simp (disch := omega) [go_sem, *, zN]) | (refine jm (by simp [go_sem]) (by simp (disch := omega) [go_sem, *, zN, zP]; first | exact rfl | exact ⟨rfl, rfl, rfl⟩ | exact (kk).gcall ⟨rfl, rfl, rfl⟩) ?_; try simp only [zm]) | (refine ZR ?_) | (apply zC.out hK; clear hK K; try with_reducible dsimp only [zD]) | (apply zC.out ht; clear ht hf Kt Kf) | (apply zC.out hf; clear ht hf Kt Kf) | (refine zK ?_; simp only [zD, zO]) | (refine zH fun Kt Kf ht hf => ?_; simp (disch := omega) [go_sem, *]; try (refine ⟨fun hc => ?_, fun hc => ?_⟩ <;> try (exfalso; omega))))
                · rw [if_pos hc] at hnd
                  have hap := ap_int (nm := n6 + 4 + 14 + 1 + 3) (m := qr) (V := V) (x := d) (h := H7) (b := false) (c := false) u7.out (by omega)
                  rw [hap]
                  clear hap
                  have y7 := zM (H7.upd qr none) (n6 + 4 + 14 + 1 + 3) (acO ((V ++ [d]).map (iv .i64)))
                  have y8 : ∀ x, x < n5 → ((H7.upd qr none).upd (n6 + 4 + 14 + 1 + 3) (acO ((V ++ [d]).map (iv .i64)))) x = H6 x := fun x hx => by rw [zG _ _ _ _ (by omega), zG _ _ _ _ (by omega)]; exact u8.out x hx
                  generalize (H7.upd qr none).upd (n6 + 4 + 14 + 1 + 3) (acO ((V ++ [d]).map (iv .i64))) = H8 at *
                  replace y7 : zC _ := y7
                  replace y8 : zC _ := y8
                  generalize hEQ : V ++ [d] = VV at *
                  simp (disch := omega) [go_sem]
                  repeat' (first | (refine zB fun K hK => ?_; simp (disch := omega) [go_sem, *, zN]) | (apply zC.out hK; clear hK K; try with_reducible dsimp only [zD]))
                  exact zV (by simp (disch := omega) [go_sem]) (Sub.refl _) ⟨d + 1, _, n6 + 4 + 14 + 1 + 3, VV, H8, by omega, by omega, by omega, by omega, by omega, hnd.out.symm, y7.out, y8.out, rfl⟩ (by simp [zf, go_sem]; omega)
                · rw [if_neg (by simp [hc]), List.append_nil] at hnd
                  exact zV (by simp (disch := omega) [go_sem]) (Sub.refl _) ⟨d + 1, _, qr, V, H7, by omega, by omega, by omega, by omega, by omega, hnd.out.symm, u7.out, u8.out, rfl⟩ (by simp [zf, go_sem]; omega)
              · have hde : d = hi + 1 := by omega
                rw [hDK.out d hde] at u6
                subst u6
                subst hde
                repeat' (first | (refine zF fun K hK => ?_) | (refine zB fun K hK => ?_; simp (disch := omega) [go_sem, *]) | (apply zC.out hK; clear hK K; try with_reducible dsimp only [zD]) | (apply zC.out hf; clear ht hf Kt Kf) | (clear hK K; apply zC.out hK; clear hK K; try with_reducible dsimp only [zD]) | (refine zU ?_; simp only [zD, zO, if_true, if_false, Nat.reduceEqDiff]) | (refine zH fun Kt Kf ht hf => ?_; simp (disch := omega) [go_sem, *]; try (refine ⟨fun hc => ?_, fun hc => ?_⟩ <;> try (exfalso; omega))))
                refine ac_fzac (t := 13) (m := qr) (s := 1) (L := V.map (iv .i64)) false (fun _ => rfl) u7.out (by simp [go_sem]) (fun x hx => by obtain ⟨o, _, rfl⟩ := List.mem_map.1 hx; rfl) (by rw [List.length_map, flat_iv]; exact elemsI0 V) ?_
                dsimp only
                have hemp : (V.map (iv .i64)).isEmpty = false := by
                  cases V with
                  | nil => exact absurd rfl hD0.out
                  | cons a r => rfl
                rw [hemp]
                replace hemp : zC _ := trivial
                generalize hH8 : zI.upd H7 qr none = H8
                have x6 : H8 (n' + 5) = some (.cells [acV 8 q (W.map zT), .fslc true true 0 []]) := by rw [← hH8, zG _ _ _ _ (by omega), u8.out _ (by omega)]; exact w6
                have x7 : H8 q = H6 q := by rw [← hH8, zG _ _ _ _ (by omega), u8.out _ (by omega)]
                have x8 : H8 A = some (.cells C2) := by rw [← hH8, zG _ _ _ _ (by omega)]; exact zA
                have x1 : H8 (n + 1) = some (.cells [iv .i64 lo, iv .i64 hi]) := by rw [← hH8, zG _ _ _ _ (by omega)]; exact z1
                have x9 : H8 (n + 2) = some (.cells [.fslc true true 0 [], .fslc true true 0 [], iv .i64 0]) := by rw [← hH8, zG _ _ _ _ (by omega), u8.out _ (by omega)]; exact w10
                have x10 : ∀ x, x < n → H8 x = h x := fun x hx => by rw [← hH8, zG _ _ _ _ (by omega), u8.out _ (by omega)]; exact w11.out x hx
                have hap := fun nm => ap_ln (nm := nm) (m := q) (V := W) (X := X) (h := H8) (b := false) (c := false) (by rw [x7]; exact w7) hX0.out (by omega)
                replace hap : zC _ := hap
                replace x7 : zC _ := x7
                replace x9 : zC _ := x9
                replace x10 : zC _ := x10
                replace x8 : zC _ := x8
                replace x1 : zC _ := x1
                replace w6 : zC _ := trivial
                replace w8 : zC _ := trivial
                replace w9 : zC _ := trivial
                replace w10 : zC _ := trivial
                replace u7 : zC _ := trivial
                replace u8 : zC _ := trivial
                replace hH8 : zC _ := trivial
                clear z1 zA
                refine Qx [8, 10] (fun h' => h' (n' + 5) = some (.cells [acV 8 q (W.map zT), .fslc true true 0 []])) mixed (by kernel_rfl) x6 fun K hK => ?_
                refine aC_c (by simp [go_sem]) (by decide) (fun h' hh => by simp [go_sem]; first | exact rfl | exact ⟨rfl, rfl⟩ | exact ⟨rfl, rfl, rfl⟩) ?_
                simp only [zm]
                refine aC_c (by simp [go_sem]) (by decide) (fun h' hh => by simp [go_sem, hh]; first | exact rfl | exact ⟨rfl, rfl⟩ | exact ⟨rfl, rfl, rfl⟩) ?_
                simp only [zm]
                iterate 2 (refine aC_c (by simp [go_sem]) (by decide) (fun h' hh => by simp [go_sem]; first | exact rfl | exact ⟨rfl, rfl⟩ | exact ⟨rfl, rfl, rfl⟩) ?_; simp only [zm])
                iterate 2 (refine aC_c (by simp [go_sem]) (by decide) (fun h' hh => by simp (disch := omega) [go_sem, hex]; first | exact rfl | exact ⟨rfl, rfl⟩ | exact ⟨rfl, rfl, rfl⟩) ?_; simp only [zm])
                refine aC_c (by simp [go_sem]) (by decide) (fun h' hh => by simp [go_sem]; first | exact rfl | exact ⟨rfl, rfl⟩ | exact ⟨rfl, rfl, rfl⟩) ?_
                simp only [zm]
                have hXn : (W ++ X).map zT ≠ [] := by rw [List.map_append]; intro e; exact hX0.out (by simpa using (List.append_eq_nil_iff.1 e).2)
                have hac : acV 8 (n6 + 4 + 8) ((W ++ X).map zT) = .slc (n6 + 4 + 8) 0 (W.length + X.length) 8 := by rw [ZP hXn, List.length_map, List.length_append]
                refine aC_c (by simp [go_sem]) (by decide) (fun h' hh => by simp [go_sem]; exact kruns.gcall ⟨rfl, rfl, rfl⟩) ?_
                simp only [zm]
                have hap7 := hap.out (n6 + 4 + 8)
                rw [hac, List.map_append] at hap7
                refine aC_x (x := .slc (n6 + 4 + 8) 0 (W.length + X.length) 8) (h2 := (H8.upd q none).upd (n6 + 4 + 8) (acO (W.map zT ++ X.map zT))) (by simp [go_sem]) (by decide) (by simp [go_sem]; rw [hap7]; exact ⟨rfl, rfl, rfl⟩) (.inr (by rw [zG _ _ _ _ (by omega), zG _ _ _ _ (by omega)]; exact x6)) ?_
                simp only [zm]
                have x6' : ((H8.upd q none).upd (n6 + 4 + 8) (acO (W.map zT ++ X.map zT))) (n' + 5) = some (.cells [acV 8 q (W.map zT), .fslc true true 0 []]) := by rw [zG _ _ _ _ (by omega), zG _ _ _ _ (by omega)]; exact x6
                refine aC_c (by simp [go_sem]) (by decide) (fun h' hh => by simp [go_sem]; first | exact rfl | exact ⟨rfl, rfl⟩ | exact ⟨rfl, rfl, rfl⟩) ?_
                simp only [zm]
                refine aC_x (by simp [go_sem]) (by decide) (by simp [go_sem, x6']; first | exact rfl | exact ⟨rfl, rfl⟩ | exact ⟨rfl, rfl, rfl⟩) (.inl rfl) ?_
                simp only [JA]
                refine aC_end ?_
                apply zC.out hK
                clear hK K
                dsimp only [zO, zD]
                replace hap7 : zC _ := trivial
                replace x6' : zC _ := trivial
                replace hac : zC _ := hac
                replace hXn : zC _ := hXn
                repeat' (first | (refine zB fun K hK => ?_; simp (disch := omega) [go_sem, *, zN]) | (apply zC.out hK; clear hK K; try with_reducible dsimp only [zD]))
                refine zV (by simp (disch := omega) [go_sem]) (Sub.refl _) ⟨i + 1, _, n6 + 4 + 8, W ++ X, _, by omega, by omega, by omega, by omega, hnx.out.symm, ?_, ?_, ?_, ?_, ?_, fun x hx => ?_, rfl⟩ (by simp [zf, go_sem]; omega)
                · rw [zM, hac.out]
                · rw [zG _ _ _ _ (by omega), zM, List.map_append]
                · rw [zG _ _ _ _ (by omega), zG _ _ _ _ (by omega), zG _ _ _ _ (by omega)]; exact x8.out
                · rw [zG _ _ _ _ (by omega), zG _ _ _ _ (by omega), zG _ _ _ _ (by omega)]; exact x1.out
                · rw [zG _ _ _ _ (by omega), zG _ _ _ _ (by omega), zG _ _ _ _ (by omega)]; exact x9.out
                · rw [zG _ _ _ _ (by omega), zG _ _ _ _ (by omega), zG _ _ _ _ (by omega)]; exact x10.out x hx
          · have hii : i = P.length := by omega
            subst hii
            rw [List.take_length] at w5
            rw [← w5] at ho3
            replace w5 : zC _ := trivial
            by_cases hW0 : W = []
            · subst hW0
              have ho4 := ho3.out
              rw [if_neg (by simp)] at ho4
              replace ho4 : zC _ := ho4
              simp only [List.map_nil, jx] at w6
              replace w7 : zC _ := trivial
              repeat' (first | (refine zF fun K hK => ?_) | (refine zB fun K hK => ?_; simp (disch := omega) [go_sem, *, zW]) | (apply zC.out hK; clear hK K; try with_reducible dsimp only [zD]) | (apply zC.out hf; clear ht hf Kt Kf) | (clear hK K; apply zC.out hK; clear hK K; try with_reducible dsimp only [zD]) | (refine zK ?_; simp only [zD]) | (refine zU ?_; simp only [zD, zO, if_true]) | (refine zH fun Kt Kf ht hf => ?_; simp (disch := omega) [go_sem, *]; try (refine ⟨fun hc => ?_, fun hc => ?_⟩ <;> try (exfalso; omega))))
              refine zg ?_
              try dsimp only [zD, zO]
              refine ⟨by simp, _, (by first | rfl | (simp (disch := omega) [go_sem] <;> rfl)), ?_⟩
              rw [ho4.out]
              exact zc ⟨fun k hk => by rw [zG _ _ _ _ (by omega)]; exact w11.out k hk, by simp [go_sem, below, belowL, ZL], by rfl, by simp, by simp⟩
            · have hWn : W.map zT ≠ [] := by simpa using hW0
              have hac : acV 8 q (W.map zT) = .slc q 0 W.length 8 := by rw [ZP hWn, List.length_map]
              rw [hac] at w6
              rw [Z2 hWn] at w7
              replace hW0 : zC _ := hW0
              replace hac : zC _ := trivial
              replace hWn : zC _ := trivial
              by_cases h60 : 60 < W.length
              · have ho4 := ho3.out
                rw [if_pos h60] at ho4
                replace ho4 : zC _ := ho4
                repeat' (first | (refine zF fun K hK => ?_) | (refine zB fun K hK => ?_; simp (disch := omega) [go_sem, *, zQ]) | (apply zC.out hK; clear hK K; try with_reducible dsimp only [zD]) | (apply zC.out ht; clear ht hf Kt Kf) | (apply zC.out hf; clear ht hf Kt Kf) | (clear hK K; apply zC.out hK; clear hK K; try with_reducible dsimp only [zD]) | (refine zU ?_; simp only [zD, zO, if_true]) | (refine zH fun Kt Kf ht hf => ?_; simp (disch := omega) [go_sem, *]; try (refine ⟨fun hc => ?_, fun hc => ?_⟩ <;> try (exfalso; omega))))
                refine zg ?_
                try dsimp only [zD, zO]
                refine ⟨by simp, _, (by first | rfl | (simp (disch := omega) [go_sem] <;> rfl)), ?_⟩
                rw [ho4.out]
                exact zc ⟨fun k hk => by rw [zG _ _ _ _ (by omega)]; exact w11.out k hk, by simp [go_sem, below, belowL, ZL], by rfl, by simp, by simp⟩
              · have ho4 := ho3.out
                rw [if_neg h60] at ho4
                replace ho4 : zC _ := ho4
                repeat' (first | (refine zF fun K hK => ?_) | (refine zB fun K hK => ?_; simp (disch := omega) [go_sem, *, zW]) | (apply zC.out hK; clear hK K; try with_reducible dsimp only [zD]) | (apply zC.out hf; clear ht hf Kt Kf) | (clear hK K; apply zC.out hK; clear hK K; try with_reducible dsimp only [zD]) | (refine zK ?_; simp only [zD]) | (refine zU ?_; simp only [zD, zO, if_true]) | (refine zH fun Kt Kf ht hf => ?_; simp (disch := omega) [go_sem, *]; try (refine ⟨fun hc => ?_, fun hc => ?_⟩ <;> try (exfalso; omega))))
                refine zg ?_
                try dsimp only [zD, zO]
                refine ⟨by simp, _, (by first | rfl | (simp (disch := omega) [go_sem] <;> rfl)), ?_⟩
                rw [ho4.out]
                show ZI _ _ (AV.agg [.slc q 0 W.length 8, .fslc true true 0 [], iv .i64 0]) _ _
                refine ret_lnM (by rw [zG _ _ _ _ (by omega)]; exact w7) hW0.out ?_
                exact zc ⟨fun k hk => by rw [zG _ _ _ _ (by omega), zG _ _ _ _ (by omega)]; exact w11.out k hk, by simp [below, belowL, QV], rfl, by simp, by simp⟩
  · have hne : (jN ls l lo hi != 0) = true := by simpa using hc
    have ho : J2 ls l lo hi = ([], jN ls l lo hi) := by unfold J2; rw [if_pos hc]
    rw [ho, show lnF [] = .fslc true true 0 [] from rfl]
    generalize jN ls l lo hi = e at *
    generalize List.map zT ls = LL at *
    generalize List.map ZB l = OO at *
    clear ho hc hsL hs hw hnl hnlL
    repeat' (first | (refine zF fun K hK => ?_) | (refine zB fun K hK => ?_; simp (disch := omega) [go_sem, *, zG, Tryz.ntmps23 ]) | (apply zC.out hK; clear hK K; try with_reducible dsimp only [zD]) | (apply zC.out ht; clear ht hf Kt Kf) | (with_reducible refine zL.gcall (k1) ?_; try simp (disch := omega) [go_sem, * ]) | (refine zH fun Kt Kf ht hf => ?_; simp (disch := omega) [go_sem, * ]; try (refine ⟨fun hc => ?_, fun hc => ?_⟩ <;> try (exfalso; omega))))
    (refine zg ?_; try dsimp only [zD, zO]; refine ⟨by simp, _, (by first | rfl | (simp (disch := omega) [go_sem] <;> rfl)), ?_⟩; refine zc ⟨fun k hk => (by first | rfl | (repeat rw [zG _ _ _ _ (by omega)])), (by simp [go_sem, below, belowL]), (by simp [go_sem] <;> omega), by simp, by simp⟩)
end Go.AM
namespace Go.AM
open Go.Proofs Cw Du Go.RowKit
set_option maxRecDepth 10000
set_option maxHeartbeats 4000000
theorem sameI_spec (nl fu : Bool) (s : Nat) (xs : List Int) (hnl : xs = [] ∨ nl = false ∧ s = 1) (nm fm : Bool) (z : Nat) (ys : List Int) (hnm : ys = [] ∨ nm = false ∧ z = 1) (hl : xs.length ≤ 1000000) (hl2 : ys.length ≤ 1000000) : zL Tryz.prog 35 [.fslc nl fu s (xs.map (iv .i64)), .fslc nm fm z (ys.map (iv .i64))] (bv (decide (xs = ys))) := by
  intro h n
  refine zS.pure (zS.entry (by kernel_rfl) fun hb _ => zX Tryz.func35 rfl (by kernel_rfl) (by simp [Tryz.ntmps35]) ?_)
  obtain ⟨T, hT⟩ : ∃ T, zC (T = decide (xs = ys)) := ⟨_, rfl⟩
  rw [← hT.out]
  replace hnl : zC _ := hnl
  replace hnm : zC _ := hnm
  by_cases hlen : xs.length = ys.length
  · skip
    repeat' (first | (refine zF fun K hK => ?_) | (refine zB fun K hK => ?_; simp (disch := omega) [go_sem, *, Tryz.ntmps35]) | (apply zC.out hK; clear hK K; try with_reducible dsimp only [zD]) | (apply zC.out hf; clear ht hf Kt Kf) | (refine zJ ?_) | (refine zK ?_; simp only [zD]) | (refine zH fun Kt Kf ht hf => ?_; simp (disch := omega) [go_sem, *]; try (refine ⟨fun hc => ?_, fun hc => ?_⟩ <;> try (exfalso; omega))))
    refine za (fun s' => ∃ (i n' : Nat), n ≤ n' ∧ i ≤ xs.length ∧ xs.take i = ys.take i ∧ s' = ⟨26, [(0, .fslc nl fu s (xs.map (iv .i64))), (1, .fslc nm fm z (ys.map (iv .i64))), (5, iv .i64 i)], h, n'⟩)
      (fun s' => xs.length - (zf s' 5).toNat) ?_ ?_
    · exact zb (by simp [go_sem]) (Sub.refl _) ⟨0, _, by omega, by omega, rfl, rfl⟩
    · rintro s' ⟨i, n', hn', hi, htk, rfl⟩
      by_cases hlt : i < xs.length
      · have hne : xs ≠ [] := fun e => by rw [e] at hlt; simp at hlt
        have hlt2 : i < ys.length := by omega
        have hne2 : ys ≠ [] := fun e => by rw [e] at hlt2; simp at hlt2
        obtain ⟨rfl, rfl⟩ := hnl.out.resolve_left hne
        obtain ⟨rfl, rfl⟩ := hnm.out.resolve_left hne2
        clear hne hne2
        by_cases he : xs[i] = ys[i]
        · have hst : zC (xs.take (i + 1) = ys.take (i + 1)) := by
            rw [List.take_succ_eq_append_getElem hlt, List.take_succ_eq_append_getElem hlt2, htk, he]; rfl
          replace htk : zC _ := trivial
          repeat' (first | (refine zF fun K hK => ?_) | (refine zB fun K hK => ?_; simp (disch := omega) [go_sem, *, zN, zQ]) | (refine zl mixed (by kernel_rfl) fun K hK => ?_; simp (disch := omega) [go_sem, *, zP]) | (apply zC.out hK; clear hK K; try with_reducible dsimp only [zD]) | (apply zC.out ht; clear ht hf Kt Kf) | (apply zC.out hf; clear ht hf Kt Kf) | (refine zJ ?_) | (refine zK ?_; simp only [zD, zO]) | (refine zH fun Kt Kf ht hf => ?_; simp (disch := omega) [go_sem, *]; try (refine ⟨fun hc => ?_, fun hc => ?_⟩ <;> try (exfalso; omega))))
          exact zV (by simp (disch := omega) [go_sem]) (Sub.refl _) ⟨i + 1, _, by omega, by omega, hst.out, rfl⟩ (by simp [zf, go_sem]; omega)
        · have hTf : T = false := by
            rw [hT.out, decide_eq_false_iff_not]
            intro e; subst e; exact he rfl
          subst hTf
          replace htk : zC _ := trivial
          repeat' (first | (refine zF fun K hK => ?_) | (refine zB fun K hK => ?_; simp (disch := omega) [go_sem, *, zQ]) | (refine zl mixed (by kernel_rfl) fun K hK => ?_; simp (disch := omega) [go_sem, *, zP]) | (apply zC.out hK; clear hK K; try with_reducible dsimp only [zD]) | (apply zC.out ht; clear ht hf Kt Kf) | (refine zJ ?_) | (refine zK ?_; simp only [zD]) | (refine zH fun Kt Kf ht hf => ?_; simp (disch := omega) [go_sem, *]; try (refine ⟨fun hc => ?_, fun hc => ?_⟩ <;> try (exfalso; omega))))
          exact zR
      · have hii : i = xs.length := by omega
        have hTt : T = true := by
          rw [hT.out, decide_eq_true_iff]
          rw [hii, List.take_length, hlen, List.take_length] at htk; exact htk
        subst hii
        subst hTt
        replace htk : zC _ := trivial
        repeat' (first | (refine zF fun K hK => ?_) | (refine zB fun K hK => ?_; simp (disch := omega) [go_sem, *]) | (apply zC.out hK; clear hK K; try with_reducible dsimp only [zD]) | (apply zC.out hf; clear ht hf Kt Kf) | (clear hK K; apply zC.out hK; clear hK K; try with_reducible dsimp only [zD]) | (refine zU ?_; simp only [zD, zO, if_true]) | (refine zH fun Kt Kf ht hf => ?_; simp (disch := omega) [go_sem, *]; try (refine ⟨fun hc => ?_, fun hc => ?_⟩ <;> try (exfalso; omega))))
        exact zR
  · have hTf : T = false := by
      rw [hT.out, decide_eq_false_iff_not]
      intro e; subst e; exact hlen rfl
    subst hTf
    repeat' (first | (refine zF fun K hK => ?_) | (refine zB fun K hK => ?_; simp (disch := omega) [go_sem, *, Tryz.ntmps35]) | (apply zC.out hK; clear hK K; try with_reducible dsimp only [zD]) | (apply zC.out ht; clear ht hf Kt Kf) | (refine zH fun Kt Kf ht hf => ?_; simp (disch := omega) [go_sem, *]; try (refine ⟨fun hc => ?_, fun hc => ?_⟩ <;> try (exfalso; omega))))
    exact zR
def JT (l : Lin) : List Int × List (List UInt8) × List Int := ([l.kind, l.fr, l.to, l.ev], [l.tower.toList, l.person.toList, l.other.toList], l.exc)
theorem lnF_is (L : List Lin) : ∃ nl s, lnF L = .fslc nl nl s (L.map zT) ∧ (L = [] ∨ nl = false ∧ s = 8) := by
  unfold lnF
  split
  · rename_i e; subst e; exact ⟨true, 0, rfl, .inl rfl⟩
  · exact ⟨false, 8, rfl, .inr ⟨rfl, rfl⟩⟩
theorem sameW_spec (V W : List Lin) (hV : V.length ≤ 1000000) (_hW : W.length ≤ 1000000) (hv : ∀ x ∈ V, j9 x ∧ x.exc.length ≤ 1000000) (hw : ∀ x ∈ W, j9 x ∧ x.exc.length ≤ 1000000) : zL Tryz.prog 24 [.agg [lnF V, .fslc true true 0 []], .agg [lnF W, .fslc true true 0 []]] (bv (decide (V.map JT = W.map JT))) := by
  intro h n
  refine zS.pure (zS.entry (by kernel_rfl) fun hb _ => zX Tryz.func24 rfl (by kernel_rfl) (by simp [Tryz.ntmps24]) ?_)
  obtain ⟨T, hT⟩ : ∃ T, zC (T = decide (V.map JT = W.map JT)) := ⟨_, rfl⟩
  rw [← hT.out]
  obtain ⟨nl, s, e, hnl⟩ := lnF_is V
  obtain ⟨nm, z, e2, hnm⟩ := lnF_is W
  rw [e, e2]
  replace hnl : zC _ := hnl
  replace hnm : zC _ := hnm
  replace hv : zC _ := hv
  replace hw : zC _ := hw
  clear e e2
  by_cases hlen : V.length = W.length
  · skip
    repeat' (first | (refine zF fun K hK => ?_) | (refine zB fun K hK => ?_; simp (disch := omega) [go_sem, *, zG, Tryz.ntmps24]) | (apply zC.out hK; clear hK K; try with_reducible dsimp only [zD]) | (apply zC.out hf; clear ht hf Kt Kf) | (refine zJ ?_) | (refine zK ?_; simp only [zD]) | (refine zH fun Kt Kf ht hf => ?_; simp (disch := omega) [go_sem, *]; try (refine ⟨fun hc => ?_, fun hc => ?_⟩ <;> try (exfalso; omega))))
    obtain ⟨H3, hH3⟩ : ∃ H3, H3 = (h.upd n (some (.cells [.fslc nl nl s (V.map zT), .fslc true true 0 []]))).upd (n + 1) (some (.cells [.fslc nm nm z (W.map zT), .fslc true true 0 []])) := ⟨_, rfl⟩
    have f0 : H3 n = some (.cells [.fslc nl nl s (V.map zT), .fslc true true 0 []]) := by rw [hH3, zG _ _ _ _ (by omega)]; exact zM _ _ _
    have f1 : H3 (n + 1) = some (.cells [.fslc nm nm z (W.map zT), .fslc true true 0 []]) := by rw [hH3]; exact zM _ _ _
    have f2 : ∀ x, x < n → H3 x = h x := fun x hx => by rw [hH3, zG _ _ _ _ (by omega), zG _ _ _ _ (by omega)]
    rw [← hH3]
    replace hH3 : zC _ := trivial
    replace f2 : zC _ := f2
    refine za (fun s' => ∃ (i n' : Nat) (H : zI), n + 2 ≤ n' ∧ i ≤ V.length ∧ (V.take i).map JT = (W.take i).map JT ∧ (∀ x, x < n + 2 → H x = H3 x) ∧ s' = ⟨152, [(2, .ptr n 0), (3, .ptr (n + 1) 0), (5, iv .i64 i)], H, n'⟩)
      (fun s' => V.length - (zf s' 5).toNat) ?_ ?_
    · exact zb (by simp [go_sem]) (Sub.refl _) ⟨0, _, H3, by (try simp only); omega, by omega, rfl, fun _ _ => rfl, rfl⟩
    · rintro s' ⟨i, n', H, hn', hi, htk, hH, rfl⟩
      have g0 := (hH n (by omega)).trans f0
      have g1 := (hH (n + 1) (by omega)).trans f1
      by_cases hlt : i < V.length
      · have hlt2 : i < W.length := by omega
        obtain ⟨⟨k1, t1, p1, o1, a1, b1, e1, nl1, fu1, s1, x1⟩, hx⟩ : ∃ x, V[i] = x := ⟨_, rfl⟩
        obtain ⟨⟨k2, t2, p2, o2, a2, b2, e2, nl2, fu2, s2, x2⟩, hy⟩ : ∃ x, W[i] = x := ⟨_, rfl⟩
        have hne : V ≠ [] := fun e => by rw [e] at hlt; simp at hlt
        have hne2 : W ≠ [] := fun e => by rw [e] at hlt2; simp at hlt2
        obtain ⟨rfl, rfl⟩ := hnl.out.resolve_left hne
        obtain ⟨rfl, rfl⟩ := hnm.out.resolve_left hne2
        have m1 := hv.out _ (hx ▸ List.getElem_mem hlt)
        have m2 := hw.out _ (hy ▸ List.getElem_mem hlt2)
        have kk := sameI_spec nl1 fu1 s1 x1 m1.1 nl2 fu2 s2 x2 m2.1 m1.2 m2.2
        have ex : zT V[i] = .agg [iv .i64 k1, sv t1, sv p1, sv o1, iv .i64 a1, iv .i64 b1, iv .i64 e1, .fslc nl1 fu1 s1 (x1.map (iv .i64))] := by rw [hx]; rfl
        have ey : zT W[i] = .agg [iv .i64 k2, sv t2, sv p2, sv o2, iv .i64 a2, iv .i64 b2, iv .i64 e2, .fslc nl2 fu2 s2 (x2.map (iv .i64))] := by rw [hy]; rfl
        have hst : JT V[i] = JT W[i] → zC ((V.take (i + 1)).map JT = (W.take (i + 1)).map JT) := fun e => by
          show _ = _
          rw [List.take_succ_eq_append_getElem hlt, List.take_succ_eq_append_getElem hlt2, List.map_append, List.map_append, htk, List.map_singleton, List.map_singleton, e]
        have hno : JT V[i] ≠ JT W[i] → T = false := fun e => by
          rw [hT.out, decide_eq_false_iff_not]
          intro e2
          refine e ?_
          have e3 := congrArg (fun l => l[i]?) e2
          simpa [List.getElem?_map, List.getElem?_eq_getElem hlt, List.getElem?_eq_getElem hlt2] using e3
        have hcx : JT V[i] = ([k1, a1, b1, e1], [t1.toList, p1.toList, o1.toList], x1) := by rw [hx]; rfl
        have hcy : JT W[i] = ([k2, a2, b2, e2], [t2.toList, p2.toList, o2.toList], x2) := by rw [hy]; rfl
        rw [hcx, hcy] at hst hno
        clear hne hne2 hcx hcy m1 m2
        replace hx : zC _ := hx
        replace hy : zC _ := hy
        replace htk : zC _ := trivial
        replace hH : zC _ := hH
        by_cases hco : (([k1, a1, b1, e1], [t1.toList, p1.toList, o1.toList], x1) : List Int × List (List UInt8) × List Int) = ([k2, a2, b2, e2], [t2.toList, p2.toList, o2.toList], x2)
        · have hst2 := hst hco
          replace hno : zC _ := trivial
          replace hst : zC _ := trivial
          simp only [Prod.mk.injEq, List.cons.injEq, and_true] at hco
          obtain ⟨⟨rfl, rfl, rfl, rfl⟩, ⟨ht, hp, ho⟩, rfl⟩ := hco
          obtain rfl := (ZM t1 t2).1 (by unfold eqB; simp [ht])
          obtain rfl := (ZM p1 p2).1 (by unfold eqB; simp [hp])
          obtain rfl := (ZM o1 o2).1 (by unfold eqB; simp [ho])
          rw [decide_eq_true rfl] at kk
          clear ht hp ho
          repeat' (first | (refine zF fun K hK => ?_) | (refine zB fun K hK => ?_; simp (disch := omega) [go_sem, *, zN, zG, zQ, zP]) | (apply zC.out hK; clear hK K; try with_reducible dsimp only [zD]) | (apply zC.out ht; clear ht hf Kt Kf) | (apply zC.out hf; clear ht hf Kt Kf) | (with_reducible refine zL.gcall (kk) ?_; try simp (disch := omega) [go_sem, *]) | (refine zJ ?_) | (refine zK ?_; simp only [zD, zO]) | (refine zH fun Kt Kf ht hf => ?_; simp (disch := omega) [go_sem, *]; try (refine ⟨fun hc => ?_, fun hc => ?_⟩ <;> try (exfalso; omega))))
          exact zV (by simp (disch := omega) [go_sem]) (Sub.refl _) ⟨i + 1, _, _, by omega, by omega, hst2.out, fun x hx => by rw [zG _ _ _ _ (by omega), zG _ _ _ _ (by omega), zG _ _ _ _ (by omega), zG _ _ _ _ (by omega)]; exact hH.out x hx, rfl⟩ (by simp [zf, go_sem]; omega)
        · have hTf := hno hco
          subst hTf
          replace hst : zC _ := trivial
          replace hno : zC _ := trivial
          obtain ⟨q, hq⟩ : ∃ q, decide (x1 = x2) = q := ⟨_, rfl⟩
          rw [hq] at kk
          replace hq : zC _ := hq
          replace hco : zC _ := hco
          repeat' (first | (refine zF fun K hK => ?_) | (refine zB fun K hK => ?_; simp (disch := omega) [go_sem, *, zN, zG, zQ, zP]) | (apply zC.out hK; clear hK K; try with_reducible dsimp only [zD]) | (apply zC.out ht; clear ht hf Kt Kf) | (apply zC.out hf; clear ht hf Kt Kf) | (with_reducible refine zL.gcall (kk) ?_; try simp (disch := omega) [go_sem, *]) | (refine zJ ?_) | (refine zK ?_; simp only [zD, zO]) | (refine Z4 (fun hc => ?_) (fun hc => ?_) <;> (try simp only [Bool.not_eq_eq_eq_not, Bool.not_true, Bool.not_false] at hc) <;> (try (exfalso; omega)) <;> (try simp (disch := omega) [go_sem, *, zG])) | (refine zH fun Kt Kf ht hf => ?_; simp (disch := omega) [go_sem, *]; try (refine ⟨fun hc => ?_, fun hc => ?_⟩ <;> try (exfalso; omega))))
          all_goals try (refine zg ?_; try dsimp only [zD, zO]; refine ⟨by simp, _, (by first | rfl | (simp (disch := omega) [go_sem, zG] <;> rfl)), ?_⟩; exact zc ⟨fun k hk => by rw [zG _ _ _ _ (by omega), zG _ _ _ _ (by omega), zG _ _ _ _ (by omega), zG _ _ _ _ (by omega)]; exact (hH.out k (by omega)).trans (f2.out k hk), by simp [go_sem, below, ZL], by rfl, by simp, by simp⟩)
          exfalso
          have hq2 := hq.out
          refine hco.out ?_
          simp_all
      · have hii : i = V.length := by omega
        have hTt : T = true := by
          rw [hT.out, decide_eq_true_iff]
          rw [hii, List.take_length, hlen, List.take_length] at htk; exact htk
        subst hii
        subst hTt
        replace htk : zC _ := trivial
        repeat' (first | (refine zF fun K hK => ?_) | (refine zB fun K hK => ?_; simp (disch := omega) [go_sem, *]) | (apply zC.out hK; clear hK K; try with_reducible dsimp only [zD]) | (apply zC.out hf; clear ht hf Kt Kf) | (clear hK K; apply zC.out hK; clear hK K; try with_reducible dsimp only [zD]) | (refine zJ ?_) | (refine zU ?_; simp only [zD, zO, if_true]) | (refine zH fun Kt Kf ht hf => ?_; simp (disch := omega) [go_sem, *]; try (refine ⟨fun hc => ?_, fun hc => ?_⟩ <;> try (exfalso; omega))))
        refine za (fun s' => ∃ n2, n + 2 ≤ n2 ∧ s' = ⟨152, [(2, .ptr n 0), (3, .ptr (n + 1) 0), (9, iv .i64 0)], H, n2⟩) (fun s' => 0) ?_ ?_
        · exact zb (by simp [go_sem]) (Sub.refl _) ⟨_, by (try simp only); omega, rfl⟩
        · rintro s' ⟨n2, hn2, rfl⟩
          repeat' (first | (refine zF fun K hK => ?_) | (refine zB fun K hK => ?_; simp (disch := omega) [go_sem, *]) | (apply zC.out hK; clear hK K; try with_reducible dsimp only [zD]) | (apply zC.out hf; clear ht hf Kt Kf) | (clear hK K; apply zC.out hK; clear hK K; try with_reducible dsimp only [zD]) | (refine zU ?_; simp only [zD, zO, if_true]) | (refine zH fun Kt Kf ht hf => ?_; simp (disch := omega) [go_sem, *]; try (refine ⟨fun hc => ?_, fun hc => ?_⟩ <;> try (exfalso; omega))))
          refine zg ?_
          try dsimp only [zD, zO]
          refine ⟨by simp, _, (by first | rfl | (simp (disch := omega) [go_sem, zG] <;> rfl)), ?_⟩
          exact zc ⟨fun k hk => by exact (hH k (by omega)).trans (f2.out k hk), by simp [go_sem, below, ZL], by rfl, by simp, by simp⟩
  · have hTf : T = false := by
      rw [hT.out, decide_eq_false_iff_not]
      intro e
      exact hlen (by simpa using congrArg List.length e)
    subst hTf
    repeat' (first | (refine zF fun K hK => ?_) | (refine zB fun K hK => ?_; simp (disch := omega) [go_sem, *, zG, Tryz.ntmps24]) | (apply zC.out hK; clear hK K; try with_reducible dsimp only [zD]) | (apply zC.out ht; clear ht hf Kt Kf) | (apply zC.out hf; clear ht hf Kt Kf) | (refine zJ ?_) | (refine zK ?_; simp only [zD]) | (refine Z4 (fun hc => ?_) (fun hc => ?_) <;> (try simp only [Bool.not_eq_eq_eq_not, Bool.not_true, Bool.not_false] at hc) <;> (try (exfalso; omega)) <;> (try simp (disch := omega) [go_sem, *, zG])) | (refine zH fun Kt Kf ht hf => ?_; simp (disch := omega) [go_sem, *]; try (refine ⟨fun hc => ?_, fun hc => ?_⟩ <;> try (exfalso; omega))))
    all_goals try exact zR
    all_goals exfalso
    all_goals first | omega | (simp only [bne_eq_false_iff_eq] at hc; omega)
end Go.AM
