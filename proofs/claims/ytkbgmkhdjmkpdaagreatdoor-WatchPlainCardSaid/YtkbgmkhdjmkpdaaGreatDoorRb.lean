/- Rosters: lines of a pair, by both. Conditions: as each theorem says. -/
import Derived.Test.YtkbgmkhdjmkpdaaGreatDoorRa
namespace Du
theorem fil_snoc (L : List Int) (a : Int) (k : Nat) : (dys a (k + 1)).filter (fun d => !decide (d ∈ L)) = (dys a k).filter (fun d => !decide (d ∈ L)) ++ if a + k ∈ L then [] else [a + k] := by
  rw [dys_snoc, List.filter_append]
  congr 1
  by_cases h : a + k ∈ L <;> simp [h]
theorem fil_len (L : List Int) (a : Int) (k : Nat) : ((dys a k).filter fun d => !decide (d ∈ L)).length ≤ k := by
  have := List.length_filter_le (fun d => !decide (d ∈ L)) (dys a k)
  rw [JV] at this; exact this
end Du
namespace Go.AM
open Go.Proofs Cw Du
set_option maxRecDepth 10000
set_option maxHeartbeats 4000000
theorem flat_iv : ∀ L : List Int, flat (L.map (iv .i64)) = L.map (iv .i64)
  | [] => rfl
  | v :: r => by rw [List.map_cons, JH, flat_iv r]; rfl
theorem elemsI0 : ∀ V : List Int, jS false 1 V.length (V.map (iv .i64)) = V.map (iv .i64)
  | [] => rfl
  | v :: r => by
    have ih := elemsI0 r
    simp only [jS, qY, List.map_cons, List.length_cons] at ih ⊢
    have e1 : List.drop 1 (iv .i64 v :: List.map (iv .i64) r) = List.map (iv .i64) r := rfl
    rw [e1, ih]; rfl
theorem ap_int {nm m : Nat} {V : List Int} {x : Int} {h : zI} {b c : Bool} (hm : h m = acO (V.map (iv .i64))) (hl : V.length ≤ 2000000) :
    ZF Tryz.prog nm 53 (acV 1 m (V.map (iv .i64))) (.fslc b c 1 [iv .i64 x]) h = some (acV 1 nm ((V ++ [x]).map (iv .i64)), (h.upd m none).upd nm (acO ((V ++ [x]).map (iv .i64)))) := by
  have := ap_ac (P := Tryz.prog) (T := 53) (e := 3) (s := 1) (by_ := 8) (z := iv .i64 0) (by kernel_rfl) (by kernel_rfl) (by kernel_rfl) (by kernel_rfl) (by simp [cellsOf, AV.scalar]) (nm := nm) (m := m) (L := V.map (iv .i64)) (X := [iv .i64 x]) (nl := b) (full := c) hm (fun y hy => by obtain ⟨o, _, rfl⟩ := List.mem_map.1 hy; rfl) (by simp) (by simp; omega)
  rw [List.map_append]; exact this
theorem ln_len (y : Lin) : (cellsOf (zT y)).length = 8 := rfl
theorem ap_ln {nm m : Nat} {V : List Lin} {X : List Lin} {h : zI} {b c : Bool} (hm : h m = acO (V.map zT)) (hX : X ≠ []) (hl : V.length + X.length ≤ 600000) :
    ZF Tryz.prog nm 22 (acV 8 m (V.map zT)) (.fslc b c 8 (X.map zT)) h = some (acV 8 nm ((V ++ X).map zT), (h.upd m none).upd nm (acO ((V ++ X).map zT))) := by
  have := ap_ac (P := Tryz.prog) (T := 22) (e := 55) (s := 8) (by_ := 104) (z := .agg [iv .i64 0, sv ByteArray.empty, sv ByteArray.empty, sv ByteArray.empty, iv .i64 0, iv .i64 0, iv .i64 0, .fslc true true 0 []]) (by kernel_rfl) (by kernel_rfl) (by kernel_rfl) (by kernel_rfl) (by simp [cellsOf, AV.scalar]) (nm := nm) (m := m) (L := V.map zT) (X := X.map zT) (nl := b) (full := c) hm (fun y hy => by obtain ⟨o, _, rfl⟩ := List.mem_map.1 hy; exact ln_len o) (by simpa using hX) (by simp; omega)
  rw [List.map_append]; exact this
theorem QX (V : List Lin) : (flat (V.map zT)).length = V.length * 8 := by
  have := Jw (s := 8) (L := V.map zT) (fun y hy => by obtain ⟨o, _, rfl⟩ := List.mem_map.1 hy; exact ln_len o)
  rw [this, List.length_map]
theorem elemsLn : ∀ D : List Lin, jS true 8 D.length (flat (D.map zT)) = D.map zT
  | [] => rfl
  | p :: r => by
    have ih := elemsLn r
    have e : flat ((p :: r).map zT) = cellsOf (zT p) ++ flat (r.map zT) := by simp [flat]
    rw [e]
    simp only [jS, List.length_cons, qY, List.map_cons] at ih ⊢
    have e1 : List.drop 8 (cellsOf (zT p) ++ flat (r.map zT)) = flat (r.map zT) := rfl
    have e2 : List.take 8 (cellsOf (zT p) ++ flat (r.map zT)) = cellsOf (zT p) := rfl
    rw [e1, e2, ih]; rfl
def lnF (X : List Lin) : AV := if X = [] then .fslc true true 0 [] else .fslc false false 8 (X.map zT)
theorem QV (n : Nat) (V : List Lin) : below n (lnF V) := by
  unfold lnF
  split
  · simp [below, belowL]
  · simp only [below]; rw [Zl]; intro y hy; obtain ⟨o, _, rfl⟩ := List.mem_map.1 hy; simp [zT, below, belowL]; rw [Zl]; intro z hz; obtain ⟨x, _, rfl⟩ := List.mem_map.1 hz; simp [below]
theorem ret_ln {fl : Nat} {K : AV → zI → Nat → Prop} {m : Nat} {V : List Lin} {h : zI} {n : Nat} (hm : h m = some (.cells (flat (V.map zT)))) (h0 : V ≠ []) (hk : ZI fl K (lnF V) (h.upd m none) n) : ZI fl K (.slc m 0 V.length 8) h n := by
  refine ret_fzD true hm ?_
  have hfl := QX V
  have ef : fzD m (flat (V.map zT)) true (.slc m 0 V.length 8) = .fslc false false 8 (V.map zT) := by
    simp only [fzD, Nat.zero_add, List.drop_zero]
    rw [if_pos ⟨trivial, by omega, by simp⟩, elemsLn]
  rw [ef]
  simpa [lnF, h0] using hk
theorem ln_set5 (p : Pr) (A : List Lin) (f y x : Int) : z8 (flat ((A ++ [ZH p f y []]).map zT)) (A.length * 8 + 5) [iv .i64 x] = flat ((A ++ [ZH p f x []]).map zT) := by
  have hl := QX A
  have e : ∀ z, flat ((A ++ [ZH p f z []]).map zT) = flat (A.map zT) ++ [iv .i64 1, sv p.1, sv p.2, sv ByteArray.empty, iv .i64 f, iv .i64 z, iv .i64 1, .fslc true true 0 []] := fun z => by
    rw [List.map_append, Jd]; rfl
  rw [e, e]
  generalize flat (A.map zT) = C at *
  rw [← hl]
  unfold z8
  rw [List.take_append, List.take_of_length_le (by omega), List.drop_append, List.drop_eq_nil_of_le (by simp; omega), Nat.add_sub_cancel_left, List.length_singleton, show C.length + 5 + 1 - C.length = 6 by omega]
  simp
theorem lines_spec (nl fu : Bool) (s : Nat) (p : Pr) (L : List Int) (hnl : nl = false ∧ s = 1) (hne : L ≠ []) (hA : Asc L) (h0 : ∀ d ∈ L, 0 ≤ d ∧ d ≤ 400) (hl : L.length ≤ 401) :
    zL Tryz.prog 65 [.agg [sv p.1, sv p.2], .fslc nl fu s (L.map (iv .i64))] (lnF (qP p L)) := by
  intro h n
  obtain ⟨rfl, rfl⟩ := hnl
  obtain ⟨p1, p2⟩ := p
  obtain ⟨a, r, rfl⟩ : ∃ a r, L = a :: r := by cases L with | nil => exact absurd rfl hne | cons a r => exact ⟨a, r, rfl⟩
  obtain ⟨e, he⟩ : ∃ e, (a :: r).getLast? = some e := by
    cases h : (a :: r).getLast? with
    | none => rw [List.getLast?_eq_none_iff] at h; cases h
    | some e => exact ⟨e, rfl⟩
  have hae := QG hA e (List.mem_of_getLast? he)
  have ha := h0 a (by simp)
  have hee := h0 e (List.mem_of_getLast? he)
  have hX : ZY (a :: r) = (dys a (e + 1 - a).toNat).filter fun d => !decide (d ∈ a :: r) := by simp only [ZY, he, Option.getD_some]
  have hO : qP (p1, p2) (a :: r) = if (ZY (a :: r)).length ≤ 20 then [ZH (p1, p2) a e (ZY (a :: r))] else (pcs (a :: r)).map fun q => ZH (p1, p2) q.1 q.2 [] := by unfold qP; rw [he]; rfl
  have hi0 : (a :: r)[0]? = some a := rfl
  have hie : (a :: r)[r.length]? = some e := by rw [List.getLast?_eq_getElem?] at he; simpa using he
  have k1 := fun w => containsI false fu 1 (a :: r) (.inr ⟨rfl, rfl⟩) w (by omega)
  have hlen : (a :: r).length = r.length + 1 := rfl
  have hg0 : ∀ h : 0 < (a :: r).length, (a :: r)[0] = a := fun _ => rfl
  have hge : ∀ h : (a :: r).length - 1 < (a :: r).length, (a :: r)[(a :: r).length - 1] = e := fun h => Option.some.inj ((List.getElem?_eq_getElem h).symm.trans hie)
  refine zS.pure (zS.entry (by kernel_rfl) fun hb _ => zX Tryz.func65 rfl (by kernel_rfl) (by simp [Tryz.ntmps65]) ?_)
  generalize hL : a :: r = L at *
  replace hX : zC _ := hX
  replace hO : zC _ := hO
  replace hA : zC _ := hA
  replace h0 : zC _ := h0
  replace he : zC _ := he
  replace hL : zC _ := hL
  clear hne
  repeat' (first | (refine zF fun K hK => ?_) | (refine zB fun K hK => ?_; simp (disch := omega) [go_sem, *, Tryz.ntmps65]) | (apply zC.out hK; clear hK K; try with_reducible dsimp only [zD]))
  refine Z1 (t := 2) (m := n) (c := [sv p1, sv p2]) (by simp (disch := omega) only [zM]) (by simp [go_sem]) ?_
  repeat' (first | (refine zF fun K hK => ?_) | (refine zB fun K hK => ?_; simp (disch := omega) [go_sem, *, zN, zG, Zp, zh, ZT, zQ, zW, zP, zk]) | (refine jm (by simp [go_sem]) (by simp (disch := omega) [go_sem, *]; first | exact rfl | exact ⟨rfl, rfl, rfl⟩) ?_; try simp only [zm, JA]) | (refine jm (by simp [go_sem]) (by (try simp (disch := omega) [go_sem, *]); first | exact rfl | exact ⟨rfl, rfl, rfl⟩) ?_; try simp only [zm, JA]) | (refine ZR ?_) | (apply zC.out hK; clear hK K; try with_reducible dsimp only [zD]) | (apply zC.out ht; clear ht hf Kt Kf) | (apply zC.out hf; clear ht hf Kt Kf) | (clear hK K; apply zC.out hK; clear hK K; try with_reducible dsimp only [zD]) | (clear hK K; clear hK K; apply zC.out hK; clear hK K; try with_reducible dsimp only [zD]) | (refine zJ ?_) | (refine zK ?_; simp only [zD, zO]) | (refine zU ?_; simp only [zD, zO, if_true, if_false, Nat.reduceEqDiff]) | (with_reducible show nextK _ _ _ _ _ _ _; simp (disch := omega) [go_sem, *, zN, zG, Zp, zh, ZT, zQ, zW, zP, zk]) | (refine Z4 (fun hc => ?_) (fun hc => ?_) <;> (try simp only [Bool.not_eq_true', Bool.not_eq_false', Bool.not_eq_eq_eq_not, Bool.not_true, Bool.not_false, decide_eq_true_eq, decide_eq_false_iff_not, Int.not_lt, Int.not_le] at hc) <;> (try (exfalso; omega)) <;> (try simp (disch := omega) [go_sem, *, zN, zG, Zp, zh, ZT, zQ, zW, zP, zk])) | (refine zH fun Kt Kf ht hf => ?_; simp (disch := omega) [go_sem, *, zN, zG, Zp, zh, ZT, zQ, zW, zP, zk]; try (refine ⟨fun hc => ?_, fun hc => ?_⟩ <;> try (exfalso; omega))))
  refine J5 [1, 2] [10, 12, 14, 15, 17, 21] mixed (by kernel_rfl) (fun x hx => by simp at hx; rcases hx with rfl | rfl; exact .inr ⟨false, fu, 1, L.map (iv .i64), by simp [go_sem]⟩; exact .inl ⟨[sv p1, sv p2], by simp [go_sem]⟩) fun K hK => ?_
  simp (disch := omega) [go_sem, hg0, hge, zN, zP]
  obtain ⟨B, hB⟩ : ∃ B, B = n + 2 + 14 := ⟨_, rfl⟩
  obtain ⟨H3, hH3⟩ : ∃ H3, H3 = (((h.upd n (some (.cells [sv p1, sv p2]))).upd n none).upd B (some (.cells [iv .i64 0, sv ByteArray.empty, sv ByteArray.empty, sv ByteArray.empty, iv .i64 0, iv .i64 0, iv .i64 0, .fslc true true 0 []]))).upd B (some (.cells [.c (.int .i64 1), sv p1, sv p2, sv ByteArray.empty, iv .i64 a, iv .i64 e, .c (.int .i64 1), .fslc true true 0 []])) := ⟨_, rfl⟩
  have hfr : zC (∀ x, x < n → H3 x = h x) := fun x hx => by rw [hH3, hB]; simp (disch := omega) only [zG]
  have hno : H3 (B + 1) = none := by rw [hH3, hB]; simp (disch := omega) only [zG]; exact hb.none (by omega)
  have hb0 : H3 B = some (.cells [iv .i64 1, sv p1, sv p2, sv ByteArray.empty, iv .i64 a, iv .i64 e, iv .i64 1, .fslc true true 0 []]) := by rw [hH3]; exact zM _ _ _
  simp only [← hB, ← hH3]
  have hB1 : n + 16 ≤ B := by omega
  have hB2 : B ≤ n + 16 := by omega
  replace hH3 : zC _ := trivial
  replace hB : zC _ := trivial
  replace hno : zC _ := hno
  repeat' (first | (refine zF fun K hK => ?_) | (refine zB fun K hK => ?_; simp (disch := omega) [go_sem, *]) | (apply zC.out hK; clear hK K; try with_reducible dsimp only [zD]) | (refine zJ ?_))
  refine za (fun s' => ∃ (d : Int) (n' q : Nat) (E : List Int) (H : zI), B + 2 ≤ n' ∧ a ≤ d ∧ d ≤ e + 1 ∧ B < q ∧ q < n' ∧ E = (dys a (d - a).toNat).filter (fun d => !decide (d ∈ L)) ∧ H B = some (.cells [iv .i64 1, sv p1, sv p2, sv ByteArray.empty, iv .i64 a, iv .i64 e, iv .i64 1, acV 1 q (E.map (iv .i64))]) ∧ H q = acO (E.map (iv .i64)) ∧ (∀ x, x < n → H x = h x) ∧
      s' = ⟨86, [(1, .fslc false fu 1 (L.map (iv .i64))), (2, .fptr [sv p1, sv p2]), (5, .ptr B 0), (6, iv .i64 d)], H, n'⟩)
    (fun s' => (e + 1 - zf s' 6).toNat) ?_ ?_
  · exact zb (by simp [go_sem]) (Sub.refl _) ⟨a, _, B + 1, [], H3, by (try simp only); omega, by omega, by omega, by omega, by (try simp only); omega, by rw [Int.sub_self]; rfl, hb0, hno.out, hfr.out, rfl⟩
  · rintro s' ⟨d, n', q, E, H, r1, r2, r3, r4, r5, r6, r7, r8, r9, rfl⟩
    replace r8 : zC _ := r8
    replace r9 : zC _ := r9
    have hEl : E.length ≤ 1000 := by
      rw [r6]; have := fil_len L a (d - a).toNat; omega
    by_cases hde : d ≤ e
    · have hsn := fil_snoc L a (d - a).toNat
      rw [show a + ((d - a).toNat : Int) = d by omega, show (d - a).toNat + 1 = (d + 1 - a).toNat by omega, ← r6] at hsn
      have k2 := k1 d
      by_cases hin : d ∈ L
      · rw [if_pos hin, List.append_nil] at hsn
        rw [show decide (d ∈ L) = true from decide_eq_true hin] at k2
        replace hsn : zC _ := hsn
        replace r6 : zC _ := trivial
        replace hin : zC _ := hin
        repeat' (first | (refine zF fun K hK => ?_) | (refine zB fun K hK => ?_; simp (disch := omega) [go_sem, *, zN]) | (apply zC.out hK; clear hK K; try with_reducible dsimp only [zD]) | (apply zC.out ht; clear ht hf Kt Kf) | (apply zC.out hf; clear ht hf Kt Kf) | (with_reducible refine zL.gcall (k2) ?_; try simp (disch := omega) [go_sem, *]) | (refine zJ ?_) | (refine zK ?_; simp only [zD, zO]) | (refine zH fun Kt Kf ht hf => ?_; simp (disch := omega) [go_sem, *]; try (refine ⟨fun hc => ?_, fun hc => ?_⟩ <;> try (exfalso; omega))))
        exact zV (by simp (disch := omega) [go_sem]) (Sub.refl _) ⟨d + 1, _, q, E, H, by omega, by omega, by omega, by omega, by omega, hsn.out.symm, r7, r8.out, r9.out, rfl⟩ (by simp [zf, go_sem]; omega)
      · rw [if_neg hin] at hsn
        rw [show decide (d ∈ L) = false from decide_eq_false hin] at k2
        have hap := fun nm => ap_int (nm := nm) (m := q) (V := E) (x := d) (h := H) (b := false) (c := false) r8.out (by omega)
        replace hsn : zC _ := hsn
        replace hap : zC _ := hap
        replace r6 : zC _ := trivial
        replace hin : zC _ := hin
        repeat' (first | (refine zF fun K hK => ?_) | (refine zB fun K hK => ?_; simp (disch := omega) [go_sem, *]) | (apply zC.out hK; clear hK K; try with_reducible dsimp only [zD]) | (apply zC.out ht; clear ht hf Kt Kf) | (with_reducible refine zL.gcall (k2) ?_; try simp (disch := omega) [go_sem, *]) | (refine zJ ?_) | (refine zK ?_; simp only [zD]) | (refine zH fun Kt Kf ht hf => ?_; simp (disch := omega) [go_sem, *]; try (refine ⟨fun hc => ?_, fun hc => ?_⟩ <;> try (exfalso; omega))))
        rw [hap.out]
        replace hap : zC _ := trivial
        have s7 : ((H.upd q none).upd (n' + 4 + 4 + 4) (acO ((E ++ [d]).map (iv .i64)))) B = some (.cells [iv .i64 1, sv p1, sv p2, sv ByteArray.empty, iv .i64 a, iv .i64 e, iv .i64 1, acV 1 q (E.map (iv .i64))]) := by rw [zG _ _ _ _ (by omega), zG _ _ _ _ (by omega)]; exact r7
        have s8 := zM (H.upd q none) (n' + 4 + 4 + 4) (acO ((E ++ [d]).map (iv .i64)))
        have s10 : ∀ x, x < n → ((H.upd q none).upd (n' + 4 + 4 + 4) (acO ((E ++ [d]).map (iv .i64)))) x = h x := fun x hx => by rw [zG _ _ _ _ (by omega), zG _ _ _ _ (by omega)]; exact r9.out x hx
        generalize (H.upd q none).upd (n' + 4 + 4 + 4) (acO ((E ++ [d]).map (iv .i64))) = H7 at *
        generalize hEE : E ++ [d] = EE at *
        replace s8 : zC _ := s8
        replace s10 : zC _ := s10
        replace hEE : zC _ := hEE
        have hav : acV 1 (n' + 4 + 4 + 4) (EE.map (iv .i64)) = .slc (n' + 4 + 4 + 4) 0 EE.length 1 := by rw [ZP (by rw [← hEE.out]; simp), List.length_map]
        rw [hav]
        replace hav : zC _ := hav
        simp (disch := omega) [go_sem, s7]
        repeat' (first | (refine zB fun K hK => ?_; simp (disch := omega) [go_sem, *, zN]) | (apply zC.out hK; clear hK K; try with_reducible dsimp only [zD]))
        exact zV (by simp (disch := omega) [go_sem]) (Sub.refl _) ⟨d + 1, _, n' + 4 + 4 + 4, EE, _, by omega, by omega, by omega, by omega, by omega, hsn.out.symm, by rw [hav.out]; exact zM _ _ _, by rw [zG _ _ _ _ (by omega)]; exact s8.out, fun x hx => by rw [zG _ _ _ _ (by omega)]; exact s10.out x hx, rfl⟩ (by simp [zf, go_sem]; omega)
    · have hdd : d = e + 1 := by omega
      subst hdd
      rw [show (e + 1 - a) = e + 1 - a from rfl, ← hX.out] at r6
      subst r6
      have ho := hO.out
      by_cases h20 : (ZY L).length ≤ 20
      · rw [if_pos h20] at ho
        replace ho : zC _ := ho
        by_cases hE0 : ZY L = []
        · rw [hE0] at r7 r8 ho h20
          simp only [List.map_nil, jx] at r7
          replace r8 : zC _ := trivial
          repeat' (first | (refine zF fun K hK => ?_) | (refine zB fun K hK => ?_; simp (disch := omega) [go_sem, *, zP]) | (apply zC.out hK; clear hK K; try with_reducible dsimp only [zD]) | (apply zC.out ht; clear ht hf Kt Kf) | (apply zC.out hf; clear ht hf Kt Kf) | (clear hK K; apply zC.out hK; clear hK K; try with_reducible dsimp only [zD]) | (refine zU ?_; simp only [zD, zO, if_true]) | (refine zH fun Kt Kf ht hf => ?_; simp (disch := omega) [go_sem, *]; try (refine ⟨fun hc => ?_, fun hc => ?_⟩ <;> try (exfalso; omega))))
          refine zg ?_
          try dsimp only [zD, zO]
          refine ⟨by simp, _, (by first | rfl | (simp (disch := omega) [go_sem, zG] <;> rfl)), ?_⟩
          rw [ho.out]
          exact zc ⟨fun k hk => r9.out k hk, by simp [go_sem, below, belowL, ZL], by rfl, by simp, by simp⟩
        · have hE1 : (ZY L).map (iv .i64) ≠ [] := by simpa using hE0
          have hac : acV 1 q ((ZY L).map (iv .i64)) = .slc q 0 (ZY L).length 1 := by rw [ZP hE1, List.length_map]
          have r8 := r8.out
          rw [Z2 hE1, flat_iv] at r8
          rw [hac] at r7
          refine ac_fzcell q B false (by omega) r8 r7 ?_
          have hfz : J7 q ((ZY L).map (iv .i64)) false [iv .i64 1, sv p1, sv p2, sv ByteArray.empty, iv .i64 a, iv .i64 e, iv .i64 1, .slc q 0 (ZY L).length 1] = [iv .i64 1, sv p1, sv p2, sv ByteArray.empty, iv .i64 a, iv .i64 e, iv .i64 1, .fslc false false 1 ((ZY L).map (iv .i64))] := by
            simp only [J7, fzD, Nat.zero_add, List.drop_zero]
            rw [if_pos ⟨trivial, by simp, by simp⟩, elemsI0]
          rw [hfz]
          generalize hH7 : (H.upd q none).upd B (some (AObj.cells [iv .i64 1, sv p1, sv p2, sv ByteArray.empty, iv .i64 a, iv .i64 e, iv .i64 1, .fslc false false 1 ((ZY L).map (iv .i64))])) = H7
          have g7 : H7 B = some (.cells [iv .i64 1, sv p1, sv p2, sv ByteArray.empty, iv .i64 a, iv .i64 e, iv .i64 1, .fslc false false 1 ((ZY L).map (iv .i64))]) := by rw [← hH7]; exact zM _ _ _
          have g9 : ∀ x, x < n → H7 x = h x := fun x hx => by rw [← hH7, zG _ _ _ _ (by omega), zG _ _ _ _ (by omega)]; exact r9.out x hx
          have hmk : zT (ZH (p1, p2) a e (ZY L)) = .agg [iv .i64 1, sv p1, sv p2, sv ByteArray.empty, iv .i64 a, iv .i64 e, iv .i64 1, .fslc false false 1 ((ZY L).map (iv .i64))] := by
            simp [zT, ZH, hE0]
          clear hH7 hfz r8 r7 hac
          replace g9 : zC _ := g9
          replace hmk : zC _ := hmk
          replace hE1 : zC _ := trivial
          replace hE0 : zC _ := trivial
          have hbl : belowL n ((ZY L).map (iv .i64)) := by rw [Zl]; intro z hz; obtain ⟨x, _, rfl⟩ := List.mem_map.1 hz; simp [below]
          repeat' (first | (refine zF fun K hK => ?_) | (refine zB fun K hK => ?_; simp (disch := omega) [go_sem, *, zP]) | (apply zC.out hK; clear hK K; try with_reducible dsimp only [zD]) | (apply zC.out ht; clear ht hf Kt Kf) | (apply zC.out hf; clear ht hf Kt Kf) | (clear hK K; apply zC.out hK; clear hK K; try with_reducible dsimp only [zD]) | (refine zU ?_; simp only [zD, zO, if_true]) | (refine zH fun Kt Kf ht hf => ?_; simp (disch := omega) [go_sem, *]; try (refine ⟨fun hc => ?_, fun hc => ?_⟩ <;> try (exfalso; omega))))
          refine zg ?_
          try dsimp only [zD, zO]
          refine ⟨by simp, _, (by first | rfl | (simp (disch := omega) [go_sem, zG] <;> rfl)), ?_⟩
          rw [ho.out]
          refine zc ⟨fun k hk => g9.out k hk, ?_, ?_, by simp, by simp⟩
          · simp [go_sem, below, belowL, ZL, hbl]
          · simp [lnF, hmk.out, ZL, go_sem]
      · rw [if_neg h20] at ho
        replace ho : zC _ := ho
        have hxl : ((ZY L).length : Int) > 20 := by omega
        replace h20 : zC _ := trivial
        have hE0 : ZY L ≠ [] := fun e => by rw [e] at hxl; simp at hxl
        have hE1 : (ZY L).map (iv .i64) ≠ [] := by simpa using hE0
        have hac : acV 1 q ((ZY L).map (iv .i64)) = .slc q 0 (ZY L).length 1 := by rw [ZP hE1, List.length_map]
        rw [hac] at r7
        generalize (ZY L).length = xl at *
        replace hac : zC _ := trivial
        replace hE1 : zC _ := trivial
        replace hE0 : zC _ := trivial
        clear r8
        refine ac_hbD fun hB3 => ?_
        have hnw : H (n' + 4 + 4 + 1) = none := QZ hB3 (by simp only; omega)
        replace hnw : zC _ := hnw
        replace hB3 : zC _ := trivial
        repeat' (first | (refine zF fun K hK => ?_) | (refine zB fun K hK => ?_; simp (disch := omega) [go_sem, *, zk]) | (apply zC.out hK; clear hK K; try with_reducible dsimp only [zD]) | (apply zC.out hf; clear ht hf Kt Kf) | (clear hK K; apply zC.out hK; clear hK K; try with_reducible dsimp only [zD]) | (refine zJ ?_) | (refine zK ?_; simp only [zD]) | (refine zU ?_; simp only [zD, zO, if_true]) | (refine zH fun Kt Kf ht hf => ?_; simp (disch := omega) [go_sem, *]; try (refine ⟨fun hc => ?_, fun hc => ?_⟩ <;> try (exfalso; omega))))
        refine za (fun s' => ∃ (i n4 q2 : Nat) (W : List Lin) (H' : zI), n + 16 ≤ n4 ∧ i ≤ L.length ∧ n + 16 ≤ q2 ∧ q2 < n4 ∧ W = (pcs (L.take i)).map (fun q => ZH (p1, p2) q.1 q.2 []) ∧ H' q2 = acO (W.map zT) ∧ (∀ x, x < n → H' x = h x) ∧
            s' = ⟨86, [(1, .fslc false fu 1 (L.map (iv .i64))), (2, .fptr [sv p1, sv p2]), (7, acV 8 q2 (W.map zT)), (48, .fslc false fu 1 (L.map (iv .i64))), (49, iv .i64 ((r.length : Int) + 1)), (50, iv .i64 i)], H', n4⟩)
          (fun s' => L.length - (zf s' 50).toNat) ?_ ?_
        · exact zb (by simp [go_sem, jx]) (Sub.refl _) ⟨0, _, n' + 4 + 4 + 1, [], H, by (try simp only); omega, by omega, by omega, by (try simp only); omega, rfl, hnw.out, r9.out, rfl⟩
        · rintro s' ⟨i, n4, q2, W, H', w1, w2, w3, w4, w5, w6, w7, rfl⟩
          by_cases hlt : i < L.length
          · obtain ⟨x, hx⟩ : ∃ x, L[i] = x := ⟨_, rfl⟩
            have htk : L.take (i + 1) = L.take i ++ [x] := by rw [List.take_succ_eq_append_getElem hlt, hx]
            have hsn := pcs_snoc (L.take i) x
            rw [← htk] at hsn
            have hWl : W.length ≤ 401 := by rw [w5, List.length_map]; have := pcs_len (L.take i); rw [List.length_take] at this; omega
            replace w7 : zC _ := w7
            have hxb := h0.out x (hx ▸ List.getElem_mem hlt)
            by_cases hi0 : i = 0
            · subst hi0
              obtain rfl : a = x := (hg0 hlt).symm.trans hx
              have hw5 : (pcs (L.take (0 + 1))).map (fun q => ZH (p1, p2) q.1 q.2 []) = W ++ [ZH (p1, p2) a a []] := by
                rw [hsn, w5]; simp
              have hap := fun nm => ap_ln (nm := nm) (m := q2) (V := W) (X := [ZH (p1, p2) a a []]) (h := H') (b := false) (c := false) w6 (by simp) (by simp; omega)
              rw [show [ZH (p1, p2) a a []].map zT = [.agg [iv .i64 1, sv p1, sv p2, sv ByteArray.empty, iv .i64 a, iv .i64 a, iv .i64 1, .fslc true true 0 []]] from rfl] at hap
              replace hw5 : zC _ := hw5
              replace hap : zC _ := hap
              replace hsn : zC _ := trivial
              replace htk : zC _ := trivial
              replace w5 : zC _ := trivial
              replace w6 : zC _ := trivial
              repeat' (first | (refine zF fun K hK => ?_) | (refine zB fun K hK => ?_; simp (disch := omega) [go_sem, *, zQ]) | (apply zC.out hK; clear hK K; try with_reducible dsimp only [zD]) | (apply zC.out ht; clear ht hf Kt Kf) | (apply zC.out hf; clear ht hf Kt Kf) | (refine zJ ?_) | (refine zK ?_; simp only [zD]) | (refine zH fun Kt Kf ht hf => ?_; simp (disch := omega) [go_sem, *]; try (refine ⟨fun hc => ?_, fun hc => ?_⟩ <;> try (exfalso; omega))))
              rw [hap.out]
              replace hap : zC _ := trivial
              have s8 := zM (H'.upd q2 none) (n4 + 1 + 5 + 12 + 9) (acO ((W ++ [ZH (p1, p2) a a []]).map zT))
              have s10 : ∀ z, z < n → ((H'.upd q2 none).upd (n4 + 1 + 5 + 12 + 9) (acO ((W ++ [ZH (p1, p2) a a []]).map zT))) z = h z := fun z hz => by rw [zG _ _ _ _ (by omega), zG _ _ _ _ (by omega)]; exact w7.out z hz
              generalize (H'.upd q2 none).upd (n4 + 1 + 5 + 12 + 9) (acO ((W ++ [ZH (p1, p2) a a []]).map zT)) = H7 at *
              generalize hWW : W ++ [ZH (p1, p2) a a []] = WW at *
              replace s8 : zC _ := s8
              replace s10 : zC _ := s10
              simp (disch := omega) [go_sem]
              repeat' (first | (refine zB fun K hK => ?_; simp (disch := omega) [go_sem, *, zN]) | (apply zC.out hK; clear hK K; try with_reducible dsimp only [zD]))
              exact zV (by simp (disch := omega) [go_sem]) (Sub.refl _) ⟨0 + 1, _, n4 + 1 + 5 + 12 + 9, WW, H7, by omega, by omega, by omega, by omega, hw5.out.symm, s8.out, s10.out, rfl⟩ (by simp [zf, go_sem]; omega)
            · obtain ⟨y, hy⟩ : ∃ y, L[i - 1] = y := ⟨_, rfl⟩
              have hyb := h0.out y (hy ▸ List.getElem_mem (by omega))
              have hgl : (L.take i).getLast? = some y := by
                rw [List.getLast?_eq_getElem?, List.length_take, Nat.min_eq_left (by omega), List.getElem?_take_of_lt (by omega), List.getElem?_eq_getElem (by omega), hy]
              rw [hgl] at hsn
              have hyg : ∀ h : i - 1 < L.length, L[i - 1] = y := fun _ => hy
              have hi1 : ((i : Int) - 1).toNat = i - 1 := by omega
              by_cases hc : y = x - 1
              · rw [if_pos (by rw [hc])] at hsn
                obtain ⟨f, hf⟩ := (pcs_ok (L.take i)).last _ hgl
                obtain ⟨A, hA2⟩ := List.getLast?_eq_some_iff.1 hf
                rw [hA2] at hsn w5
                simp only [List.dropLast_concat, List.getLast?_append, List.getLast?_singleton, Option.some_or, Option.getD_some] at hsn
                rw [List.map_append, List.map_singleton] at w5
                have hw5 : (pcs (L.take (i + 1))).map (fun q => ZH (p1, p2) q.1 q.2 []) = A.map (fun q => ZH (p1, p2) q.1 q.2 []) ++ [ZH (p1, p2) f x []] := by
                  rw [hsn, List.map_append, List.map_singleton]
                generalize A.map (fun q => ZH (p1, p2) q.1 q.2 []) = AA at *
                have hst := ln_set5 (p1, p2) AA f y x
                rw [← w5] at hst
                have hWn : W.map zT ≠ [] := by rw [w5]; simp
                have hAl : AA.length = W.length - 1 := by rw [w5]; simp
                have hAw : AA.length + 1 = W.length := by rw [w5]; simp
                have hac : acV 8 q2 (W.map zT) = .slc q2 0 W.length 8 := by rw [ZP hWn, List.length_map]
                rw [Z2 hWn] at w6
                have hcl := QX W
                rw [hac]
                generalize hcc : flat (W.map zT) = cc at *
                replace hst : zC _ := hst
                replace hw5 : zC _ := hw5
                replace hsn : zC _ := trivial
                replace htk : zC _ := trivial
                replace w5 : zC _ := w5
                replace hcc : zC _ := trivial
                replace hac : zC _ := hac
                replace hWn : zC _ := hWn
                replace hA2 : zC _ := trivial
                replace hf : zC _ := trivial
                replace hgl : zC _ := trivial
                replace hAl : zC _ := hAl
                repeat' (first | (refine zF fun K hK => ?_) | (refine zB fun K hK => ?_; simp (disch := omega) [go_sem, *, zN, ZT, zQ, zP]) | (apply zC.out hK; clear hK K; try with_reducible dsimp only [zD]) | (apply zC.out ht; clear ht hf Kt Kf) | (clear hK K; apply zC.out hK; clear hK K; try with_reducible dsimp only [zD]) | (refine zJ ?_) | (refine zK ?_; simp only [zD]) | (refine zU ?_; simp only [zD, zO, if_true, if_false, Nat.reduceEqDiff]) | (refine Z4 (fun hc => ?_) (fun hc => ?_) <;> (try simp only [decide_eq_true_eq, decide_eq_false_iff_not] at hc) <;> (try (exfalso; omega)) <;> (try simp (disch := omega) [go_sem, *, zN, zP])) | (refine zH fun Kt Kf ht hf => ?_; simp (disch := omega) [go_sem, *]; try (refine ⟨fun hc => ?_, fun hc => ?_⟩ <;> try (exfalso; omega))))
                have hs2 := hst.out
                rw [hAl.out] at hs2
                simp only [z8, List.append_assoc, List.singleton_append, List.length_singleton] at hs2
                have hXn : (AA ++ [ZH (p1, p2) f x []]).map zT ≠ [] := by simp
                have hXl : (AA ++ [ZH (p1, p2) f x []]).length = W.length := by simp; omega
                exact zV (by rw [ZP hXn, List.length_map, hXl]; simp (disch := omega) [go_sem]) (Sub.refl _) ⟨i + 1, _, q2, AA ++ [ZH (p1, p2) f x []], _, by omega, by omega, by omega, by omega, hw5.out.symm, by rw [zM, Z2 hXn, ← hs2], fun z hz => by rw [zG _ _ _ _ (by omega)]; exact w7.out z hz, rfl⟩ (by simp [zf, go_sem]; omega)
              · rw [if_neg (fun e => hc (Option.some.inj e))] at hsn
                have hw5 : (pcs (L.take (i + 1))).map (fun q => ZH (p1, p2) q.1 q.2 []) = W ++ [ZH (p1, p2) x x []] := by
                  rw [hsn, w5, List.map_append, List.map_singleton]
                have hap := fun nm => ap_ln (nm := nm) (m := q2) (V := W) (X := [ZH (p1, p2) x x []]) (h := H') (b := false) (c := false) w6 (by simp) (by simp; omega)
                rw [show [ZH (p1, p2) x x []].map zT = [.agg [iv .i64 1, sv p1, sv p2, sv ByteArray.empty, iv .i64 x, iv .i64 x, iv .i64 1, .fslc true true 0 []]] from rfl] at hap
                replace hw5 : zC _ := hw5
                replace hap : zC _ := hap
                replace hsn : zC _ := trivial
                replace htk : zC _ := trivial
                replace w5 : zC _ := trivial
                replace w6 : zC _ := trivial
                replace hgl : zC _ := trivial
                repeat' (first | (refine zF fun K hK => ?_) | (refine zB fun K hK => ?_; simp (disch := omega) [go_sem, *, zQ, zP]) | (apply zC.out hK; clear hK K; try with_reducible dsimp only [zD]) | (apply zC.out ht; clear ht hf Kt Kf) | (apply zC.out hf; clear ht hf Kt Kf) | (refine zJ ?_) | (refine zK ?_; simp only [zD]) | (refine Z4 (fun hc => ?_) (fun hc => ?_) <;> (try simp only [decide_eq_true_eq, decide_eq_false_iff_not] at hc) <;> (try (exfalso; omega)) <;> (try simp (disch := omega) [go_sem, *, zN, zP])) | (refine zH fun Kt Kf ht hf => ?_; simp (disch := omega) [go_sem, *]; try (refine ⟨fun hc => ?_, fun hc => ?_⟩ <;> try (exfalso; omega))))
                rw [hap.out]
                replace hap : zC _ := trivial
                have s8 := zM (H'.upd q2 none) (n4 + 1 + 5 + 12 + 9) (acO ((W ++ [ZH (p1, p2) x x []]).map zT))
                have s10 : ∀ z, z < n → ((H'.upd q2 none).upd (n4 + 1 + 5 + 12 + 9) (acO ((W ++ [ZH (p1, p2) x x []]).map zT))) z = h z := fun z hz => by rw [zG _ _ _ _ (by omega), zG _ _ _ _ (by omega)]; exact w7.out z hz
                generalize (H'.upd q2 none).upd (n4 + 1 + 5 + 12 + 9) (acO ((W ++ [ZH (p1, p2) x x []]).map zT)) = H7 at *
                generalize hWW : W ++ [ZH (p1, p2) x x []] = WW at *
                replace s8 : zC _ := s8
                replace s10 : zC _ := s10
                simp (disch := omega) [go_sem]
                repeat' (first | (refine zB fun K hK => ?_; simp (disch := omega) [go_sem, *, zN]) | (apply zC.out hK; clear hK K; try with_reducible dsimp only [zD]))
                exact zV (by simp (disch := omega) [go_sem]) (Sub.refl _) ⟨i + 1, _, n4 + 1 + 5 + 12 + 9, WW, H7, by omega, by omega, by omega, by omega, hw5.out.symm, s8.out, s10.out, rfl⟩ (by simp [zf, go_sem]; omega)
          · have hii : i = L.length := by omega
            subst hii
            rw [List.take_length] at w5
            rw [← w5] at ho
            have hPl : pcs L ≠ [] := fun e2 => by obtain ⟨f, hf⟩ := (pcs_ok L).last _ he.out; rw [e2] at hf; simp at hf
            have hW0 : W ≠ [] := by rw [w5]; simpa using hPl
            have hWn : W.map zT ≠ [] := by simpa using hW0
            have hac : acV 8 q2 (W.map zT) = .slc q2 0 W.length 8 := by rw [ZP hWn, List.length_map]
            rw [Z2 hWn] at w6
            rw [hac]
            replace ho : zC _ := ho
            replace w5 : zC _ := trivial
            replace w6 : zC _ := w6
            replace w7 : zC _ := w7
            replace hac : zC _ := trivial
            replace hWn : zC _ := trivial
            replace hW0 : zC _ := hW0
            replace hPl : zC _ := trivial
            repeat' (first | (refine zF fun K hK => ?_) | (refine zB fun K hK => ?_; simp (disch := omega) [go_sem, *]) | (apply zC.out hK; clear hK K; try with_reducible dsimp only [zD]) | (apply zC.out hf; clear ht hf Kt Kf) | (clear hK K; apply zC.out hK; clear hK K; try with_reducible dsimp only [zD]) | (refine zU ?_; simp only [zD, zO, if_true]) | (refine zH fun Kt Kf ht hf => ?_; simp (disch := omega) [go_sem, *]; try (refine ⟨fun hc => ?_, fun hc => ?_⟩ <;> try (exfalso; omega))))
            refine zg ?_
            try dsimp only [zD, zO]
            refine ⟨by simp, _, (by first | rfl | (simp (disch := omega) [go_sem, zG] <;> rfl)), ?_⟩
            rw [ho.out]
            refine ret_ln w6.out hW0.out ?_
            exact zc ⟨fun k hk => by rw [zG _ _ _ _ (by omega)]; exact w7.out k hk, QV _ _, rfl, by simp, by simp⟩
end Go.AM
namespace Go.AM
open Go.Proofs Cw Du
set_option maxRecDepth 10000
set_option maxHeartbeats 4000000
theorem runs_spec (day : Int) (fu : Bool) (p : Pr) (L : List Int) (hne : L ≠ []) (hA : Asc L) (h0 : ∀ d ∈ L, 0 ≤ d ∧ d ≤ 400) (hl : L.length ≤ 401) :
    zL Tryz.prog 68 [.agg [iv .i64 day, sv p.1, sv p.2], .fslc false fu 1 (L.map (iv .i64))] (lnF (qP p L)) := by
  intro h n
  obtain ⟨p1, p2⟩ := p
  obtain ⟨a, r, rfl⟩ : ∃ a r, L = a :: r := by cases L with | nil => exact absurd rfl hne | cons a r => exact ⟨a, r, rfl⟩
  obtain ⟨e, he⟩ : ∃ e, (a :: r).getLast? = some e := by
    cases h : (a :: r).getLast? with
    | none => rw [List.getLast?_eq_none_iff] at h; cases h
    | some e => exact ⟨e, rfl⟩
  have hae := QG hA e (List.mem_of_getLast? he)
  have ha := h0 a (by simp)
  have hee := h0 e (List.mem_of_getLast? he)
  have hG := gps_eq (a :: r) hA
  have hO : qP (p1, p2) (a :: r) = if (ZY (a :: r)).length ≤ 20 then [ZH (p1, p2) a e (ZY (a :: r))] else (pcs (a :: r)).map fun q => ZH (p1, p2) q.1 q.2 [] := by unfold qP; rw [he]; rfl
  have hie : (a :: r)[r.length]? = some e := by rw [List.getLast?_eq_getElem?] at he; simpa using he
  have hlen : (a :: r).length = r.length + 1 := rfl
  have hg0 : ∀ h : 0 < (a :: r).length, (a :: r)[0] = a := fun _ => rfl
  have hge : ∀ h : (a :: r).length - 1 < (a :: r).length, (a :: r)[(a :: r).length - 1] = e := fun h => Option.some.inj ((List.getElem?_eq_getElem h).symm.trans hie)
  refine zS.pure (zS.entry (by kernel_rfl) fun hb _ => zX Tryz.func68 rfl (by kernel_rfl) (by simp [Tryz.ntmps68]) ?_)
  generalize hL : a :: r = L at *
  replace hG : zC _ := hG
  replace hO : zC _ := hO
  replace hA : zC _ := hA
  replace h0 : zC _ := h0
  replace he : zC _ := he
  replace hL : zC _ := hL
  clear hne
  repeat' (first | (refine zF fun K hK => ?_) | (refine zB fun K hK => ?_; simp (disch := omega) [go_sem, *, Tryz.ntmps68]) | (apply zC.out hK; clear hK K; try with_reducible dsimp only [zD]))
  refine Z1 (t := 2) (m := n) (c := [iv .i64 day, sv p1, sv p2]) (by simp (disch := omega) only [zM]) (by simp [go_sem]) ?_
  repeat' (first | (refine zF fun K hK => ?_) | (refine zB fun K hK => ?_; simp (disch := omega) [go_sem, *, zN, zG, Zp, zh, ZT, zQ, zW, zP, zk]) | (refine jm (by simp [go_sem]) (by simp (disch := omega) [go_sem, *]; first | exact rfl | exact ⟨rfl, rfl, rfl⟩) ?_; try simp only [zm, JA]) | (refine jm (by simp [go_sem]) (by (try simp (disch := omega) [go_sem, *]); first | exact rfl | exact ⟨rfl, rfl, rfl⟩) ?_; try simp only [zm, JA]) | (refine ZR ?_) | (apply zC.out hK; clear hK K; try with_reducible dsimp only [zD]) | (apply zC.out ht; clear ht hf Kt Kf) | (apply zC.out hf; clear ht hf Kt Kf) | (clear hK K; apply zC.out hK; clear hK K; try with_reducible dsimp only [zD]) | (clear hK K; clear hK K; apply zC.out hK; clear hK K; try with_reducible dsimp only [zD]) | (refine zJ ?_) | (refine zK ?_; simp only [zD, zO]) | (refine zU ?_; simp only [zD, zO, if_true, if_false, Nat.reduceEqDiff]) | (with_reducible show nextK _ _ _ _ _ _ _; simp (disch := omega) [go_sem, *, zN, zG, Zp, zh, ZT, zQ, zW, zP, zk]) | (refine Z4 (fun hc => ?_) (fun hc => ?_) <;> (try simp only [Bool.not_eq_true', Bool.not_eq_false', Bool.not_eq_eq_eq_not, Bool.not_true, Bool.not_false, decide_eq_true_eq, decide_eq_false_iff_not, Int.not_lt, Int.not_le] at hc) <;> (try (exfalso; omega)) <;> (try simp (disch := omega) [go_sem, *, zN, zG, Zp, zh, ZT, zQ, zW, zP, zk])) | (refine zH fun Kt Kf ht hf => ?_; simp (disch := omega) [go_sem, *, zN, zG, Zp, zh, ZT, zQ, zW, zP, zk]; try (refine ⟨fun hc => ?_, fun hc => ?_⟩ <;> try (exfalso; omega))))
  refine J5 [1, 2] [10, 12, 14, 15, 17, 21] mixed (by kernel_rfl) (fun x hx => by simp at hx; rcases hx with rfl | rfl; exact .inr ⟨false, fu, 1, L.map (iv .i64), by simp [go_sem]⟩; exact .inl ⟨[iv .i64 day, sv p1, sv p2], by simp [go_sem]⟩) fun K hK => ?_
  simp (disch := omega) [go_sem, hg0, hge, zN, zP]
  obtain ⟨B, hB⟩ : ∃ B, B = n + 2 + 1 + 14 := ⟨_, rfl⟩
  obtain ⟨H3, hH3⟩ : ∃ H3, H3 = (((h.upd n (some (.cells [iv .i64 day, sv p1, sv p2]))).upd n none).upd B (some (.cells [iv .i64 0, sv ByteArray.empty, sv ByteArray.empty, sv ByteArray.empty, iv .i64 0, iv .i64 0, iv .i64 0, .fslc true true 0 []]))).upd B (some (.cells [.c (.int .i64 1), sv p1, sv p2, sv ByteArray.empty, iv .i64 a, iv .i64 e, .c (.int .i64 1), .fslc true true 0 []])) := ⟨_, rfl⟩
  have hfr : zC (∀ x, x < n → H3 x = h x) := fun x hx => by rw [hH3, hB]; simp (disch := omega) only [zG]
  have hno : ∀ x, B < x → H3 x = none := fun x hx => by rw [hH3, hB]; simp (disch := omega) only [zG]; exact hb.none (by omega)
  have hb0 : H3 B = some (.cells [iv .i64 1, sv p1, sv p2, sv ByteArray.empty, iv .i64 a, iv .i64 e, iv .i64 1, .fslc true true 0 []]) := by rw [hH3]; exact zM _ _ _
  simp only [← hB, ← hH3]
  have hB1 : n + 15 ≤ B := by omega
  have hB2 : B ≤ n + 20 := by omega
  have hB3 : B = n + 2 + 1 + 14 := hB
  replace hH3 : zC _ := trivial
  replace hB : zC _ := hB
  replace hB3 : zC _ := hB3
  replace hno : zC _ := hno
  repeat' (first | (refine zF fun K hK => ?_) | (refine zB fun K hK => ?_; simp (disch := omega) [go_sem, *]) | (apply zC.out hK; clear hK K; try with_reducible dsimp only [zD]) | (refine zJ ?_))
  refine za (fun s' => ∃ (i n4 qe q2 : Nat) (E : List Int) (W : List Lin) (H' : zI), B + 1 ≤ n4 ∧ i ≤ L.length ∧ B < qe ∧ qe < n4 ∧ B < q2 ∧ q2 < n4 ∧ qe ≠ q2 ∧ E = gps (L.take i) ∧ W = (pcs (L.take i)).map (fun q => ZH (p1, p2) q.1 q.2 []) ∧ H' B = some (.cells [iv .i64 1, sv p1, sv p2, sv ByteArray.empty, iv .i64 a, iv .i64 e, iv .i64 1, .fslc true true 0 []]) ∧ H' qe = acO (E.map (iv .i64)) ∧ H' q2 = acO (W.map zT) ∧ (∀ x, x < n → H' x = h x) ∧ (∀ d ∈ E, 0 ≤ d ∧ d ≤ 400) ∧ E.length ≤ 401 * i ∧
      s' = ⟨99, [(1, .fslc false fu 1 (L.map (iv .i64))), (2, .fptr [iv .i64 day, sv p1, sv p2]), (5, acV 1 qe (E.map (iv .i64))), (6, .ptr B 0), (7, acV 8 q2 (W.map zT)), (8, iv .i64 i)], H', n4⟩)
    (fun s' => L.length - (zf s' 8).toNat) ?_ ?_
  · exact zb (by simp [go_sem, jx]) (Sub.refl _) ⟨0, _, B + 1, B + 2, [], [], H3, by (try simp only); omega, by omega, by omega, by (try simp only); have := hB3.out; omega, by omega, by (try simp only); have := hB3.out; omega, by omega, rfl, rfl, hb0, hno.out _ (by omega), hno.out _ (by omega), hfr.out, fun d hd => by simp at hd, by simp, rfl⟩
  · rintro s' ⟨i, n4, qe, q2, E, W, H', w1, w2, w3, w4, w5, w6, w7, wE, wW, w8, w9, w10, w11, w12, w13, rfl⟩
    by_cases hlt : i < L.length
    · obtain ⟨x, hx⟩ : ∃ x, L[i] = x := ⟨_, rfl⟩
      have htk : L.take (i + 1) = L.take i ++ [x] := by rw [List.take_succ_eq_append_getElem hlt, hx]
      have hsn := pcs_snoc (L.take i) x
      have hgn := gps_snoc (L.take i) x
      rw [← htk] at hsn hgn
      have hWl : W.length ≤ 401 := by rw [wW, List.length_map]; have := pcs_len (L.take i); rw [List.length_take] at this; omega
      have hEl : E.length ≤ 401 * 401 := by have : 401 * i ≤ 401 * 401 := Nat.mul_le_mul (by omega) (by omega); omega
      have hxb := h0.out x (hx ▸ List.getElem_mem hlt)
      replace w11 : zC _ := w11
      replace w12 : zC _ := w12
      replace w13 : zC _ := w13
      replace w9 : zC _ := w9
      replace w10 : zC _ := w10
      by_cases hi0 : i = 0
      · subst hi0
        obtain rfl : a = x := (hg0 hlt).symm.trans hx
        rw [List.take_zero] at hgn hsn wE wW
        have hgE : gps (L.take (0 + 1)) = E := by rw [hgn, wE]; simp
        have hw5 : (pcs (L.take (0 + 1))).map (fun q => ZH (p1, p2) q.1 q.2 []) = W ++ [ZH (p1, p2) a a []] := by rw [hsn, wW]; simp [pcs]
        have hap := fun nm => ap_ln (nm := nm) (m := q2) (V := W) (X := [ZH (p1, p2) a a []]) (h := H') (b := false) (c := false) w10.out (by simp) (by simp; omega)
        rw [show [ZH (p1, p2) a a []].map zT = [.agg [iv .i64 1, sv p1, sv p2, sv ByteArray.empty, iv .i64 a, iv .i64 a, iv .i64 1, .fslc true true 0 []]] from rfl] at hap
        replace hgE : zC _ := hgE
        replace hw5 : zC _ := hw5
        replace hap : zC _ := hap
        replace hsn : zC _ := trivial
        replace hgn : zC _ := trivial
        replace htk : zC _ := trivial
        replace wE : zC _ := trivial
        replace wW : zC _ := trivial
        repeat' (first | (refine zF fun K hK => ?_) | (refine zB fun K hK => ?_; simp (disch := omega) [go_sem, *, zQ]) | (apply zC.out hK; clear hK K; try with_reducible dsimp only [zD]) | (apply zC.out ht; clear ht hf Kt Kf) | (refine zJ ?_) | (refine zK ?_; simp only [zD]) | (refine zH fun Kt Kf ht hf => ?_; simp (disch := omega) [go_sem, *]; try (refine ⟨fun hc => ?_, fun hc => ?_⟩ <;> try (exfalso; omega))))
        refine zq mixed (by kernel_rfl) fun K hK => ?_
        simp (disch := omega) [go_sem, *]
        repeat' (first | (refine zF fun K hK => ?_) | (refine zB fun K hK => ?_; simp (disch := omega) [go_sem, *, zN, zW]) | (refine jm (by simp [go_sem]) (by simp (disch := omega) [go_sem, *]; first | exact rfl | exact ⟨rfl, rfl, rfl⟩) ?_; try simp only [zm]) | (refine ZR ?_) | (apply zC.out hK; clear hK K; try with_reducible dsimp only [zD]) | (apply zC.out hf; clear ht hf Kt Kf) | (refine zJ ?_) | (refine zK ?_; simp only [zD]) | (refine zH fun Kt Kf ht hf => ?_; simp (disch := omega) [go_sem, *]; try (refine ⟨fun hc => ?_, fun hc => ?_⟩ <;> try (exfalso; omega))))
        refine zz 1 ?_
        unfold zx
        repeat' (first | (refine zF fun K hK => ?_) | (refine zB fun K hK => ?_; simp (disch := omega) [go_sem, *, zW]) | (apply zC.out hK; clear hK K; try with_reducible dsimp only [zD]) | (apply zC.out hf; clear ht hf Kt Kf) | (clear hK K; apply zC.out hK; clear hK K; try with_reducible dsimp only [zD]) | (refine zU ?_; simp only [zD, zO, if_true, if_false, Nat.reduceEqDiff]) | (refine zH fun Kt Kf ht hf => ?_; simp (disch := omega) [go_sem, *]; try (refine ⟨fun hc => ?_, fun hc => ?_⟩ <;> try (exfalso; omega))))
        refine J5 [1, 2] [76, 78, 80, 82, 84, 86] mixed (by kernel_rfl) (fun x hx => by simp at hx; rcases hx with rfl | rfl; exact .inr ⟨false, fu, 1, L.map (iv .i64), by simp [go_sem]⟩; exact .inl ⟨[iv .i64 day, sv p1, sv p2], by simp [go_sem]⟩) fun K hK => ?_
        simp (disch := omega) [go_sem, hx, hap.out]
        repeat' (first | (refine zB fun K hK => ?_; simp (disch := omega) [go_sem, *, zN]) | (apply zC.out hK; clear hK K; try with_reducible dsimp only [zD]))
        exact zV (by simp (disch := omega) [go_sem]) (Sub.refl _) ⟨0 + 1, _, qe, n4 + 4 + 16 + 8 + 6 + 15, E, W ++ [ZH (p1, p2) a a []], _, by omega, by omega, by omega, by omega, by omega, by omega, by omega, hgE.out.symm, hw5.out.symm, by rw [zG _ _ _ _ (by omega), zG _ _ _ _ (by omega)]; exact w8, by rw [zG _ _ _ _ (by omega), zG _ _ _ _ (by omega)]; exact w9.out, by rw [zM, List.map_append]; rfl, fun z hz => by rw [zG _ _ _ _ (by omega), zG _ _ _ _ (by omega)]; exact w11.out z hz, w12.out, by have := w13.out; omega, rfl⟩ (by simp [zf, go_sem]; omega)
      · obtain ⟨y, hy⟩ : ∃ y, L[i - 1] = y := ⟨_, rfl⟩
        have hyb := h0.out y (hy ▸ List.getElem_mem (by omega))
        have hgl : (L.take i).getLast? = some y := by
          rw [List.getLast?_eq_getElem?, List.length_take, Nat.min_eq_left (by omega), List.getElem?_take_of_lt (by omega), List.getElem?_eq_getElem (by omega), hy]
        have hyx : y < x := by
          have := List.pairwise_iff_getElem.1 hA.out (i - 1) i (by omega) hlt (by omega)
          rw [hy, hx] at this; exact this
        rw [hgl] at hsn hgn
        have hyg : ∀ h : i - 1 < L.length, L[i - 1] = y := fun _ => hy
        have hi1 : ((i : Int) - 1).toNat = i - 1 := by omega
        have hmx : (if 1 < (i : Int) then (i : Int) - 1 else 0) = (i : Int) - 1 := by split <;> omega
        have hip : 0 < i := by omega
        by_cases hc : y = x - 1
        · rw [if_pos (by rw [hc])] at hsn
          have hgE : gps (L.take (i + 1)) = E := by rw [hgn, wE]; simp only; rw [show (x - y - 1).toNat = 0 by omega]; simp [dys]
          obtain ⟨f, hf⟩ := (pcs_ok (L.take i)).last _ hgl
          obtain ⟨A, hA2⟩ := List.getLast?_eq_some_iff.1 hf
          rw [hA2] at hsn wW
          simp only [List.dropLast_concat, List.getLast?_append, List.getLast?_singleton, Option.some_or, Option.getD_some] at hsn
          rw [List.map_append, List.map_singleton] at wW
          have hw5 : (pcs (L.take (i + 1))).map (fun q => ZH (p1, p2) q.1 q.2 []) = A.map (fun q => ZH (p1, p2) q.1 q.2 []) ++ [ZH (p1, p2) f x []] := by
            rw [hsn, List.map_append, List.map_singleton]
          generalize A.map (fun q => ZH (p1, p2) q.1 q.2 []) = AA at *
          have hst := ln_set5 (p1, p2) AA f y x
          rw [← wW] at hst
          have hWn : W.map zT ≠ [] := by rw [wW]; simp
          have hAl : AA.length = W.length - 1 := by rw [wW]; simp
          have hAw : AA.length + 1 = W.length := by rw [wW]; simp
          have hac : acV 8 q2 (W.map zT) = .slc q2 0 W.length 8 := by rw [ZP hWn, List.length_map]
          have v10 := w10.out
          rw [Z2 hWn] at v10
          have hcl := QX W
          rw [hac]
          generalize hcc : flat (W.map zT) = cc at *
          replace hst : zC _ := hst
          replace hw5 : zC _ := hw5
          replace hgE : zC _ := hgE
          replace hsn : zC _ := trivial
          replace hgn : zC _ := trivial
          replace htk : zC _ := trivial
          replace wE : zC _ := trivial
          replace wW : zC _ := trivial
          replace w10 : zC _ := trivial
          replace hcc : zC _ := trivial
          replace hac : zC _ := trivial
          replace hWn : zC _ := trivial
          replace hA2 : zC _ := trivial
          replace hf : zC _ := trivial
          replace hgl : zC _ := trivial
          replace hAl : zC _ := hAl
          have hyx2 : x = y + 1 := by omega
          subst hyx2
          replace hc : zC _ := trivial
          repeat' (first | (refine zF fun K hK => ?_) | (refine zB fun K hK => ?_; simp (disch := omega) [go_sem, *, zQ]) | (apply zC.out hK; clear hK K; try with_reducible dsimp only [zD]) | (apply zC.out ht; clear ht hf Kt Kf) | (refine zJ ?_) | (refine zK ?_; simp only [zD]) | (refine zH fun Kt Kf ht hf => ?_; simp (disch := omega) [go_sem, *]; try (refine ⟨fun hc => ?_, fun hc => ?_⟩ <;> try (exfalso; omega))))
          refine zq mixed (by kernel_rfl) fun K hK => ?_
          simp (disch := omega) [go_sem, *]
          repeat' (first | (refine zF fun K hK => ?_) | (refine zB fun K hK => ?_; simp (disch := omega) [go_sem, *, zN, ZT, zQ, zP]) | (refine jm (by simp [go_sem]) (by simp (disch := omega) [go_sem, *, zN, zP]; first | exact rfl | exact ⟨rfl, rfl, rfl⟩) ?_; try simp only [zm]) | (refine ZR ?_) | (apply zC.out hK; clear hK K; try with_reducible dsimp only [zD]) | (apply zC.out ht; clear ht hf Kt Kf) | (clear hK K; apply zC.out hK; clear hK K; try with_reducible dsimp only [zD]) | (refine zU ?_; simp only [zD, zO, if_true, if_false, Nat.reduceEqDiff]) | (refine zH fun Kt Kf ht hf => ?_; simp (disch := omega) [go_sem, *]; try (refine ⟨fun hc => ?_, fun hc => ?_⟩ <;> try (exfalso; omega))))
          have hs2 := hst.out
          rw [hAl.out] at hs2
          simp only [z8, List.append_assoc, List.singleton_append, List.length_singleton] at hs2
          have hXn : (AA ++ [ZH (p1, p2) f (y + 1) []]).map zT ≠ [] := by simp
          have hXl : (AA ++ [ZH (p1, p2) f (y + 1) []]).length = W.length := by simp; omega
          exact zV (by rw [ZP hXn, List.length_map, hXl]; simp (disch := omega) [go_sem]) (Sub.refl _) ⟨i + 1, _, qe, q2, E, AA ++ [ZH (p1, p2) f (y + 1) []], _, by omega, by omega, by omega, by omega, by omega, by omega, by omega, hgE.out.symm, hw5.out.symm, by rw [zG _ _ _ _ (by omega)]; exact w8, by rw [zG _ _ _ _ (by omega)]; exact w9.out, by rw [zM, Z2 hXn, ← hs2], fun z hz => by rw [zG _ _ _ _ (by omega)]; exact w11.out z hz, w12.out, by have := w13.out; omega, rfl⟩ (by simp [zf, go_sem]; omega)
        · rw [if_neg (fun e => hc (Option.some.inj e))] at hsn
          have hw5 : (pcs (L.take (i + 1))).map (fun q => ZH (p1, p2) q.1 q.2 []) = W ++ [ZH (p1, p2) x x []] := by
            rw [hsn, wW, List.map_append, List.map_singleton]
          have hgE : gps (L.take (i + 1)) = E ++ dys (y + 1) (x - y - 1).toNat := by rw [hgn, wE]
          replace hgE : zC _ := hgE
          replace hw5 : zC _ := hw5
          replace hsn : zC _ := trivial
          replace hgn : zC _ := trivial
          replace htk : zC _ := trivial
          replace wE : zC _ := trivial
          replace wW : zC _ := trivial
          replace hgl : zC _ := trivial
          have hyx2 : ¬ x = y + 1 := by omega
          repeat' (first | (refine zF fun K hK => ?_) | (refine zB fun K hK => ?_; simp (disch := omega) [go_sem, *, zQ]) | (apply zC.out hK; clear hK K; try with_reducible dsimp only [zD]) | (apply zC.out ht; clear ht hf Kt Kf) | (refine zJ ?_) | (refine zK ?_; simp only [zD]) | (refine zH fun Kt Kf ht hf => ?_; simp (disch := omega) [go_sem, *]; try (refine ⟨fun hc => ?_, fun hc => ?_⟩ <;> try (exfalso; omega))))
          refine zq mixed (by kernel_rfl) fun K hK => ?_
          simp (disch := omega) [go_sem, *]
          repeat' (first | (refine zF fun K hK => ?_) | (refine zB fun K hK => ?_; simp (disch := omega) [go_sem, *, zN, zP]) | (refine jm (by simp [go_sem]) (by simp (disch := omega) [go_sem, *, zN, zP]; first | exact rfl | exact ⟨rfl, rfl, rfl⟩) ?_; try simp only [zm]) | (refine ZR ?_) | (apply zC.out hK; clear hK K; try with_reducible dsimp only [zD]) | (apply zC.out hf; clear ht hf Kt Kf) | (refine zJ ?_) | (refine zK ?_; simp only [zD]) | (refine zH fun Kt Kf ht hf => ?_; simp (disch := omega) [go_sem, *]; try (refine ⟨fun hc => ?_, fun hc => ?_⟩ <;> try (exfalso; omega))))
          refine za (fun s' => ∃ (d : Int) (n5 q5 : Nat) (E2 : List Int) (H5 : zI), n4 ≤ n5 ∧ y + 1 ≤ d ∧ d ≤ x ∧ B < q5 ∧ q5 < n5 ∧ q5 ≠ q2 ∧ E2 = E ++ dys (y + 1) (d - (y + 1)).toNat ∧ H5 B = H' B ∧ H5 q2 = H' q2 ∧ H5 q5 = acO (E2.map (iv .i64)) ∧ (∀ z, z < n → H5 z = h z) ∧
              s' = ⟨99, [(1, .fslc false fu 1 (L.map (iv .i64))), (2, .fptr [iv .i64 day, sv p1, sv p2]), (5, acV 1 q5 (E2.map (iv .i64))), (6, .ptr B 0), (7, acV 8 q2 (W.map zT)), (8, iv .i64 i), (9, iv .i64 d)], H5, n5⟩)
            (fun s' => (x - zf s' 9).toNat) ?_ ?_
          · exact zb (by simp [go_sem]) (Sub.refl _) ⟨y + 1, _, qe, E, H', by omega, by omega, by omega, by omega, by omega, by omega, by rw [Int.sub_self]; simp [dys], rfl, rfl, w9.out, w11.out, rfl⟩
          · rintro s' ⟨d, n5, q5, E2, H5, v1, v2, v3, v4, v5, v6, v7, v8, v9, v10, v11, rfl⟩
            have hE2l : E2.length ≤ 401 * 401 + 401 := by rw [v7, List.length_append, JV]; omega
            replace v10 : zC _ := v10
            replace v11 : zC _ := v11
            replace v8 : zC _ := v8
            replace v9 : zC _ := v9
            by_cases hdx : d < x
            · have hap := fun nm => ap_int (nm := nm) (m := q5) (V := E2) (x := d) (h := H5) (b := false) (c := false) v10.out (by omega)
              have hEE : E2 ++ [d] = E ++ dys (y + 1) (d + 1 - (y + 1)).toNat := by
                rw [v7, List.append_assoc, ← dys_to (y + 1) d v2]
              replace hEE : zC _ := hEE
              replace hap : zC _ := hap
              replace v7 : zC _ := trivial
              repeat' (first | (refine zF fun K hK => ?_) | (refine zB fun K hK => ?_; simp (disch := omega) [go_sem, *, zP]) | (apply zC.out hK; clear hK K; try with_reducible dsimp only [zD]) | (apply zC.out ht; clear ht hf Kt Kf) | (refine zJ ?_) | (refine zK ?_; simp only [zD]) | (refine zH fun Kt Kf ht hf => ?_; simp (disch := omega) [go_sem, *]; try (refine ⟨fun hc => ?_, fun hc => ?_⟩ <;> try (exfalso; omega))))
              rw [hap.out]
              replace hap : zC _ := trivial
              have s8 := zM (H5.upd q5 none) (n5 + 6 + 3) (acO ((E2 ++ [d]).map (iv .i64)))
              have sB : ((H5.upd q5 none).upd (n5 + 6 + 3) (acO ((E2 ++ [d]).map (iv .i64)))) B = H' B := by rw [zG _ _ _ _ (by omega), zG _ _ _ _ (by omega)]; exact v8.out
              have sq : ((H5.upd q5 none).upd (n5 + 6 + 3) (acO ((E2 ++ [d]).map (iv .i64)))) q2 = H' q2 := by rw [zG _ _ _ _ (by omega), zG _ _ _ _ (by omega)]; exact v9.out
              have s10 : ∀ z, z < n → ((H5.upd q5 none).upd (n5 + 6 + 3) (acO ((E2 ++ [d]).map (iv .i64)))) z = h z := fun z hz => by rw [zG _ _ _ _ (by omega), zG _ _ _ _ (by omega)]; exact v11.out z hz
              generalize (H5.upd q5 none).upd (n5 + 6 + 3) (acO ((E2 ++ [d]).map (iv .i64))) = H7 at *
              generalize hEQ : E2 ++ [d] = EE at *
              replace s8 : zC _ := s8
              replace sB : zC _ := sB
              replace sq : zC _ := sq
              replace s10 : zC _ := s10
              simp (disch := omega) [go_sem]
              repeat' (first | (refine zB fun K hK => ?_; simp (disch := omega) [go_sem, *, zN]) | (apply zC.out hK; clear hK K; try with_reducible dsimp only [zD]))
              exact zV (by simp (disch := omega) [go_sem]) (Sub.refl _) ⟨d + 1, _, n5 + 6 + 3, EE, H7, by omega, by omega, by omega, by omega, by omega, by omega, hEE.out, sB.out, sq.out, s8.out, s10.out, rfl⟩ (by simp [zf, go_sem]; omega)
            · have hdd : d = x := by omega
              subst hdd
              rw [show (d - (y + 1)).toNat = (d - y - 1).toNat by omega, ← hgE.out] at v7
              have hg13 : (gps (L.take (i + 1))).length ≤ 401 * (i + 1) := by
                rw [hgE.out, List.length_append, JV]; have := w13.out; omega
              have hg12 : ∀ z ∈ gps (L.take (i + 1)), 0 ≤ z ∧ z ≤ 400 := fun z hz => by
                rw [hgE.out, List.mem_append, jy] at hz
                rcases hz with hz | hz
                · exact w12.out z hz
                · omega
              replace hgE : zC (gps (L.take (i + 1)) = gps (L.take (i + 1))) := rfl
              subst v7
              have hap := fun nm => ap_ln (nm := nm) (m := q2) (V := W) (X := [ZH (p1, p2) d d []]) (h := H5) (b := false) (c := false) (v9.out.trans w10.out) (by simp) (by simp; omega)
              rw [show [ZH (p1, p2) d d []].map zT = [.agg [iv .i64 1, sv p1, sv p2, sv ByteArray.empty, iv .i64 d, iv .i64 d, iv .i64 1, .fslc true true 0 []]] from rfl] at hap
              have u8 := v8.out.trans w8
              replace u8 : zC _ := u8
              replace hap : zC _ := hap
              replace hg12 : zC _ := hg12
              replace hg13 : zC _ := hg13
              replace w8 : zC _ := trivial
              repeat' (first | (refine zF fun K hK => ?_) | (refine zB fun K hK => ?_; simp (disch := omega) [go_sem, *, zP]) | (apply zC.out hK; clear hK K; try with_reducible dsimp only [zD]) | (apply zC.out hf; clear ht hf Kt Kf) | (clear hK K; apply zC.out hK; clear hK K; try with_reducible dsimp only [zD]) | (refine zU ?_; simp only [zD, zO, if_true, if_false, Nat.reduceEqDiff]) | (refine zH fun Kt Kf ht hf => ?_; simp (disch := omega) [go_sem, *]; try (refine ⟨fun hc => ?_, fun hc => ?_⟩ <;> try (exfalso; omega))))
              refine J5 [1, 2] [76, 78, 80, 82, 84, 86] mixed (by kernel_rfl) (fun x hx => by simp at hx; rcases hx with rfl | rfl; exact .inr ⟨false, fu, 1, L.map (iv .i64), by simp [go_sem]⟩; exact .inl ⟨[iv .i64 day, sv p1, sv p2], by simp [go_sem]⟩) fun K hK => ?_
              simp (disch := omega) [go_sem, hx, hap.out, zP]
              repeat' (first | (refine zB fun K hK => ?_; simp (disch := omega) [go_sem, *, zN]) | (apply zC.out hK; clear hK K; try with_reducible dsimp only [zD]))
              exact zV (by simp (disch := omega) [go_sem]) (Sub.refl _) ⟨i + 1, _, q5, n5 + 6 + 15, gps (L.take (i + 1)), W ++ [ZH (p1, p2) d d []], _, by omega, by omega, by omega, by omega, by omega, by omega, by omega, hgE.out.symm, hw5.out.symm, by rw [zG _ _ _ _ (by omega), zG _ _ _ _ (by omega)]; exact u8.out, by rw [zG _ _ _ _ (by omega), zG _ _ _ _ (by omega)]; exact v10.out, by rw [zM, List.map_append]; rfl, fun z hz => by rw [zG _ _ _ _ (by omega), zG _ _ _ _ (by omega)]; exact v11.out z hz, hg12.out, hg13.out, rfl⟩ (by simp [zf, go_sem]; omega)
    · have hii : i = L.length := by omega
      subst hii
      rw [List.take_length] at wE wW
      rw [hG.out] at wE
      subst wE
      have hxl := fil_len L a (e + 1 - a).toNat
      have ho := hO.out
      replace w11 : zC _ := w11
      replace w12 : zC _ := trivial
      replace w13 : zC _ := trivial
      by_cases h20 : (ZY L).length ≤ 20
      · rw [if_pos h20] at ho
        replace ho : zC _ := ho
        replace wW : zC _ := trivial
        replace w10 : zC _ := trivial
        by_cases hE0 : ZY L = []
        · rw [hE0] at ho h20
          simp only [hE0, List.map_nil, jx]
          replace w9 : zC _ := trivial
          replace hE0 : zC _ := trivial
          repeat' (first | (refine zF fun K hK => ?_) | (refine zB fun K hK => ?_; simp (disch := omega) [go_sem, *, zP]) | (apply zC.out hK; clear hK K; try with_reducible dsimp only [zD]) | (apply zC.out ht; clear ht hf Kt Kf) | (apply zC.out hf; clear ht hf Kt Kf) | (clear hK K; apply zC.out hK; clear hK K; try with_reducible dsimp only [zD]) | (refine zU ?_; simp only [zD, zO, if_true]) | (refine zH fun Kt Kf ht hf => ?_; simp (disch := omega) [go_sem, *]; try (refine ⟨fun hc => ?_, fun hc => ?_⟩ <;> try (exfalso; omega))))
          refine zg ?_
          try dsimp only [zD, zO]
          refine ⟨by simp, _, (by first | rfl | (simp (disch := omega) [go_sem, zG] <;> rfl)), ?_⟩
          rw [ho.out]
          exact zc ⟨fun k hk => by rw [zG _ _ _ _ (by omega)]; exact w11.out k hk, by simp [go_sem, below, belowL, ZL], by rfl, by simp, by simp⟩
        · have hE1 : (ZY L).map (iv .i64) ≠ [] := by simpa using hE0
          have hac : acV 1 qe ((ZY L).map (iv .i64)) = .slc qe 0 (ZY L).length 1 := by rw [ZP hE1, List.length_map]
          rw [Z2 hE1, flat_iv] at w9
          rw [hac]
          refine ac_fzslc (t := 5) (m := qe) (len := (ZY L).length) (s := 1) false (by simp) w9 (by simp [go_sem]) (by simp) ?_
          rw [elemsI0]
          dsimp only
          generalize hH7 : H'.upd qe none = H7
          have g7 : H7 B = some (.cells [iv .i64 1, sv p1, sv p2, sv ByteArray.empty, iv .i64 a, iv .i64 e, iv .i64 1, .fslc true true 0 []]) := by rw [← hH7, zG _ _ _ _ (by omega)]; exact w8
          have g9 : ∀ x, x < n → H7 x = h x := fun x hx => by rw [← hH7, zG _ _ _ _ (by omega)]; exact w11.out x hx
          have hmk : zT (ZH (p1, p2) a e (ZY L)) = .agg [iv .i64 1, sv p1, sv p2, sv ByteArray.empty, iv .i64 a, iv .i64 e, iv .i64 1, .fslc false false 1 ((ZY L).map (iv .i64))] := by
            simp [zT, ZH, hE0]
          have hbl : belowL n ((ZY L).map (iv .i64)) := by rw [Zl]; intro z hz; obtain ⟨x, _, rfl⟩ := List.mem_map.1 hz; simp [below]
          clear hH7 w9 hac w8
          replace g9 : zC _ := g9
          replace hmk : zC _ := hmk
          replace hbl : zC _ := hbl
          replace hE1 : zC _ := trivial
          replace hE0 : zC _ := trivial
          repeat' (first | (refine zF fun K hK => ?_) | (refine zB fun K hK => ?_; simp (disch := omega) [go_sem, *, zP]) | (apply zC.out hK; clear hK K; try with_reducible dsimp only [zD]) | (apply zC.out ht; clear ht hf Kt Kf) | (apply zC.out hf; clear ht hf Kt Kf) | (clear hK K; apply zC.out hK; clear hK K; try with_reducible dsimp only [zD]) | (refine zU ?_; simp only [zD, zO, if_true]) | (refine zH fun Kt Kf ht hf => ?_; simp (disch := omega) [go_sem, *]; try (refine ⟨fun hc => ?_, fun hc => ?_⟩ <;> try (exfalso; omega))))
          refine zg ?_
          try dsimp only [zD, zO]
          refine ⟨by simp, _, (by first | rfl | (simp (disch := omega) [go_sem, zG] <;> rfl)), ?_⟩
          rw [ho.out]
          refine zc ⟨fun k hk => by rw [zG _ _ _ _ (by omega)]; exact g9.out k hk, ?_, ?_, by simp, by simp⟩
          · simp [go_sem, below, belowL, ZL, hbl.out]
          · simp [lnF, hmk.out, ZL, go_sem]
      · rw [if_neg h20, ← wW] at ho
        have hPl : pcs L ≠ [] := fun e2 => by obtain ⟨f, hf⟩ := (pcs_ok L).last _ he.out; rw [e2] at hf; simp at hf
        have hW0 : W ≠ [] := by rw [wW]; simpa using hPl
        have hWn : W.map zT ≠ [] := by simpa using hW0
        have hac : acV 8 q2 (W.map zT) = .slc q2 0 W.length 8 := by rw [ZP hWn, List.length_map]
        rw [Z2 hWn] at w10
        have hxl2 : ((ZY L).length : Int) > 20 := by omega
        have hE0 : ZY L ≠ [] := fun e => by rw [e] at hxl2; simp at hxl2
        have hE1 : (ZY L).map (iv .i64) ≠ [] := by simpa using hE0
        have hae2 : acV 1 qe ((ZY L).map (iv .i64)) = .slc qe 0 (ZY L).length 1 := by rw [ZP hE1, List.length_map]
        rw [hac, hae2]
        replace ho : zC _ := ho
        replace wW : zC _ := trivial
        replace w9 : zC _ := trivial
        replace w10 : zC _ := w10
        replace hac : zC _ := trivial
        replace hae2 : zC _ := trivial
        replace hWn : zC _ := trivial
        replace hW0 : zC _ := hW0
        replace hE0 : zC _ := trivial
        replace hE1 : zC _ := trivial
        replace hPl : zC _ := trivial
        replace h20 : zC _ := trivial
        generalize (ZY L).length = xl at *
        repeat' (first | (refine zF fun K hK => ?_) | (refine zB fun K hK => ?_; simp (disch := omega) [go_sem, *, zk]) | (apply zC.out hK; clear hK K; try with_reducible dsimp only [zD]) | (apply zC.out hf; clear ht hf Kt Kf) | (clear hK K; apply zC.out hK; clear hK K; try with_reducible dsimp only [zD]) | (refine zK ?_; simp only [zD]) | (refine zU ?_; simp only [zD, zO, if_true]) | (refine zH fun Kt Kf ht hf => ?_; simp (disch := omega) [go_sem, *]; try (refine ⟨fun hc => ?_, fun hc => ?_⟩ <;> try (exfalso; omega))))
        refine zg ?_
        try dsimp only [zD, zO]
        refine ⟨by simp, _, (by first | rfl | (simp (disch := omega) [go_sem, zG] <;> rfl)), ?_⟩
        rw [ho.out]
        refine ret_ln w10.out hW0.out ?_
        exact zc ⟨fun k hk => by rw [zG _ _ _ _ (by omega)]; exact w11.out k hk, QV _ _, rfl, by simp, by simp⟩
end Go.AM
namespace Go.AM
open Go.Proofs Cw Du Go.RowKit
set_option maxRecDepth 10000
set_option maxHeartbeats 4000000
theorem keyP : KeyE Tryz.prog 119 Zm keyA jr :=
  ⟨Qs, fun p q => keyEq_pair p q, ZK, JC, sameKey⟩
def vaI (b : Nat × List Int) : AV := acV 1 b.1 (b.2.map (iv .i64))
theorem key_len (y : Pr) : (cellsOf (keyA y)).length = 2 := rfl
theorem ap_P {nm m : Nat} {V : List Pr} {X : List Pr} {h : zI} {b c : Bool} (hm : h m = acO (V.map keyA)) (hX : X ≠ []) (hl : V.length + X.length ≤ 2000000) :
    ZF Tryz.prog nm 120 (acV 2 m (V.map keyA)) (.fslc b c 2 (X.map keyA)) h = some (acV 2 nm ((V ++ X).map keyA), (h.upd m none).upd nm (acO ((V ++ X).map keyA))) := by
  have := ap_ac (P := Tryz.prog) (T := 120) (e := 119) (s := 2) (by_ := 32) (z := .agg [sv ByteArray.empty, sv ByteArray.empty]) (by kernel_rfl) (by kernel_rfl) (by kernel_rfl) (by kernel_rfl) (by simp [cellsOf, AV.scalar]) (nm := nm) (m := m) (L := V.map keyA) (X := X.map keyA) (nl := b) (full := c) hm (fun y hy => by obtain ⟨o, _, rfl⟩ := List.mem_map.1 hy; exact key_len o) (by simpa using hX) (by simp; omega)
  rw [List.map_append]; exact this
theorem keysP (m : Nat) (h : zI) (n : Nat) (hmn : m < n) : APureAt Tryz.prog 61 [.map m] h n (.func (.func 120) [] [.fptr [.map m]]) := by
  refine zS.pure (zS.entry (by kernel_rfl) fun hb _ => zX Tryz.func61 rfl (by kernel_rfl) (by simp [Tryz.ntmps61]) ?_)
  refine zF fun K hK => ?_
  refine zB fun K2 hK2 => ?_
  simp (disch := omega) [go_sem, Tryz.ntmps61]
  refine hK2.out _ ?_
  clear hK2 K2
  dsimp only [zD]
  refine hK.out _ ?_
  clear hK K
  refine Z1 (t := 1) (m := n) (c := [.map m]) (by simp (disch := omega) only [zM]) (by simp [go_sem]) ?_
  repeat' (first | (refine zF fun K hK => ?_) | (refine zB fun K hK => ?_; simp (disch := omega) [go_sem, *]) | (apply zC.out hK; clear hK K; try with_reducible dsimp only [zD]))
  (refine zg ?_; try dsimp only [zD, zO]; refine ⟨by simp, _, (by first | rfl | (simp (disch := omega) [go_sem, zG] <;> rfl)), ?_⟩; refine zc ⟨fun k hk => (by first | rfl | (repeat rw [zG _ _ _ _ (by omega)])), (by simp [go_sem, below, belowL, hmn]), (by simp [go_sem] <;> omega), by simp, by simp⟩)
theorem keysP_iter (y m clk : Nat) (Z : List (Nat × Pr × Nat × List Int)) (hn : (Z.map (·.1)).Nodup) (hlt : ∀ b ∈ Z.map (·.1), b < clk) (I : List (Nat × Pr × Nat × List Int) → zI → Nat → Prop) (h : zI) (n : Nat) (K : AV → zI → Nat → Prop)
    (h0 : I [] (h.upd (n + 1) (some (.iter m clk clk []))) (n + 2)) (hm : Qf Zm vaI h m clk Z)
    (hp : ∀ V h' n', I V h' n' → h' (n + 1) = some (.iter m clk clk (V.map (·.1))) ∧ Qf Zm vaI h' m clk Z ∧ Went Z V ∧ n + 2 ≤ n') (mono : ∀ V h' a b, I V h' a → a ≤ b → I V h' b)
    (step : ∀ V b p x h' n' h2 n2, I V h' n' → n' ≤ n2 → (b, p, x) ∈ Z → b ∉ V.map (·.1) → (∀ z, z < n' → h2 z = (h'.upd (n + 1) (some (.iter m clk clk (V.map (·.1) ++ [b])))) z) → YieldsA Tryz.prog y [keyA p] (I (V ++ [(b, p, x)])) (fun _ _ => False) h2 n2)
    (hI : ∀ V h' n', I V h' n' → V.Perm Z → K (.tup []) h' n') : zS Tryz.prog 120 [.yld y, .fptr [.map m]] h n K := by
  refine zS.entry (by kernel_rfl) fun hb _ => zX Tryz.func120 rfl (by kernel_rfl) (by simp [Tryz.ntmps120]) ?_
  have hr := fun nm => range_K (P := Tryz.prog) (nm := nm) mapTys117 hm
  replace hn : zC _ := hn
  replace hlt : zC _ := hlt
  replace h0 : zC _ := h0
  replace hm : zC _ := hm
  replace hp : zC _ := hp
  replace mono : zC _ := mono
  replace step : zC _ := step
  replace hI : zC _ := hI
  replace hr : zC _ := hr
  repeat' (first | (refine zF fun K hK => ?_) | (refine zB fun K hK => ?_; simp (disch := omega) [go_sem, *, Tryz.ntmps120]))
  rw [hr.out]
  simp (disch := omega) [go_sem]
  repeat' (first | (apply zC.out hK; clear hK K; try with_reducible dsimp only [zD]) | (refine zJ ?_))
  refine za (fun s' => ∃ (n' : Nat) (V : List (Nat × Pr × Nat × List Int)) (H' : zI), n + 2 ≤ n' ∧ I V H' n' ∧ s' = ⟨14, [(0, .yld y), (1, .fptr [.map m]), (5, .ptr (n + 1) 0)], H', n'⟩)
    (fun s' => Z.length - (ZG s'.h (n + 1)).length) ?_ ?_
  · exact zb (by simp [go_sem]) (Sub.refl _) ⟨_, [], _, by omega, mono.out _ _ _ _ h0.out (by omega), rfl⟩
  · rintro s' ⟨n', V, H', hn', hIV, rfl⟩
    obtain ⟨hit, hmp, hW, _⟩ := hp.out _ _ _ hIV
    replace hIV : zC _ := hIV
    have hsn : (ZG H' (n + 1)).length = V.length := by unfold ZG; rw [hit]; simp
    refine zF fun K hK => ?_
    refine QK (it := .tmp 5) (n := n + 1) (m := m) (since := clk) (last := clk) (clk := clk) (seen := V.map (·.1)) rfl rfl rfl rfl (by simp [go_sem]) hit hmp hlt.out (Nat.le_refl _) (fun hall K3 hK3 => ?_) (fun j b k v hj hbj hns K3 hK3 => ?_)
    · have hpm := hW.perm hn.out hall
      replace hpm : zC _ := hpm
      clear hall hmp hit
      simp (disch := omega) [go_sem]
      refine hK3.out _ ?_
      clear hK3 K3
      dsimp only [zD]
      refine hK.out _ ?_
      clear hK K
      repeat' (first | (refine zF fun K hK => ?_) | (apply zC.out hf; clear ht hf Kt Kf) | (refine zU ?_; simp only [zD, zO, if_true]) | (refine zH fun Kt Kf ht hf => ?_; simp (disch := omega) [go_sem, *]; try (refine ⟨fun hc => ?_, fun hc => ?_⟩ <;> try (exfalso; omega))))
      refine ⟨by simp, _, (by first | rfl | (simp (disch := omega) [go_sem, zG] <;> rfl)), ?_⟩
      exact zc (hI.out _ _ _ (mono.out _ _ _ _ hIV.out (by omega)) hpm.out)
    · obtain ⟨p, x, hjz, rfl, rfl⟩ : ∃ p x, Z[j]? = some (b, p, x) ∧ k = Zm p ∧ v = vaI x := by
        rw [entK_get, List.getElem?_map] at hj
        rw [List.getElem?_map] at hbj
        cases hq : Z[j]? with
        | none => rw [hq] at hj; cases hj
        | some z =>
          rw [hq] at hj hbj
          simp only [Option.map_some, Option.some.injEq, Prod.mk.injEq] at hj hbj
          exact ⟨z.2.1, z.2.2, by rw [← hbj], hj.1.symm, hj.2.symm⟩
      have hzm := List.mem_of_getElem? hjz
      have hlt2 := hW.lt hns hzm
      have hst := fun h2 n2 hb => step.out V b p x H' n' h2 n2 hIV.out hb hzm hns
      have hit2 : (H'.upd (n + 1) (some (.iter m clk clk (V.map (·.1) ++ [b])))) (n + 1) = some (.iter m clk clk (V.map (·.1) ++ [b])) := zM _ _ _
      have hmp2 : Qf Zm vaI (H'.upd (n + 1) (some (.iter m clk clk (V.map (·.1) ++ [b])))) m clk Z := by
        have hmn : m ≠ n + 1 := fun e => by unfold Qf at hmp; rw [e, hit] at hmp; cases hmp
        unfold Qf; rw [zG _ _ _ _ hmn]; exact hmp
      have hent := entry_K keyP hit2 hmp2 hn.out hjz
      have eof : Zk (Zm p) = keyA p := JC p
      rw [eof]
      generalize H'.upd (n + 1) (some (.iter m clk clk (V.map (·.1) ++ [b]))) = H2 at *
      replace hst : zC _ := hst
      replace hzm : zC _ := hzm
      replace hns : zC _ := hns
      clear hmp hj hbj hit hjz eof hmp2 hit2
      simp (disch := omega) [go_sem]
      refine hK3.out _ ?_
      clear hK3 K3
      dsimp only [zD]
      refine hK.out _ ?_
      clear hK K
      repeat' (first | (refine zF fun K hK => ?_) | (refine zB fun K hK => ?_; simp (disch := omega) [go_sem, *, ZT]) | (apply zC.out hK; clear hK K; try with_reducible dsimp only [zD]) | (apply zC.out ht; clear ht hf Kt Kf) | (refine zJ ?_) | (refine zK ?_; simp only [zD]) | (refine zH fun Kt Kf ht hf => ?_; simp (disch := omega) [go_sem, *]; try (refine ⟨fun hc => ?_, fun hc => ?_⟩ <;> try (exfalso; omega))))
      refine hst.out _ _ (by omega) (fun z hz => by simp (disch := omega) only [zG]) _ (fun h3 n3 hI3 => ?_) (fun _ _ hf => hf.elim)
      obtain ⟨hit3, _, _, hn3⟩ := hp.out _ _ _ hI3
      have hs3 : (ZG h3 (n + 1)).length = V.length + 1 := by unfold ZG; rw [hit3]; simp
      replace hI3 : zC _ := hI3
      clear hit3
      simp (disch := omega) [go_sem]
      repeat' (first | (apply zC.out hK; clear hK K; try with_reducible dsimp only [zD]) | (apply zC.out hf; clear ht hf Kt Kf) | (refine zK ?_; simp only [zD, zO]) | (refine zH fun Kt Kf ht hf => ?_; simp (disch := omega) [go_sem, *]; try (refine ⟨fun hc => ?_, fun hc => ?_⟩ <;> try (exfalso; omega))))
      refine zV (by simp (disch := omega) [go_sem]) (Sub.refl _) ⟨_, V ++ [(b, p, x)], h3, by omega, mono.out _ _ _ _ hI3.out (by omega), rfl⟩ ?_
      simp only [hs3, hsn]; omega
theorem appendSeqP (m clk : Nat) (Z : List (Nat × Pr × Nat × List Int)) (hn : (Z.map (·.1)).Nodup) (hlt : ∀ b ∈ Z.map (·.1), b < clk) (hZl : Z.length ≤ 1000000) (h : zI) (n : Nat) (hmn : m < n) (hm : Qf Zm vaI h m clk Z) :
    zS Tryz.prog 158 [.fslc true true 0 [], .func (.func 120) [] [.fptr [.map m]]] h n fun r h' n' => ∃ (q : Nat) (ks : List Pr), n ≤ q ∧ q < n' ∧ r = acV 2 q (ks.map keyA) ∧ h' q = acO (ks.map keyA) ∧ ks.Perm (Z.map (·.2.1)) ∧ ∀ x, x < n → h' x = h x := by
  refine zS.entry (by kernel_rfl) fun hb _ => zX Tryz.func158 rfl (by kernel_rfl) (by simp [Tryz.ntmps158]) ?_
  replace hn : zC _ := hn
  replace hlt : zC _ := hlt
  replace hm : zC _ := hm
  repeat' (first | (refine zF fun K hK => ?_) | (refine zB fun K hK => ?_; simp (disch := omega) [go_sem, *, Tryz.ntmps158]) | (apply zC.out hK; clear hK K; try with_reducible dsimp only [zD]) | (refine zJ ?_))
  refine JB (by rfl) ?_
  generalize hLO : AObj.loop LoopState.ready none 13 _ _ _ _ = LO
  replace hLO : zC _ := hLO
  show zS Tryz.prog 120 [.yld (n + 2 + 1), .fptr [.map m]] ((h.upd n (some (.cells [.fslc true true 0 []]))).upd (n + 2 + 1) (some LO)) (n + 2 + 1 + 1) _
  refine keysP_iter (n + 2 + 1) m clk Z hn.out hlt.out (fun V h' n' => ∃ q, Went Z V ∧ n + 6 ≤ n' ∧ n + 1 ≤ q ∧ q ≠ n + 3 ∧ q ≠ n + 5 ∧ q < n' ∧ h' (n + 2 + 1 + 1 + 1) = some (.iter m clk clk (V.map (·.1))) ∧ h' (n + 2 + 1) = some LO ∧ h' n = some (.cells [acV 2 q ((V.map (·.2.1)).map keyA)]) ∧ h' q = acO ((V.map (·.2.1)).map keyA) ∧ ∀ x, x < n → h' x = h x) _ _ _ ?_ ?_ ?_ ?_ ?_ ?_
  · refine ⟨n + 1, Went.nil Z, by omega, by omega, by omega, by omega, by omega, zM _ _ _, ?_, ?_, ?_, fun x hx => ?_⟩
    · simp (disch := omega) only [zG, zM]
    · simp (disch := omega) only [zG, zM]; rfl
    · simp (disch := omega) only [zG]; exact hb.none (by omega)
    · simp (disch := omega) only [zG]
  · unfold Qf; simp (disch := omega) only [zG]; exact hm.out
  · rintro V h' n' ⟨q, w1, w2, w3, w4, w5, w6, w7, w8, w9, w10, w11⟩
    exact ⟨w7, by unfold Qf; rw [w11 m hmn]; exact hm.out, w1, by omega⟩
  · rintro V h' a b ⟨q, w1, w2, w3, w4, w5, w6, w7⟩ hab
    exact ⟨q, w1, by omega, w3, w4, w5, by omega, w7⟩
  · rintro V b p x h' n' H2 n2 ⟨q, w1, w2, w3, w4, w5, w6, w7, w8, w9, w10, w11⟩ hb2 hz hns hx2 KK hI hJ
    have hlo7 := hLO.out
    subst hlo7
    refine yield_at ((hx2 _ (by omega)).trans ((zG _ _ _ _ (by omega)).trans w8)) rfl (by simp) ?_
    simp only [go_sem]
    have hVl : V.length ≤ 1000000 := by have := w1.len; omega
    have hW2 := w1.snoc hns hz
    have g8 : H2 (n + 2 + 1) = _ := (hx2 _ (by omega)).trans ((zG _ _ _ _ (by omega)).trans w8)
    have g9 : H2 n = _ := (hx2 _ (by omega)).trans ((zG _ _ _ _ (by omega)).trans w9)
    have g10 : H2 q = _ := (hx2 _ (by omega)).trans ((zG _ _ _ _ (by omega)).trans w10)
    have g11 : ∀ x, x < n → H2 x = h x := fun x hx => (hx2 _ (by omega)).trans ((zG _ _ _ _ (by omega)).trans (w11 x hx))
    have g7 : H2 (n + 2 + 1 + 1 + 1) = some (.iter m clk clk (V.map (·.1) ++ [b])) := (hx2 _ (by omega)).trans (zM _ _ _)
    replace hx2 : zC _ := trivial
    rw [show keyA p = .agg [sv p.1, sv p.2] from rfl]
    replace g7 : zC _ := g7
    replace g10 : zC _ := g10
    replace g11 : zC _ := g11
    replace hW2 : zC _ := hW2
    replace hz : zC _ := hz
    replace hns : zC _ := hns
    clear w7 w8 w9 w10 w11
    repeat' (first | (refine zB fun K hK => ?_; simp (disch := omega) [go_sem, *]) | (apply zC.out hK; clear hK K; try with_reducible dsimp only [zD]))
    refine ⟨_, _, _, _, _, (by show zI.upd (zI.upd H2 _ _) _ _ _ = _; rw [zG _ _ _ _ (by omega), zG _ _ _ _ (by omega)]; exact g8), ?_⟩
    dsimp only [put]
    generalize hH5 : zI.upd (zI.upd (zI.upd H2 _ _) _ _) (n + 2 + 1) _ = H5
    have k12 : H5 n2 = some (.cells [sv p.1, sv p.2]) := by rw [← hH5, zG _ _ _ _ (by omega)]; exact zM _ _ _
    have k8 := (congrFun hH5 (n + 2 + 1)).symm.trans (zM _ _ _)
    have k9 : H5 n = some (.cells [acV 2 q ((V.map (·.2.1)).map keyA)]) := by rw [← hH5, zG _ _ _ _ (by omega), zG _ _ _ _ (by omega), zG _ _ _ _ (by omega)]; exact g9
    have k10 : H5 q = acO ((V.map (·.2.1)).map keyA) := by rw [← hH5, zG _ _ _ _ (by omega), zG _ _ _ _ (by omega), zG _ _ _ _ (by omega)]; exact g10.out
    have k7 : H5 (n + 2 + 1 + 1 + 1) = some (.iter m clk clk (V.map (·.1) ++ [b])) := by rw [← hH5, zG _ _ _ _ (by omega), zG _ _ _ _ (by omega), zG _ _ _ _ (by omega)]; exact g7.out
    have k11 : ∀ x, x < n → H5 x = h x := fun x hx => by rw [← hH5, zG _ _ _ _ (by omega), zG _ _ _ _ (by omega), zG _ _ _ _ (by omega)]; exact g11.out x hx
    replace k8 : zC _ := k8
    replace k10 : zC _ := k10
    replace k11 : zC _ := k11
    replace k7 : zC _ := k7
    clear hH5 g7 g8 g9 g10 g11
    obtain ⟨M, hM⟩ : ∃ M, zC (M = V.map (·.2.1)) := ⟨_, rfl⟩
    simp only [← hM.out] at k9 k10
    have hMl : M.length = V.length := by rw [hM.out, List.length_map]
    repeat' (first | (refine zB fun K hK => ?_; simp (disch := omega) [go_sem, *]) | (refine zJ ?_))
    have hap := ap_P (nm := n2 + 2 + 3) (m := q) (V := M) (X := [p]) (h := H5) (b := false) (c := false) k10.out (by simp) (by simp; omega)
    simp only [List.map_cons, List.map_nil] at hap
    rw [show [keyA p] = [.agg [sv p.1, sv p.2]] from rfl] at hap
    have e1 : acV 2 (n2 + 2 + 3) ((M ++ [p]).map keyA) = .slc (n2 + 2 + 3) 0 (M.length + 1) 2 := by rw [ZP (by simp)]; simp
    rw [hap, e1]
    have s9 : ((H5.upd q none).upd (n2 + 2 + 3) (acO ((M ++ [p]).map keyA))) n = _ := (zG _ _ _ _ (by omega)).trans ((zG _ _ _ _ (by omega)).trans k9)
    have s10 := zM (H5.upd q none) (n2 + 2 + 3) (acO ((M ++ [p]).map keyA))
    have s8 : ((H5.upd q none).upd (n2 + 2 + 3) (acO ((M ++ [p]).map keyA))) (n + 2 + 1) = _ := (zG _ _ _ _ (by omega)).trans ((zG _ _ _ _ (by omega)).trans k8.out)
    have s7 : ((H5.upd q none).upd (n2 + 2 + 3) (acO ((M ++ [p]).map keyA))) (n + 2 + 1 + 1 + 1) = _ := (zG _ _ _ _ (by omega)).trans ((zG _ _ _ _ (by omega)).trans k7.out)
    have s11 : ∀ x, x < n → ((H5.upd q none).upd (n2 + 2 + 3) (acO ((M ++ [p]).map keyA))) x = h x := fun x hx => (zG _ _ _ _ (by omega)).trans ((zG _ _ _ _ (by omega)).trans (k11.out x hx))
    generalize (H5.upd q none).upd (n2 + 2 + 3) (acO ((M ++ [p]).map keyA)) = H7 at *
    replace hap : zC _ := trivial
    replace e1 : zC _ := e1
    replace s7 : zC _ := s7
    replace s8 : zC _ := s8
    replace s10 : zC _ := s10
    replace s11 : zC _ := s11
    clear k9 k10 k8 k11 k7
    simp (disch := omega) [go_sem, s9]
    repeat' (first | (apply zC.out hK; clear hK K; try with_reducible dsimp only [zD]))
    have eM : (V ++ [(b, p, x)]).map (fun z => z.2.1) = M ++ [p] := by rw [List.map_append, ← hM.out]; rfl
    refine ⟨_, _, _, _, _, (zG _ _ _ _ (by omega)).trans s8.out, hI.out _ _ ?_⟩
    dsimp only
    exact ⟨n2 + 2 + 3, hW2.out, by omega, by omega, by omega, by omega, by omega, by rw [zG _ _ _ _ (by omega), zG _ _ _ _ (by omega), s7.out]; simp, zM _ _ _, by rw [zG _ _ _ _ (by omega), zM, eM, e1.out], by rw [zG _ _ _ _ (by omega), zG _ _ _ _ (by omega), eM]; exact s10.out, fun x hx => by rw [zG _ _ _ _ (by omega), zG _ _ _ _ (by omega)]; exact s11.out x hx⟩
  · rintro V h' n' ⟨q, w1, w2, w3, w4, w5, w6, w7, w8, w9, w10, w11⟩ hpm
    obtain ⟨M, hM⟩ : ∃ M, zC (M = V.map (·.2.1)) := ⟨_, rfl⟩
    simp only [← hM.out] at w9 w10
    have hMp : zC (M.Perm (Z.map (·.2.1))) := by rw [hM.out]; exact hpm.map _
    replace hpm : zC _ := trivial
    replace w10 : zC _ := w10
    replace w11 : zC _ := w11
    show JL (n + 2 + 1) _ _ _ _ _
    rw [JL, w8, ← hLO.out]
    refine ⟨by simp, ?_⟩
    dsimp only [zO, zD]
    repeat (refine hK.out _ ?_; clear hK K; try with_reducible dsimp only [zD])
    repeat' (first | (refine zF fun K hK => ?_) | (refine zB fun K hK => ?_; simp (disch := omega) [go_sem, *, zG]) | (apply zC.out hK; clear hK K; try with_reducible dsimp only [zD]))
    refine zg ?_
    try dsimp only [zD, zO]
    refine ⟨by simp, _, (by first | rfl | (simp (disch := omega) [go_sem, zG] <;> rfl)), ?_⟩
    show ZI _ _ (acV 2 q (M.map keyA)) _ _
    refine zc ⟨q, M, by omega, by omega, rfl, by rw [zG _ _ _ _ (by omega)]; exact w10.out, hMp.out, fun x hx => by rw [zG _ _ _ _ (by omega)]; exact w11.out x hx⟩
theorem collectP (m clk : Nat) (Z : List (Nat × Pr × Nat × List Int)) (hn : (Z.map (·.1)).Nodup) (hlt : ∀ b ∈ Z.map (·.1), b < clk) (hZl : Z.length ≤ 1000000) (h : zI) (n : Nat) (hmn : m < n) (hm : Qf Zm vaI h m clk Z) :
    zS Tryz.prog 118 [.func (.func 120) [] [.fptr [.map m]]] h n fun r h' n' => ∃ (q : Nat) (ks : List Pr), n ≤ q ∧ q < n' ∧ r = acV 2 q (ks.map keyA) ∧ h' q = acO (ks.map keyA) ∧ ks.Perm (Z.map (·.2.1)) ∧ ∀ x, x < n → h' x = h x := by
  refine zS.entry (by kernel_rfl) fun hb _ => zX Tryz.func118 rfl (by kernel_rfl) (by simp [Tryz.ntmps118]) ?_
  have k1 := fun nn hh => appendSeqP m clk Z hn hlt hZl h nn hh hm
  replace k1 : zC _ := k1
  clear hn hlt hm
  repeat' (first | (refine zF fun K hK => ?_) | (refine zB fun K hK => ?_; simp (disch := omega) [go_sem, *, Tryz.ntmps118]) | (apply zC.out hK; clear hK K; try with_reducible dsimp only [zD]))
  refine .inl ((k1.out _ (by omega)).mono fun r h' n' hp => ?_)
  obtain ⟨q, ks, a1, a2, rfl, a4, a5, a6⟩ := hp
  replace a4 : zC _ := a4
  replace a5 : zC _ := a5
  replace a6 : zC _ := a6
  simp (disch := omega) [go_sem]
  repeat' (first | (apply zC.out hK; clear hK K; try with_reducible dsimp only [zD]))
  refine zg ?_
  try dsimp only [zD, zO]
  refine ⟨by simp, _, (by first | rfl | (simp (disch := omega) [go_sem, zG] <;> rfl)), ?_⟩
  show ZI _ _ (acV 2 q (ks.map keyA)) _ _
  exact zc ⟨q, ks, by omega, by omega, rfl, a4.out, a5.out, fun x hx => a6.out x (by omega)⟩
end Go.AM
namespace Go.AM
open Go.Proofs Cw Du Go.RowKit
set_option maxRecDepth 10000
set_option maxHeartbeats 4000000
def pairV (p : Pr) : List Value := [.string p.1, .string p.2]
theorem cmpPr (p q : Pr) : zL Tryz.prog 62 [keyA p, keyA q] (iv .i64 (cfP p q)) := by
  intro h n
  have k1 := compareS p.1 q.1
  have k2 := compareS p.2 q.2
  have k3 := orI (jp p.1 q.1) (jp p.2 q.2)
  refine zS.pure (zS.entry (by kernel_rfl) fun hb _ => zX Tryz.func62 rfl (by kernel_rfl) (by simp [Tryz.ntmps62]) ?_)
  have e : cfP p q = if jp p.1 q.1 ≠ 0 then jp p.1 q.1 else jp p.2 q.2 := rfl
  rw [← e] at k3
  generalize cfP p q = r at *
  generalize jp p.1 q.1 = x at *
  generalize jp p.2 q.2 = y at *
  clear e
  obtain ⟨p1, p2⟩ := p
  obtain ⟨q1, q2⟩ := q
  simp only [keyA] at k1 k2 k3 ⊢
  repeat' (first | (refine zF fun K hK => ?_) | (refine zB fun K hK => ?_; simp (disch := omega) [go_sem, *, Tryz.ntmps62 ]) | (refine zq mixed (by kernel_rfl) fun K hK => ?_; simp (disch := omega) [go_sem, * ]) | (refine jm (by simp [go_sem]) (by simp (disch := omega) [go_sem, *, zG ]; first | exact rfl | exact ⟨rfl, rfl, rfl⟩ | exact (k1).gcall ⟨rfl, rfl, rfl⟩ | exact (k2).gcall ⟨rfl, rfl, rfl⟩ | exact (k3).gcall ⟨rfl, rfl, rfl⟩) ?_; try simp only [zm]) | (refine ZR ?_) | (apply zC.out hK; clear hK K; try with_reducible dsimp only [zD]))
  exact zR
theorem flat_pair : ∀ D : List Pr, flat (D.map keyA) = (D.flatMap pairV).map .c
  | [] => rfl
  | p :: r => by
    have ih := flat_pair r
    simp only [flat, List.map_cons, List.flatten_cons, List.flatMap_cons, List.map_append] at ih ⊢
    rw [ih]; rfl
theorem sortPr (m n : Nat) (D : List Pr) (H : zI) (hm : H m = some (.cells (flat (D.map keyA)))) (hsz : D.length < 4611686018427387904) :
    zS Tryz.prog 119 [.slc m 0 D.length 2, .func (.func 62) [] []] H n fun r h' n' => r = .tup [] ∧ h' = H.upd m (some (.cells (flat ((ZC D).map keyA)))) ∧ n' = n := by
  have h := sortF_ac (ρ := Tryz.laysortp_ren) Tryz.laysortp 2 Tryz.isAgg119 Tryz.sizeOf119 (by kernel_rfl) pairV (fun _ => rfl) (fun x v hv => by
    simp only [pairV, List.mem_cons, List.not_mem_nil, or_false] at hv
    rcases hv with rfl | rfl <;> rfl) cfP swo (fun x y h1 h2 => by rw [ltOf_eq] at h1 h2; exact ltP_tri h1 h2) 62 (enters_of Tryz.func62 (by kernel_rfl) rfl) (fun x y => cmpPr x y) m n H D (by rw [hm, flat_pair]) hsz
  rw [flat_pair, ZC, ← ltOf_eq]
  exact h
theorem sortPr0 (f : AV) (n : Nat) (H : zI) : zS Tryz.prog 119 [.fslc true true 0 [], f] H n fun r h' n' => r = .tup [] ∧ h' = H ∧ n' = n :=
  sortF_none (ρ := Tryz.laysortp_ren) Tryz.laysortp (by kernel_rfl) true true 0 f H n
def prF (V : List Pr) : AV := if V = [] then .fslc true true 0 [] else .fslc false false 2 (V.map keyA)
theorem below_prF (n : Nat) (V : List Pr) : below n (prF V) := by
  unfold prF
  split
  · simp [below, belowL]
  · simp only [below]; rw [Zl]; intro y hy; obtain ⟨o, _, rfl⟩ := List.mem_map.1 hy; simp [keyA, below, belowL]
theorem elemsPr : ∀ D : List Pr, jS true 2 D.length (flat (D.map keyA)) = D.map keyA
  | [] => rfl
  | p :: r => by
    have ih := elemsPr r
    have e : flat ((p :: r).map keyA) = [sv p.1, sv p.2] ++ flat (r.map keyA) := by simp [flat, keyA, cellsOf]
    rw [e]
    simp only [jS, List.length_cons, qY, List.map_cons] at ih ⊢
    have e1 : List.drop 2 ([sv p.1, sv p.2] ++ flat (r.map keyA)) = flat (r.map keyA) := rfl
    have e2 : List.take 2 ([sv p.1, sv p.2] ++ flat (r.map keyA)) = [sv p.1, sv p.2] := rfl
    rw [e1, e2, ih]; rfl
theorem ret_prV {fl : Nat} {K : AV → zI → Nat → Prop} {m : Nat} {V : List Pr} {h : zI} {n : Nat} (hm : h m = some (.cells (flat (V.map keyA)))) (h0 : V ≠ []) (hk : ZI fl K (prF V) (h.upd m none) n) : ZI fl K (.slc m 0 V.length 2) h n := by
  refine ret_fzD true hm ?_
  have hfl : (flat (V.map keyA)).length = V.length * 2 := by
    have := Jw (s := 2) (L := V.map keyA) (fun y hy => by obtain ⟨o, _, rfl⟩ := List.mem_map.1 hy; exact key_len o)
    rw [this, List.length_map]
  have ef : fzD m (flat (V.map keyA)) true (.slc m 0 V.length 2) = .fslc false false 2 (V.map keyA) := by
    simp only [fzD, Nat.zero_add, List.drop_zero]
    rw [if_pos ⟨trivial, by omega, by simp⟩, elemsPr]
  rw [ef]
  simpa [prF, h0] using hk
theorem sortedPr (m clk : Nat) (Z : List (Nat × Pr × Nat × List Int)) (hn : (Z.map (·.1)).Nodup) (hlt : ∀ b ∈ Z.map (·.1), b < clk) (hZl : Z.length ≤ 1000000) (hkn : (Z.map (·.2.1)).Nodup) (h : zI) (n : Nat) (hmn : m < n) (hm : Qf Zm vaI h m clk Z) :
    APureAt Tryz.prog 60 [.func (.func 120) [] [.fptr [.map m]], .func (.func 62) [] []] h n (prF (ZC (Z.map (·.2.1)))) := by
  refine zS.pure (zS.entry (by kernel_rfl) fun hb _ => zX Tryz.func60 rfl (by kernel_rfl) (by simp [Tryz.ntmps60]) ?_)
  have k1 := fun nn hh => collectP m clk Z hn hlt hZl h nn hh hm
  obtain ⟨KS, hKS⟩ : ∃ KS, zC (KS = Z.map (·.2.1)) := ⟨_, rfl⟩
  simp only [← hKS.out] at k1 hkn ⊢
  have hKl : KS.length ≤ 1000000 := by rw [hKS.out, List.length_map]; exact hZl
  replace k1 : zC _ := k1
  replace hkn : zC _ := hkn
  clear hn hlt hm
  repeat' (first | (refine zF fun K hK => ?_) | (refine zB fun K hK => ?_; simp (disch := omega) [go_sem, *, Tryz.ntmps60]) | (apply zC.out hK; clear hK K; try with_reducible dsimp only [zD]))
  refine .inl ((k1.out _ (by omega)).mono fun r h' n' hp => ?_)
  obtain ⟨q, ks, a1, a2, rfl, a4, a5, a6⟩ := hp
  have hkl := a5.length_eq
  have hser : zC (ZC KS = ZC ks) := (sortP_congr a5 (a5.nodup_iff.2 hkn.out)).symm
  have hsl : (ZC ks).length = ks.length := (Za ks).length_eq
  by_cases h0 : ks = []
  · subst h0
    have k2 := fun nn => sortPr0 (.func (.func 62) [] []) nn h'
    have a6 : zC (∀ x, x < n → h' x = h x) := fun x hx => a6 x (by omega)
    simp only [List.map_nil, jx]
    replace a4 : zC _ := trivial
    replace a5 : zC _ := trivial
    replace k2 : zC _ := k2
    simp (disch := omega) [go_sem]
    repeat' (first | (refine zF fun K hK => ?_) | (refine zB fun K hK => ?_; simp (disch := omega) [go_sem, *]) | (apply zC.out hK; clear hK K; try with_reducible dsimp only [zD]))
    refine .inl ((k2.out _).mono fun r h3 n3 hp => ?_)
    obtain ⟨rfl, rfl, rfl⟩ := hp
    simp (disch := omega) [go_sem]
    repeat' (first | (refine zF fun K hK => ?_) | (refine zB fun K hK => ?_; simp (disch := omega) [go_sem, *]) | (apply zC.out hK; clear hK K; try with_reducible dsimp only [zD]))
    refine zg ?_
    try dsimp only [zD, zO]
    refine ⟨by simp, _, (by first | rfl | (simp (disch := omega) [go_sem, zG] <;> rfl)), ?_⟩
    exact zc ⟨a6.out, by simp [go_sem, below, belowL, ZL], by rw [hser.out]; simp [go_sem, ZL, ZC, prF], by simp, by simp⟩
  · have h1 : ks.map keyA ≠ [] := by simpa using h0
    have ev : acV 2 q (ks.map keyA) = .slc q 0 ks.length 2 := by rw [ZP h1, List.length_map]
    have em : h' q = some (.cells (flat (ks.map keyA))) := by rw [a4, Z2 h1]
    have k2 := fun nn => sortPr q nn ks h' em (by omega)
    have hT0 : zC (ZC ks ≠ []) := fun e => by rw [e] at hsl; exact h0 (List.length_eq_zero_iff.1 hsl.symm)
    replace hkl : zC _ := hkl
    rw [ev]
    have a6 : zC (∀ x, x < n → h' x = h x) := fun x hx => a6 x (by omega)
    replace a4 : zC _ := trivial
    replace a5 : zC _ := trivial
    replace k2 : zC _ := k2
    replace h0 : zC _ := trivial
    replace em : zC _ := trivial
    replace ev : zC _ := trivial
    clear h1
    generalize ZC ks = ts at *
    simp (disch := omega) [go_sem]
    repeat' (first | (refine zF fun K hK => ?_) | (refine zB fun K hK => ?_; simp (disch := omega) [go_sem, *]) | (apply zC.out hK; clear hK K; try with_reducible dsimp only [zD]))
    refine .inl ((k2.out _).mono fun r h3 n3 hp => ?_)
    obtain ⟨rfl, rfl, rfl⟩ := hp
    simp (disch := omega) [go_sem]
    repeat' (first | (refine zF fun K hK => ?_) | (refine zB fun K hK => ?_; simp (disch := omega) [go_sem, *]) | (apply zC.out hK; clear hK K; try with_reducible dsimp only [zD]))
    refine zg ?_
    try dsimp only [zD, zO]
    refine ⟨by simp, _, (by first | rfl | (simp (disch := omega) [go_sem, zG] <;> rfl)), ?_⟩
    rw [hser.out]
    show ZI _ _ (.slc q 0 ks.length 2) _ _
    rw [← hsl]
    refine ret_prV (zM _ _ _) hT0.out ?_
    exact zc ⟨fun x hx => by rw [zG _ _ _ _ (by omega), zG _ _ _ _ (by omega)]; exact a6.out x hx, below_prF _ _, rfl, by simp, by simp⟩
end Go.AM
