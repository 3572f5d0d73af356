/- Rosters: watches alone, by the program. Conditions: as each theorem says. -/
import Derived.Test.YtkbgmkhdjmkpdaaGreatDoorRb
namespace Du
theorem put_mem {α β : Type} {eq : α → α → Bool} (hq : ∀ p q, eq p q = true ↔ p = q) (p : α) (x : β) (E : List (α × β)) (hn : (E.map (·.1)).Nodup) (e : α × β) : e ∈ Go.AM.putK eq p x E ↔ e = (p, x) ∨ e ∈ E ∧ e.1 ≠ p := by
  obtain ⟨q, v⟩ := e
  rw [Go.AM.valK_mem hq _ q v (Go.AM.nodup_put hq p x E hn), Go.AM.valK_put hq p q x E]
  by_cases e : q = p
  · subst e
    rw [if_pos ((hq q q).2 rfl)]
    constructor
    · intro h; cases h; exact .inl rfl
    · rintro (h | ⟨_, h⟩)
      · cases h; rfl
      · exact absurd rfl h
  · have : eq q p = false := by
      cases h : eq q p with
      | false => rfl
      | true => exact absurd ((hq _ _).1 h) e
    rw [this]
    simp only [Bool.false_eq_true, if_false, ← Go.AM.valK_mem hq E q v hn]
    exact ⟨fun h => .inr ⟨h, e⟩, fun h => h.elim (fun h => absurd (congrArg Prod.fst h) e) (·.1)⟩
structure RelD (E : List (Pr × Nat × List Int)) (f : Pr → List Int) : Prop where
  nd : (E.map (·.1)).Nodup
  val : ∀ p, ((Go.AM.valK jr p E).map (·.2)).getD [] = f p
  ne : ∀ e ∈ E, e.2.2 ≠ []
theorem RelD.mem {E : List (Pr × Nat × List Int)} {f : Pr → List Int} (R : RelD E f) {p : Pr} {q : Nat} {L : List Int} (h : (p, q, L) ∈ E) : f p = L := by
  rw [← R.val, (Go.AM.valK_mem ZK E p _ R.nd).1 h]; rfl
theorem RelD.key {E : List (Pr × Nat × List Int)} {f : Pr → List Int} (R : RelD E f) (p : Pr) : p ∈ E.map (·.1) ↔ f p ≠ [] := by
  constructor
  · intro h
    obtain ⟨⟨p', q, L⟩, he, rfl⟩ := List.mem_map.1 h
    rw [R.mem he]; exact R.ne _ he
  · intro h
    rw [← R.val] at h
    cases hv : Go.AM.valK jr p E with
    | none => rw [hv] at h; exact absurd rfl h
    | some x => exact List.mem_map.2 ⟨(p, x), (Go.AM.valK_mem ZK E p x R.nd).2 hv, rfl⟩
theorem RelD.put {E : List (Pr × Nat × List Int)} {f g : Pr → List Int} (R : RelD E f) (p : Pr) (q : Nat) (d : Int) (hg : ∀ x, g x = if x = p then f p ++ [d] else f x) : RelD (Go.AM.putK jr p (q, f p ++ [d]) E) g := by
  refine ⟨Go.AM.nodup_put ZK p _ E R.nd, fun x => ?_, fun e he => ?_⟩
  · rw [Go.AM.valK_put ZK p x, hg]
    by_cases e : x = p
    · subst e
      rw [if_pos ((ZK x x).2 rfl), if_pos rfl]; rfl
    · have : jr x p = false := by
        cases h : jr x p with
        | false => rfl
        | true => exact absurd ((ZK _ _).1 h) e
      rw [this, if_neg e]; simp only [Bool.false_eq_true, if_false]; exact R.val x
  · rcases (put_mem ZK p _ E R.nd e).1 he with rfl | ⟨h, _⟩
    · simp
    · exact R.ne e h
def dyI (S : Int → List Pr) (lo d : Int) (i : Nat) (p : Pr) : List Int := Zf S lo (d - lo).toNat p ++ if Zh ((S d).take i) p then [d] else []
theorem dyI_zero (S : Int → List Pr) (lo d : Int) : dyI S lo d 0 = Zf S lo (d - lo).toNat := by funext p; simp [dyI, Zh]
theorem dyI_all (S : Int → List Pr) (lo d : Int) (h : lo ≤ d) : dyI S lo d (S d).length = Zf S lo (d + 1 - lo).toNat := by
  funext p
  unfold dyI Zf
  rw [dys_to lo d h, List.filter_append, List.take_length]
  congr 1
  cases hp : Zh (S d) p <;> simp [hp]
theorem dyI_next (S : Int → List Pr) (lo d : Int) (i : Nat) (p : Pr) (hs : Ze (S d)) (h : (S d)[i]? = some p) (x : Pr) : dyI S lo d (i + 1) x = if x = p then dyI S lo d i p ++ [d] else dyI S lo d i x := by
  obtain ⟨hlt, e⟩ := List.getElem?_eq_some_iff.1 h
  unfold dyI
  rw [List.take_succ_eq_append_getElem hlt, e]
  have hni : p ∉ (S d).take i := by
    intro hm
    obtain ⟨j, hj, e2⟩ := List.getElem_of_mem hm
    rw [List.length_take] at hj
    rw [List.getElem_take] at e2
    have := List.pairwise_iff_getElem.1 hs j i (by omega) hlt (by omega)
    rw [e2, e, jq] at this; cases this
  have hm : ∀ z, Zh ((S d).take i ++ [p]) z = true ↔ Zh ((S d).take i) z = true ∨ z = p := fun z => by rw [Zi, Zi, List.mem_append, List.mem_singleton]
  have hn2 : Zh ((S d).take i) p = false := by
    cases e2 : Zh ((S d).take i) p with
    | false => rfl
    | true => exact absurd ((Zi _ _).1 e2) hni
  by_cases hx : x = p
  · subst hx; rw [if_pos rfl, if_pos ((hm x).2 (.inr rfl)), hn2]; simp
  · rw [if_neg hx]
    have : Zh ((S d).take i ++ [p]) x = Zh ((S d).take i) x := by
      rw [Bool.eq_iff_iff, hm]; simp [hx]
    rw [this]
theorem dyI_len (S : Int → List Pr) (lo d : Int) (i : Nat) (p : Pr) : (dyI S lo d i p).length ≤ (d - lo).toNat + 1 := by
  unfold dyI Zf
  have h1 := List.length_filter_le (fun d => Zh (S d) p) (dys lo (d - lo).toNat)
  rw [JV] at h1
  rw [List.length_append]
  split <;> simp <;> omega
theorem alP_keys {E : List (Pr × Nat × List Int)} {S : Int → List Pr} {lo : Int} {k : Nat} (R : RelD E (Zf S lo k)) : ZC (E.map (·.1)) = alP S lo k := by
  refine J4 _ _ (jD R.nd) (Qz S lo k) fun p => ?_
  rw [(Za _).mem_iff, R.key, alP_mem]
  constructor
  · intro h
    cases hd : Zf S lo k p with
    | nil => exact absurd hd h
    | cons d r =>
      have := (qc S lo k p d).1 (by rw [hd]; simp)
      exact ⟨d, (jy k lo d).2 this.1, this.2⟩
  · rintro ⟨d, hd, hp⟩ e
    have := (qc S lo k p d).2 ⟨(jy k lo d).1 hd, hp⟩
    rw [e] at this; simp at this
end Du
namespace Go.AM
open Go.Proofs Cw Du Go.RowKit
set_option maxRecDepth 10000
structure Rows (h : zI) (n B : Nat) (E : List (Pr × Nat × List Int)) : Prop where
  at_ : ∀ e ∈ E, B ≤ e.2.1 ∧ e.2.1 < n ∧ h e.2.1 = acO (e.2.2.map (iv .i64))
  inj : ∀ e ∈ E, ∀ e' ∈ E, e.2.1 = e'.2.1 → e.1 = e'.1
theorem Rows.nil (h : zI) (n B : Nat) : Rows h n B [] := ⟨fun e he => by simp at he, fun e he => by simp at he⟩
theorem Rows.mono {h h' : zI} {n n' B : Nat} {E : List (Pr × Nat × List Int)} (R : Rows h n B E) (hn : n ≤ n') (hh : ∀ x, B ≤ x → x < n → h' x = h x) : Rows h' n' B E :=
  ⟨fun e he => by obtain ⟨a, b, c⟩ := R.at_ e he; exact ⟨a, by omega, by rw [hh _ a b]; exact c⟩, R.inj⟩
theorem Rows.put {h h' : zI} {n n' B nm : Nat} {E : List (Pr × Nat × List Int)} (R : Rows h n B E) (hn : (E.map (·.1)).Nodup) (p : Pr) (L : List Int) (old : Nat) (_ho : ∀ e ∈ E, e.1 = p → e.2.1 = old) (ho2 : ∀ e ∈ E, e.2.1 = old → e.1 = p) (h1 : n ≤ nm) (h2 : nm < n') (hB : B ≤ nm) (hm : h' nm = acO (L.map (iv .i64))) (hh : ∀ x, B ≤ x → x < n → x ≠ old → h' x = h x) : Rows h' n' B (putK jr p (nm, L) E) := by
  refine ⟨fun e he => ?_, fun e he e' he' h3 => ?_⟩
  · rcases (put_mem ZK p _ E hn e).1 he with rfl | ⟨h, hne⟩
    · exact ⟨hB, h2, hm⟩
    · obtain ⟨a, b, c⟩ := R.at_ e h
      exact ⟨a, by omega, by rw [hh _ a b (fun e2 => hne (ho2 e h e2))]; exact c⟩
  · rcases (put_mem ZK p _ E hn e).1 he with rfl | ⟨h, hne⟩
    · rcases (put_mem ZK p _ E hn e').1 he' with rfl | ⟨h', hne'⟩
      · rfl
      · obtain ⟨_, b, _⟩ := R.at_ e' h'
        simp only at h3; omega
    · rcases (put_mem ZK p _ E hn e').1 he' with rfl | ⟨h', hne'⟩
      · obtain ⟨_, b, _⟩ := R.at_ e h
        simp only at h3; omega
      · exact R.inj e h e' h' h3
def vaF (L : List Int) : AV := .fslc false false 1 (L.map (iv .i64))
def frE (e : Pr × Nat × List Int) : Value × AV := (Zm e.1, vaF e.2.2)
def owE (e : Pr × Nat × List Int) : Value × AV := (Zm e.1, vaI e.2)
theorem ac_fzall {P : Program} {fl : Nat} {code : Code} {Q : Exit → St → Prop} (m n B clk : Nat) (bs : List Nat) (hmB : m < B) : ∀ (C A : List (Pr × Nat × List Int)) (st : St), Rows st.h n B C → (∀ e ∈ C, e.2.2 ≠ []) → (C.map (·.1)).Nodup → st.h m = some (.map clk bs (A.map frE ++ C.map owE)) →
    (∀ H : zI, (∀ x, x < B → x ≠ m → H x = st.h x) → (∀ x, n ≤ x → x ≠ m → H x = st.h x) → H m = some (.map clk bs ((A ++ C).map frE)) → zi P fl code Q { st with h := H }) → zi P fl code Q st
  | [], A, st, _, _, _, hm, h => by
    have := h st.h (fun _ _ _ => rfl) (fun _ _ _ => rfl) (by rw [hm]; simp)
    exact this | (p, q, L) :: C, A, st, R, hne, hnd, hm, h => by
    obtain ⟨hq1, hq2, hq3⟩ := R.at_ (p, q, L) (by simp)
    simp only at hq1 hq2 hq3
    have hL0 : L ≠ [] := hne (p, q, L) (by simp)
    have hL1 : L.map (iv .i64) ≠ [] := by simpa using hL0
    rw [Z2 hL1, flat_iv] at hq3
    refine ac_fzmap q m false (by omega) hq3 hm ?_
    have hes : (A.map frE ++ ((p, q, L) :: C).map owE).map (fun e => (e.1, fzD q (L.map (iv .i64)) false e.2)) = (A ++ [(p, q, L)]).map frE ++ C.map owE := by
      rw [List.map_append, List.map_append, List.map_map, List.map_cons, List.map_cons, List.map_map, List.append_assoc]
      congr 1
      have e1 : fzD q (L.map (iv .i64)) false (owE (p, q, L)).2 = vaF L := by
        simp only [owE, vaI]
        rw [ZP hL1, List.length_map]
        simp only [fzD, Nat.zero_add, List.drop_zero]
        rw [if_pos ⟨trivial, by simp, by simp⟩, elemsI0]; rfl
      rw [e1]
      simp only [List.map_cons, List.map_nil, List.singleton_append]
      congr 1
      refine List.map_congr_left fun e he => ?_
      have hqe : e.2.1 ≠ q := fun e2 => by
        have := R.inj e (by simp [he]) (p, q, L) (by simp) e2
        have h3 := (List.nodup_cons.1 hnd).1
        simp only at h3 this
        exact h3 (this ▸ List.mem_map.2 ⟨e, he, rfl⟩)
      have he0 : e.2.2.map (iv .i64) ≠ [] := by simpa using hne e (by simp [he])
      simp only [Function.comp, owE, vaI]
      rw [ZP he0]
      simp [fzD, hqe]
    rw [hes]
    refine ac_fzall m n B clk bs hmB C (A ++ [(p, q, L)]) _ ⟨fun e he => ?_, fun e he e' he' => R.inj e (by simp [he]) e' (by simp [he'])⟩ (fun e he => hne e (by simp [he])) (List.nodup_cons.1 hnd).2 (zM _ _ _) fun H h1 h2 h3 => ?_
    · obtain ⟨a, b, c⟩ := R.at_ e (by simp [he])
      have hqe : e.2.1 ≠ q := fun e2 => by
        have := R.inj e (by simp [he]) (p, q, L) (by simp) e2
        have h3 := (List.nodup_cons.1 hnd).1
        simp only at h3 this
        exact h3 (this ▸ List.mem_map.2 ⟨e, he, rfl⟩)
      exact ⟨a, b, by show zI.upd (zI.upd st.h q none) m _ e.2.1 = _; rw [zG _ _ _ _ (by omega), zG _ _ _ _ hqe]; exact c⟩
    · refine h H (fun x hx hxm => ?_) (fun x hx hxm => ?_) (by rw [h3]; simp)
      · rw [h1 x hx hxm]; show zI.upd (zI.upd st.h q none) m _ x = _; rw [zG _ _ _ _ hxm, zG _ _ _ _ (by omega)]
      · rw [h2 x hx hxm]; show zI.upd (zI.upd st.h q none) m _ x = _; rw [zG _ _ _ _ hxm, zG _ _ _ _ (by omega)]
end Go.AM
namespace Go.AM
open Go.Proofs Cw Du Go.RowKit
set_option maxRecDepth 10000
set_option maxHeartbeats 4000000
def J2 (ls : List Lin) (l : List Ordr) (lo hi : Int) : List Lin × Int := if jN ls l lo hi ≠ 0 then ([], jN ls l lo hi) else if 60 < (plnS (duR ls) lo (hi + 1 - lo).toNat).length then ([], 2) else (plnS (duR ls) lo (hi + 1 - lo).toNat, 0)
theorem ret_lnW {fl : Nat} {K : AV → zI → Nat → Prop} {m : Nat} {V : List Lin} {e : Int} {h : zI} {n : Nat} (hm : h m = some (.cells (flat (V.map zT)))) (h0 : V ≠ []) (hk : ZI fl K (.tup [.agg [lnF V, .fslc true true 0 []], iv .i64 e]) (h.upd m none) n) : ZI fl K (.tup [.agg [.slc m 0 V.length 8, .fslc true true 0 []], iv .i64 e]) h n := by
  refine ret_fzD true hm ?_
  have hfl := QX V
  have ef : fzD m (flat (V.map zT)) true (.tup [.agg [.slc m 0 V.length 8, .fslc true true 0 []], iv .i64 e]) = .tup [.agg [.fslc false false 8 (V.map zT), .fslc true true 0 []], iv .i64 e] := by
    simp only [fzD, J7, Nat.zero_add, List.drop_zero]
    rw [if_pos ⟨trivial, by omega, by simp⟩, elemsLn]
  rw [ef]
  simpa [lnF, h0] using hk
theorem prF_is (L : List Pr) : ∃ nl s, prF L = .fslc nl nl s (L.map keyA) ∧ (L = [] ∨ nl = false ∧ s = 2) := by
  unfold prF
  split
  · rename_i e; subst e; exact ⟨true, 0, rfl, .inl rfl⟩
  · exact ⟨false, 2, rfl, .inr ⟨rfl, rfl⟩⟩
def vaG (L : List Int) : AV := if L = [] then .fslc true true 0 [] else .fslc false false 1 (L.map (iv .i64))
theorem vaG_ne {L : List Int} (h : L ≠ []) : vaG L = .fslc false false 1 (L.map (iv .i64)) := by rw [vaG, if_neg h]
theorem frE_ent (E : List (Pr × Nat × List Int)) (h : ∀ e ∈ E, e.2.2 ≠ []) : E.map frE = jY Zm vaG (E.map fun e => (e.1, e.2.2)) := by
  unfold jY
  rw [List.map_map]
  exact List.map_congr_left fun e he => by simp only [frE, vaF, Function.comp, vaG_ne (h e he)]
theorem valK_map (p : Pr) : ∀ E : List (Pr × Nat × List Int), valK jr p (E.map fun e => (e.1, e.2.2)) = (valK jr p E).map (·.2)
  | [] => rfl
  | e :: r => by
    rw [List.map_cons, valK, valK, valK_map p r]
    split <;> rfl
theorem Plain_spec (nlL fuL : Bool) (sL : Nat) (ls : List Lin) (hnlL : ls = [] ∨ nlL = false ∧ sL = 8) (hsL : smL ls) (hlL : ls.length ≤ 1000000) (nl fu : Bool) (s : Nat) (l : List Ordr) (hnl : l = [] ∨ nl = false ∧ s = 7) (hw : wfO l) (hs : smO l) (hl : l.length ≤ 1000000) (lo hi : Int) :
    zL Tryz.prog 22 [.agg [.fslc nlL fuL sL (ls.map zT), .fslc nl fu s (l.map ZB)], .agg [iv .i64 lo, iv .i64 hi]] (.tup [.agg [lnF (J2 ls l lo hi).1, .fslc true true 0 []], iv .i64 (J2 ls l lo hi).2]) := by
  intro h n
  have k1 := checked_spec nlL fuL sL ls hnlL hsL hlL nl fu s l hnl hw hs hl lo hi
  refine zS.pure (zS.entry (by kernel_rfl) fun hb _ => zX Tryz.func22 rfl (by kernel_rfl) (by simp [Tryz.ntmps22]) ?_)
  by_cases hc : jN ls l lo hi = 0
  · rw [hc] at k1
    obtain ⟨hc0, hlo, hlh, hhi⟩ := QY hc
    have hz := JE hc0 hsL
    have ho : J2 ls l lo hi = if 60 < (plnS (duR ls) lo (hi + 1 - lo).toNat).length then ([], 2) else (plnS (duR ls) lo (hi + 1 - lo).toNat, 0) := by unfold J2; rw [if_neg (by simpa using hc)]
    have k3 := each_spec nlL fuL sL (ls.map zT) nl fu s (l.map ZB) lo hi
    have hS := fun d => jD (dayD_nodup ls (fun x hx => (hz.1 x hx).2.2) d)
    change ∀ d, Ze (duR ls d) at hS
    replace ho : zC _ := ho
    replace hz : zC _ := hz
    replace hS : zC _ := hS
    replace hnlL : zC _ := hnlL
    generalize hLL : List.map zT ls = LL at *
    generalize List.map ZB l = OO at *
    replace hLL : zC _ := hLL
    clear hc hc0 hsL hs hw hnl
    repeat' (first | (refine zF fun K hK => ?_) | (refine zB fun K hK => ?_; simp (disch := omega) [go_sem, *, zG, Tryz.ntmps22 ]) | (apply zC.out hK; clear hK K; try with_reducible dsimp only [zD]) | (apply zC.out hf; clear ht hf Kt Kf) | (with_reducible refine zL.gcall (k1) ?_; try simp (disch := omega) [go_sem, * ]) | (with_reducible refine zL.gcall (k3) ?_; try simp (disch := omega) [go_sem, * ]) | (refine zJ ?_) | (refine zK ?_; simp only [zD]) | (refine zH fun Kt Kf ht hf => ?_; simp (disch := omega) [go_sem, * ]; try (refine ⟨fun hc => ?_, fun hc => ?_⟩ <;> try (exfalso; omega))))
    refine Z1 (t := 7) (m := n + 4 + 4 + 2 + 1) (c := [.map (n + 10)]) (by simp (disch := omega) only [zM]) (by simp [go_sem]) ?_
    dsimp only
    clear k1 k3
    obtain ⟨H3, hH3⟩ : ∃ H3, H3 = (((((h.upd n (some (.cells [.fslc nlL fuL sL LL, .fslc nl fu s OO]))).upd (n + 1) (some (.cells [iv .i64 lo, iv .i64 hi]))).upd (n + 2) (some (.cells [.fslc true true 0 [], .fslc true true 0 []]))).upd (n + 10) (some (.map 0 [] []))).upd (n + 4 + 4 + 2 + 1) (some (.cells [.c (.map none)]))).upd (n + 4 + 4 + 2 + 1) (some (.cells [.map (n + 10)])) := ⟨_, rfl⟩
    have hm0 : H3 (n + 10) = some (.map 0 [] []) := by rw [hH3]; simp (disch := omega) only [zG, zM]
    have hb2 : H3 (n + 2) = some (.cells [.fslc true true 0 [], .fslc true true 0 []]) := by rw [hH3]; simp (disch := omega) only [zG, zM]
    have hfr : zC (∀ x, x < n → H3 x = h x) := fun x hx => by rw [hH3]; simp (disch := omega) only [zG]
    rw [← hH3]
    replace hH3 : zC _ := trivial
    refine JB (by rfl) ?_
    generalize hLO : AObj.loop LoopState.ready none 75 _ _ _ _ = LO
    replace hLO : zC _ := hLO
    show zS Tryz.prog 113 [.yld (n + 4 + 4 + 2 + 3 + 3), .fptr [iv .i64 lo, iv .i64 hi], .fptr [.fslc nlL fuL sL LL, .fslc nl fu s OO]] _ _ _
    rw [← hLL.out]
    refine each_iter nlL fuL sL ls hnlL.out hlL hz.out.1 nl fu s OO lo hi hlo hlh hhi _ (fun d h' n2 => ∃ E clk bs, n + 17 ≤ n2 ∧ RelD E (Zf (duR ls) lo (d - lo).toNat) ∧ MapK Zm vaI h' (n + 10) E clk bs ∧ Rows h' n2 (n + 17) E ∧ h' (n + 4 + 4 + 2 + 3 + 3) = some LO ∧ (∀ x, x < n + 3 → h' x = H3 x)) (fun _ _ => False) _ _ _ ?_ ?_ ?_ ?_ ?_ ?_
    · refine ⟨[], 0, [], by simp only; omega, by rw [Int.sub_self]; exact ⟨List.nodup_nil, fun p => rfl, fun e he => by simp at he⟩, ⟨?_, rfl, List.nodup_nil, fun b hb => by simp at hb⟩, Rows.nil _ _ _, ?_, fun x hx => ?_⟩
      · simp (disch := omega) only [zG]; exact hm0
      · simp (disch := omega) only [zM]
      · simp (disch := omega) only [zG]
    · rintro d h' n2 ⟨E, clk, bs, q0, _⟩; simp only; omega
    · rintro d h' a b ⟨E, clk, bs, q0, q1, q2, q3, q4⟩ hab; exact ⟨E, clk, bs, by omega, q1, q2, q3.mono hab fun _ _ _ => rfl, q4⟩
    · rintro d h' n2 h2 mo n3 hd1 hd2 ⟨E, clk, bs, q0, q1, q2, q3, q4, q5⟩ hm1 hm2 hx2 hm3 KK hI hJ
      have hlo7 := hLO.out
      subst hlo7
      refine yield_at ((hx2 (n + 4 + 4 + 2 + 3 + 3) (by omega)).trans q4) rfl (by simp) ?_
      simp only [go_sem]
      repeat' (first | (refine zF fun K hK => ?_) | (refine zB fun K hK => ?_; simp (disch := omega) [go_sem, *]) | (apply zC.out hK; clear hK K; try with_reducible dsimp only [zD]))
      refine ⟨_, _, _, _, _, (hx2 _ (by omega)).trans q4, ?_⟩
      have hSl := jz ls d
      have hls := hz.out.2.1
      change h2 mo = acO ((duR ls d).map (zY d)) at hm3
      rw [show (ZC (dayD ls d)) = duR ls d from rfl]
      have hdy := dyI_all (duR ls) lo d hd1
      have hdz := dyI_zero (duR ls) lo d
      have hdn := fun i p => dyI_next (duR ls) lo d i p (hS.out d)
      have hdl := fun i p => dyI_len (duR ls) lo d i p
      rw [← hdz] at q1
      generalize hfS : duR ls d = S at *
      refine ac_fzac (t := 9) (m := mo) (s := 3) (L := S.map (zY d)) true (by simp) (by simp (disch := omega) only [zG]; exact hm3) (by simp [go_sem]) (fun x hx => by obtain ⟨o, _, rfl⟩ := List.mem_map.1 hx; rfl) (by rw [List.length_map]; exact elemsD d S) ?_
      dsimp only
      generalize hH5 : zI.upd (zI.upd h2 _ _) mo none = H5
      have hl5 := (congrFun hH5 (n + 4 + 4 + 2 + 3 + 3)).symm.trans ((zG _ _ _ _ (by omega)).trans (zM _ _ _))
      have hM5 : MapK Zm vaI H5 (n + 10) E clk bs := ⟨by rw [← hH5]; simp (disch := omega) only [zG]; rw [hx2 _ (by omega)]; exact q2.at_, q2.len, q2.nd, q2.lt⟩
      have hR5 : Rows H5 n3 (n + 17) E := q3.mono (by omega) fun x h1 h3 => by rw [← hH5]; simp (disch := omega) only [zG]; exact hx2 x h3
      have hf5 : ∀ x, x < n + 3 → H5 x = H3 x := fun x hx => by rw [← hH5]; simp (disch := omega) only [zG]; rw [hx2 _ (by omega), q5 x hx]
      replace hl5 : zC _ := hl5
      replace hM5 : zC _ := hM5
      replace hR5 : zC _ := hR5
      replace hf5 : zC _ := hf5
      replace q1 : zC _ := q1
      replace hdy : zC _ := hdy
      replace hdn : zC _ := hdn
      replace hdl : zC _ := hdl
      replace hfS : zC _ := hfS
      clear hH5 hx2 hm3 q2 q3 q4 q5 hdz
      repeat' (first | (refine zF fun K hK => ?_) | (refine zB fun K hK => ?_; simp (disch := omega) [go_sem, *]) | (apply zC.out hK; clear hK K; try with_reducible dsimp only [zD]) | (refine zJ ?_))
      refine za (fun s' => ∃ (i n4 : Nat) (E : List (Pr × Nat × List Int)) (ck : Nat) (bt : List Nat) (H' : zI), n3 ≤ n4 ∧ i ≤ S.length ∧ RelD E (dyI (duR ls) lo d i) ∧ MapK Zm vaI H' (n + 10) E ck bt ∧ Rows H' n4 (n + 17) E ∧ H' (n + 4 + 4 + 2 + 3 + 3) = H5 (n + 4 + 4 + 2 + 3 + 3) ∧ (∀ x, x < n + 3 → H' x = H3 x) ∧
          s' = ⟨75, [(7, .fptr [.map (n + 10)]), (8, iv .i64 d), (30, .fslc S.isEmpty false 3 (List.map (zY d) S)), (31, iv .i64 S.length), (32, iv .i64 i)], H', n4⟩)
        (fun s' => S.length - (zf s' 32).toNat) ?_ ?_
      · exact zb (by simp [go_sem]) (Sub.refl _) ⟨0, _, E, clk, bs, H5, by omega, by omega, q1.out, hM5.out, hR5.out.mono (by omega) fun _ _ _ => rfl, rfl, hf5.out, rfl⟩
      · rintro s' ⟨i, n4, E, ck, bt, H', p1, p2, p3, p4, p5, p6, p7, rfl⟩
        replace p3 : zC _ := p3
        replace p4 : zC _ := p4
        replace p5 : zC _ := p5
        replace p6 : zC _ := p6
        replace p7 : zC _ := p7
        by_cases hlt : i < S.length
        · obtain ⟨p, hp⟩ : ∃ p, S[i] = p := ⟨_, rfl⟩
          have hne : S.isEmpty = false := by cases S with | nil => simp at hlt | cons a r => rfl
          have hex : zY d S[i] = .agg [iv .i64 d, sv p.1, sv p.2] := by rw [hp]; rfl
          have hps : S[i]? = some p := by rw [List.getElem?_eq_getElem hlt, hp]
          replace hp : zC _ := hp
          replace hps : zC _ := hps
          rw [hne]
          replace hne : zC _ := hne
          refine ac_hbD fun hB => ?_
          have hNM : H' (n4 + 1 + 4 + 7 + 6) = none := QZ hB (by simp only; omega)
          replace hB : zC _ := trivial
          obtain ⟨Hx, hHx⟩ : ∃ Hx, Hx = (((H'.upd (n4 + 1 + 2) (some (.cells [iv .i64 0, sv ByteArray.empty, sv ByteArray.empty]))).upd (n4 + 1 + 2) (some (.cells [iv .i64 d, sv p.1, sv p.2]))).upd (n4 + 1 + 4 + 5) (some (.cells [sv ByteArray.empty, sv ByteArray.empty]))).upd (n4 + 1 + 4 + 5) (some (.cells [sv p.1, sv p.2])) := ⟨_, rfl⟩
          have hxf : ∀ x, x ≠ n4 + 1 + 2 → x ≠ n4 + 1 + 4 + 5 → Hx x = H' x := fun x hx hy => by rw [hHx]; simp only [zG _ _ _ _ hx, zG _ _ _ _ hy]
          have hMx : MapK Zm vaI Hx (n + 10) E ck bt := ⟨by rw [hxf _ (by omega) (by omega)]; exact p4.out.at_, p4.out.len, p4.out.nd, p4.out.lt⟩
          obtain ⟨b, ck', bt', E1, hent, hsto⟩ := ent_K keyP mapTys117 (z := (n4 + 1 + 4 + 7 + 6, [])) (by rw [zerOf53]; rfl) hMx p
          change js Tryz.prog 117 (.map (n + 10)) (.agg [sv p.1, sv p.2]) Hx = _ at hent
          obtain ⟨old, hold⟩ : ∃ old, old = (valK jr p E).getD (n4 + 1 + 4 + 7 + 6, []) := ⟨_, rfl⟩
          have hoL : old.2 = dyI (duR ls) lo d i p := by
            rw [hold, ← p3.out.val p]; cases valK jr p E <;> rfl
          have hoH : old.1 ≠ n + 10 ∧ (old.1 = n4 + 1 + 4 + 7 + 6 ∨ n + 17 ≤ old.1 ∧ old.1 < n4) ∧ Hx old.1 = acO (old.2.map (iv .i64)) ∧ (∀ e ∈ E, e.1 = p → e.2.1 = old.1) ∧ (∀ e ∈ E, e.2.1 = old.1 → e.1 = p) := by
            cases hv : valK jr p E with
            | none =>
              rw [hv] at hold
              simp only [Option.getD_none] at hold
              subst hold
              simp only
              refine ⟨by omega, .inl trivial, by rw [hxf _ (by omega) (by omega), hNM]; rfl, fun e he e2 => ?_, fun e he e2 => ?_⟩
              · exact absurd (e2 ▸ List.mem_map.2 ⟨e, he, rfl⟩) ((valK_none ZK E p).1 hv)
              · have := (p5.out.at_ e he).2.1; omega
            | some y =>
              rw [hv] at hold
              simp only [Option.getD_some] at hold
              subst hold
              have hm := (valK_mem ZK E p old p3.out.nd).2 hv
              obtain ⟨a1, a2, a3⟩ := p5.out.at_ _ hm
              simp only at a1 a2 a3
              refine ⟨by omega, .inr ⟨a1, a2⟩, by rw [hxf _ (by omega) (by omega)]; exact a3, fun e he e2 => ?_, fun e he e2 => ?_⟩
              · have := (valK_mem ZK E e.1 e.2 p3.out.nd).1 he
                rw [e2, hv] at this
                rw [Option.some.inj this]
              · exact p5.out.inj e he _ hm e2
          obtain ⟨ho1, ho2, ho3, ho4, ho5⟩ := hoH
          have hoLl : old.2.length ≤ 402 := by rw [hoL]; have := hdl.out i p; omega
          have hap := ap_int (nm := n4 + 1 + 4 + 7 + 6) (m := old.1) (V := old.2) (x := d) (h := Hx.upd (n + 10) (some (.map ck' bt' (jY Zm vaI E1)))) (b := false) (c := false) (by rw [zG _ _ _ _ ho1]; exact ho3) (by omega)
          obtain ⟨H2, hH2⟩ : ∃ H2, H2 = ((Hx.upd (n + 10) (some (.map ck' bt' (jY Zm vaI E1)))).upd old.1 none).upd (n4 + 1 + 4 + 7 + 6) (acO ((old.2 ++ [d]).map (iv .i64))) := ⟨_, rfl⟩
          have h2m : H2 (n + 10) = some (.map ck' bt' (jY Zm vaI E1)) := by rw [hH2, zG _ _ _ _ (by omega), zG _ _ _ _ (Ne.symm ho1)]; exact zM _ _ _
          have h2f : ∀ x, x ≠ n + 10 → x ≠ old.1 → x < n4 → H2 x = H' x := fun x h1 h3 h4 => by rw [hH2, zG _ _ _ _ (by omega), zG _ _ _ _ h3, zG _ _ _ _ h1, hxf _ (by omega) (by omega)]
          have h2n : H2 (n4 + 1 + 4 + 7 + 6) = acO ((old.2 ++ [d]).map (iv .i64)) := by rw [hH2]; exact zM _ _ _
          obtain ⟨hst, hM3⟩ := hsto H2 (n4 + 1 + 4 + 7 + 6, old.2 ++ [d]) h2m
          rw [← hH2] at hap
          rw [← hold] at hent
          have hR3 := p3.out.put p (n4 + 1 + 4 + 7 + 6) d (g := dyI (duR ls) lo d (i + 1)) (hdn.out i p hps.out)
          rw [← hoL] at hR3
          obtain ⟨H7, hH7⟩ : ∃ H7, H7 = H2.upd (n + 10) (some (.map ck' bt' (jY Zm vaI (putK jr p (n4 + 1 + 4 + 7 + 6, old.2 ++ [d]) E)))) := ⟨_, rfl⟩
          have h7f : ∀ x, x ≠ n + 10 → x ≠ old.1 → x < n4 → H7 x = H' x := fun x h1 h3 h4 => by rw [hH7, zG _ _ _ _ h1]; exact h2f x h1 h3 h4
          have h7n : H7 (n4 + 1 + 4 + 7 + 6) = acO ((old.2 ++ [d]).map (iv .i64)) := by rw [hH7, zG _ _ _ _ (by omega)]; exact h2n
          rw [← hH7] at hst hM3
          have hW3 : Rows H7 (n4 + 1 + 4 + 7 + 7) (n + 17) (putK jr p (n4 + 1 + 4 + 7 + 6, old.2 ++ [d]) E) := p5.out.put p3.out.nd p (old.2 ++ [d]) old.1 ho4 ho5 (by omega) (by omega) (by omega) h7n fun x h1 h3 h4 => h7f x (by omega) h4 h3
          have t6 : H7 (n + 4 + 4 + 2 + 3 + 3) = H5 (n + 4 + 4 + 2 + 3 + 3) := (h7f _ (by omega) (by omega) (by omega)).trans p6.out
          have t7 : ∀ x, x < n + 3 → H7 x = H3 x := fun x hx => (h7f x (by omega) (by omega) (by omega)).trans (p7.out x hx)
          have eV : vaI (n4 + 1 + 4 + 7 + 6, old.2 ++ [d]) = .slc (n4 + 1 + 4 + 7 + 6) 0 (old.2.length + 1) 1 := by unfold vaI; rw [ZP (by simp)]; simp
          have eV2 : acV 1 (n4 + 1 + 4 + 7 + 6) ((old.2 ++ [d]).map (iv .i64)) = .slc (n4 + 1 + 4 + 7 + 6) 0 (old.2.length + 1) 1 := eV
          rw [eV] at hst
          rw [eV2] at hap
          change js _ _ _ _ _ = some (.tup [acV 1 old.1 (old.2.map (iv .i64)), iv .i64 b], _) at hent
          generalize putK jr p (n4 + 1 + 4 + 7 + 6, old.2 ++ [d]) E = E2 at *
          generalize hHy : Hx.upd (n + 10) (some (.map ck' bt' (jY Zm vaI E1))) = Hy at *
          generalize acV 1 old.1 (old.2.map (iv .i64)) = vold at *
          rw [hHx] at hent
          replace hent : zC _ := hent
          replace hap : zC _ := hap
          replace hst : zC _ := hst
          replace hM3 : zC (MapK Zm vaI H7 (n + 10) E2 ck' bt') := hM3
          replace hW3 : zC _ := hW3
          replace hR3 : zC _ := hR3
          replace t6 : zC _ := t6
          replace t7 : zC _ := t7
          clear hNM hHx hxf hMx hsto hold hoL ho1 ho2 ho3 ho4 ho5 hH2 h2m h2f h2n hH7 h7f h7n eV eV2 hHy
          replace p3 : zC _ := trivial
          replace p4 : zC _ := trivial
          replace p5 : zC _ := trivial
          repeat' (first | (refine zF fun K hK => ?_) | (refine zB fun K hK => ?_; simp (disch := omega) [go_sem, *, zQ, zP]) | (apply zC.out hK; clear hK K; try with_reducible dsimp only [zD]) | (apply zC.out ht; clear ht hf Kt Kf) | (refine zJ ?_) | (refine zK ?_; simp only [zD]) | (refine zH fun Kt Kf ht hf => ?_; simp (disch := omega) [go_sem, *]; try (refine ⟨fun hc => ?_, fun hc => ?_⟩ <;> try (exfalso; omega))))
          rw [hent.out]
          replace hent : zC _ := trivial
          simp (disch := omega) [go_sem]
          rw [hap.out]
          replace hap : zC _ := trivial
          simp (disch := omega) [go_sem]
          repeat' (first | (refine zF fun K hK => ?_) | (refine zB fun K hK => ?_; simp (disch := omega) [go_sem, *, zN, zG, Zp, zh, ZT, zQ, zW, zP, zk]) | (refine jm (by simp [go_sem]) (by simp (disch := omega) [go_sem, *]; first | exact rfl | exact ⟨rfl, rfl, rfl⟩) ?_; try simp only [zm, JA]) | (refine jm (by simp [go_sem]) (by (try simp (disch := omega) [go_sem, *]); first | exact rfl | exact ⟨rfl, rfl, rfl⟩) ?_; try simp only [zm, JA]) | (refine ZR ?_) | (apply zC.out hK; clear hK K; try with_reducible dsimp only [zD]) | (apply zC.out ht; clear ht hf Kt Kf) | (apply zC.out hf; clear ht hf Kt Kf) | (clear hK K; apply zC.out hK; clear hK K; try with_reducible dsimp only [zD]) | (clear hK K; clear hK K; apply zC.out hK; clear hK K; try with_reducible dsimp only [zD]) | (refine zJ ?_) | (refine zK ?_; simp only [zD, zO]) | (refine zU ?_; simp only [zD, zO, if_true, if_false, Nat.reduceEqDiff]) | (with_reducible show nextK _ _ _ _ _ _ _; simp (disch := omega) [go_sem, *, zN, zG, Zp, zh, ZT, zQ, zW, zP, zk]) | (refine Z4 (fun hc => ?_) (fun hc => ?_) <;> (try simp only [Bool.not_eq_true', Bool.not_eq_false', Bool.not_eq_eq_eq_not, Bool.not_true, Bool.not_false, decide_eq_true_eq, decide_eq_false_iff_not, Int.not_lt, Int.not_le] at hc) <;> (try (exfalso; omega)) <;> (try simp (disch := omega) [go_sem, *, zN, zG, Zp, zh, ZT, zQ, zW, zP, zk])) | (refine zH fun Kt Kf ht hf => ?_; simp (disch := omega) [go_sem, *, zN, zG, Zp, zh, ZT, zQ, zW, zP, zk]; try (refine ⟨fun hc => ?_, fun hc => ?_⟩ <;> try (exfalso; omega))))
          rw [hst.out]
          replace hst : zC _ := trivial
          simp (disch := omega) [go_sem]
          repeat' (first | (refine zB fun K hK => ?_; simp (disch := omega) [go_sem, *, zN]) | (apply zC.out hK; clear hK K; try with_reducible dsimp only [zD]))
          exact zV (by simp (disch := omega) [go_sem]) (Sub.refl _) ⟨i + 1, _, E2, ck', bt', H7, by omega, by omega, hR3.out, hM3.out, hW3.out.mono (by omega) fun _ _ _ => rfl, t6.out, t7.out, rfl⟩ (by simp [zf, go_sem]; omega)
        · have hii : i = S.length := by omega
          subst hii
          have q1 := p3.out
          rw [hdy.out] at q1
          replace q1 : zC _ := q1
          replace p3 : zC _ := trivial
          repeat' (first | (refine zF fun K hK => ?_) | (refine zB fun K hK => ?_; simp (disch := omega) [go_sem, *]) | (apply zC.out hK; clear hK K; try with_reducible dsimp only [zD]) | (apply zC.out hf; clear ht hf Kt Kf) | (refine zU ?_; simp only [zD, zO, if_true, if_false, Nat.reduceEqDiff]) | (refine zH fun Kt Kf ht hf => ?_; simp (disch := omega) [go_sem, *]; try (refine ⟨fun hc => ?_, fun hc => ?_⟩ <;> try (exfalso; omega))))
          exact ⟨_, _, _, _, _, p6.out.trans hl5.out, hI.out _ _ ⟨E, ck, bt, by simp only; omega, q1.out, ⟨by rw [zG _ _ _ _ (by omega)]; exact p4.out.at_, p4.out.len, p4.out.nd, p4.out.lt⟩, p5.out.mono (by simp only; omega) fun x h1 _ => by rw [zG _ _ _ _ (by omega)], zM _ _ _, fun x hx => by rw [zG _ _ _ _ (by omega)]; exact p7.out x hx⟩⟩
    · rintro h' n2 ⟨E, clk, bs, q0, q1, q2, q3, q4, q5⟩
      have hkk := alP_keys q1
      obtain ⟨Z, z1, z2, z3, z4⟩ := q2.z
      have hal := alP_len (duR ls) 60 (fun d => Nat.le_trans (jz ls d) hz.out.2.1) lo (hi + 1 - lo).toNat
      have hpl := fun i => plnA_len (duR ls) 60 (fun d => Nat.le_trans (jz ls d) hz.out.2.1) lo (hi + 1 - lo).toNat i
      have hpn := fun i p => plnA_next (duR ls) lo (hi + 1 - lo).toNat (alP (duR ls) lo (hi + 1 - lo).toNat) i p
      have hEl : E.length ≤ 401 * 60 := by
        have h1 := (Za (E.map (·.1))).length_eq
        rw [hkk, List.length_map] at h1
        have : (hi + 1 - lo).toNat * 60 ≤ 401 * 60 := Nat.mul_le_mul (by omega) (Nat.le_refl _)
        omega
      have kk := fun nn (hh : n + 10 < nn) => keysP (n + 10) (h'.upd (n + 4 + 4 + 2 + 3 + 3) none) nn hh
      have hZ' : Qf Zm vaI (h'.upd (n + 4 + 4 + 2 + 3 + 3) none) (n + 10) clk Z := by unfold Qf; rw [zG _ _ _ _ (by omega)]; exact z2
      have hZk : Z.map (·.2.1) = E.map (·.1) := by rw [← z1, List.map_map]; rfl
      have hZl : Z.length = E.length := by rw [← z1, List.length_map]
      have ks := fun nn (hh : n + 10 < nn) => sortedPr (n + 10) clk Z z3 z4 (by rw [hZl]; omega) (by rw [hZk]; exact q1.nd) (h'.upd (n + 4 + 4 + 2 + 3 + 3) none) nn hh hZ'
      rw [hZk, hkk] at ks
      have f0 : ∀ x, x < n → h' x = h x := fun x hx => by rw [q5 x (by omega)]; exact hfr.out x hx
      have g2 := (q5 (n + 2) (by omega)).trans hb2
      replace f0 : zC _ := f0
      replace q1 : zC _ := q1
      replace q2 : zC _ := q2
      replace q3 : zC _ := q3
      have hAl : (alP (duR ls) lo (hi + 1 - lo).toNat).length ≤ 401 * 60 := by rw [← hkk, (Za _).length_eq, List.length_map]; exact hEl
      show JL (n + 4 + 4 + 2 + 3 + 3) _ _ _ _ _
      rw [JL, q4, ← hLO.out]
      refine ⟨by simp, ?_⟩
      dsimp only [zO, zD]
      generalize hH4 : h'.upd (n + 4 + 4 + 2 + 3 + 3) none = H4 at *
      have hM4 : MapK Zm vaI H4 (n + 10) E clk bs := ⟨by rw [← hH4, zG _ _ _ _ (by omega)]; exact q2.out.at_, q2.out.len, q2.out.nd, q2.out.lt⟩
      have hR4 : Rows H4 n2 (n + 17) E := q3.out.mono (by omega) fun x h1 _ => by rw [← hH4, zG _ _ _ _ (by omega)]
      have g4 : H4 (n + 2) = some (.cells [.fslc true true 0 [], .fslc true true 0 []]) := by rw [← hH4, zG _ _ _ _ (by omega)]; exact g2
      have f4 : ∀ x, x < n → H4 x = h x := fun x hx => by rw [← hH4, zG _ _ _ _ (by omega)]; exact f0.out x hx
      replace hH4 : zC _ := trivial
      replace f4 : zC _ := f4
      replace hkk : zC _ := trivial
      replace hZ' : zC _ := trivial
      replace hZk : zC _ := trivial
      clear g2 q4 q5 z1 z2 z3 z4
      repeat (refine hK.out _ ?_; clear hK K; try with_reducible dsimp only [zD])
      refine ac_hbD fun hB => ?_
      have hno4 : ∀ x, n2 ≤ x → H4 x = none := fun x hx => QZ hB (by simp only; omega)
      replace hno4 : zC _ := hno4
      replace hB : zC _ := trivial
      replace hM4 : zC _ := hM4
      replace hR4 : zC _ := hR4
      have hkb : (hi + 1 - lo).toNat * 60 ≤ 401 * 60 := Nat.mul_le_mul (by omega) (Nat.le_refl _)
      have hdb := fun p d => qc (duR ls) lo (hi + 1 - lo).toNat p d
      have hda := fun p => dyOf_asc (duR ls) lo (hi + 1 - lo).toNat p
      have hdn := fun p => dyOf_ne (duR ls) lo (hi + 1 - lo).toNat p
      have hdl : ∀ p, (Zf (duR ls) lo (hi + 1 - lo).toNat p).length ≤ 401 := fun p => by
        unfold Zf
        have := List.length_filter_le (fun d => Zh (duR ls d) p) (dys lo (hi + 1 - lo).toNat)
        rw [JV] at this; omega
      have hpS : plnS (duR ls) lo (hi + 1 - lo).toNat = plnA (duR ls) lo (hi + 1 - lo).toNat (alP (duR ls) lo (hi + 1 - lo).toNat) := rfl
      have ho3 := ho.out
      rw [hpS] at ho3
      have hkn : (hi + 1 - lo).toNat = (hi + 1 - lo).toNat := rfl
      generalize hAL : alP (duR ls) lo (hi + 1 - lo).toNat = AL at *
      obtain ⟨nlp, sp, ep, hnp⟩ := prF_is AL
      rw [ep] at ks
      replace ho3 : zC _ := ho3
      replace hpl : zC _ := hpl
      replace hpn : zC _ := hpn
      replace hdb : zC _ := hdb
      replace hda : zC _ := hda
      replace hdn : zC _ := hdn
      replace hdl : zC _ := hdl
      replace hnp : zC _ := hnp
      replace hAL : zC _ := trivial
      replace hpS : zC _ := trivial
      clear ep
      repeat' (first | (refine zF fun K hK => ?_) | (refine zB fun K hK => ?_; simp (disch := omega) [go_sem, *]) | (apply zC.out hK; clear hK K; try with_reducible dsimp only [zD]) | (with_reducible refine APureAt.gcall (kk _ (by omega)) ?_; try simp (disch := omega) [go_sem, *]) | (with_reducible refine APureAt.gcall (ks _ (by omega)) ?_; try simp (disch := omega) [go_sem, *]) | (refine zJ ?_))
      clear kk ks
      refine ac_fzall (n + 10) n2 (n + 17) clk bs (by omega) E [] _ (hR4.out.mono (Nat.le_refl _) fun x _ h3 => zG _ _ _ _ (by omega)) q1.out.ne q1.out.nd (by show zI.upd H4 _ _ _ = _; rw [zG _ _ _ _ (by omega)]; exact hM4.out.at_) fun H5 h51 h52 h53 => ?_
      dsimp only at h51 h52 ⊢
      rw [List.nil_append, frE_ent E q1.out.ne] at h53
      have hM5 : ∀ H : zI, H (n + 10) = H5 (n + 10) → MapK Zm vaG H (n + 10) (E.map fun e => (e.1, e.2.2)) clk bs := fun H hH => ⟨hH.trans h53, by rw [List.length_map]; exact hM4.out.len, hM4.out.nd, hM4.out.lt⟩
      have hvl : ∀ p, (valK jr p (E.map fun e => (e.1, e.2.2))).getD [] = Zf (duR ls) lo (hi + 1 - lo).toNat p := fun p => by rw [valK_map]; exact q1.out.val p
      have g5 : H5 (n2 + 4) = some (.cells [.fslc true true 0 [], .fslc true true 0 []]) := by rw [h52 _ (by omega) (by omega)]; exact zM _ _ _
      have r5 : H5 (n + 2) = some (.cells [.fslc true true 0 [], .fslc true true 0 []]) := by rw [h51 _ (by omega) (by omega), zG _ _ _ _ (by omega)]; exact g4
      have f5 : ∀ x, x < n → H5 x = h x := fun x hx => by rw [h51 _ (by omega) (by omega), zG _ _ _ _ (by omega)]; exact f4.out x hx
      have hno5 : ∀ x, n2 + 4 < x → H5 x = none := fun x hx => by rw [h52 _ (by omega) (by omega), zG _ _ _ _ (by omega)]; exact hno4.out x (by omega)
      replace hM5 : zC _ := hM5
      replace hvl : zC _ := hvl
      replace f5 : zC _ := f5
      replace hno5 : zC _ := hno5
      replace hM4 : zC _ := trivial
      replace hR4 : zC _ := trivial
      replace h53 : zC _ := trivial
      clear h51 h52 g4
      refine za (fun s' => ∃ (i n5 q : Nat) (W : List Lin) (H6 : zI), n2 + 8 ≤ n5 ∧ i ≤ AL.length ∧ n2 + 4 < q ∧ q < n5 ∧ W = plnA (duR ls) lo (hi + 1 - lo).toNat (AL.take i) ∧ H6 (n2 + 4) = some (.cells [acV 8 q (W.map zT), .fslc true true 0 []]) ∧ H6 q = acO (W.map zT) ∧ H6 (n + 10) = H5 (n + 10) ∧ H6 (n + 2) = some (.cells [.fslc true true 0 [], .fslc true true 0 []]) ∧ (∀ x, x < n → H6 x = h x) ∧
          s' = ⟨75, [(4, .ptr (n + 2) 0), (7, .fptr [.map (n + 10)]), (14, .ptr (n2 + 4) 0), (53, .fslc nlp nlp sp (List.map keyA AL)), (54, iv .i64 AL.length), (55, iv .i64 i)], H6, n5⟩)
        (fun s' => AL.length - (zf s' 55).toNat) ?_ ?_
      · exact zb (by simp [go_sem]) (Sub.refl _) ⟨0, _, n2 + 5, [], H5, by (try simp only); omega, by omega, by omega, by (try simp only); omega, rfl, g5, hno5.out _ (by omega), rfl, r5, f5.out, rfl⟩
      · rintro s' ⟨i, n5, q, W, H6, w1, w2, w3, w4, w5, w6, w7, w8, w9, w10, rfl⟩
        replace w10 : zC _ := w10
        have hWl : W.length ≤ 401 * 60 := by rw [w5]; have := hpl.out i; omega
        by_cases hlt : i < AL.length
        · obtain ⟨p, hp⟩ : ∃ p, AL[i] = p := ⟨_, rfl⟩
          have hne : AL ≠ [] := fun e => by rw [e] at hlt; simp at hlt
          obtain ⟨rfl, rfl⟩ := hnp.out.resolve_left hne
          have hpm : p ∈ AL := hp ▸ List.getElem_mem hlt
          have hnx := hpn.out i p (by rw [List.getElem?_eq_getElem hlt, hp])
          rw [← w5] at hnx
          have hD0 := hdn.out p hpm
          have hDb := fun d (hd : d ∈ Zf (duR ls) lo (hi + 1 - lo).toNat p) => (hdb.out p d).1 hd
          have hDl := hdl.out p
          have klines := lines_spec false false 1 p (Zf (duR ls) lo (hi + 1 - lo).toNat p) ⟨rfl, rfl⟩ hD0 (hda.out p) (fun d hd => by have := hDb d hd; omega) hDl
          have hLp := lnsP_len p (Zf (duR ls) lo (hi + 1 - lo).toNat p) hD0
          have hX0 : qP p (Zf (duR ls) lo (hi + 1 - lo).toNat p) ≠ [] := by
            obtain ⟨d, hd⟩ := List.exists_mem_of_ne_nil _ hD0
            obtain ⟨x, hx, _⟩ := (lnsP_on p _ (hda.out p) hD0 d).2 hd
            exact List.ne_nil_of_mem hx
          have hlook := fun (H : zI) (hH : H (n + 10) = H5 (n + 10)) => look_K keyP mapTys117 (va := vaG) (z := []) (by rw [zerOf53]; rfl) (hM5.out H hH) p false
          simp only [hvl.out p] at hlook
          generalize Zf (duR ls) lo (hi + 1 - lo).toNat p = D at *
          simp only [vaG_ne hD0] at hlook
          generalize hXX : qP p D = X at *
          rw [show lnF X = .fslc false false 8 (X.map zT) from if_neg hX0] at klines
          have hap := fun nm (H : zI) (hH : H q = H6 q) => ap_ln (nm := nm) (m := q) (V := W) (X := X) (h := H) (b := false) (c := false) (by rw [hH]; exact w7) hX0 (by omega)
          have hex : keyA AL[i] = .agg [sv p.1, sv p.2] := by rw [hp]; rfl
          replace hlook : zC _ := hlook
          replace hap : zC _ := hap
          replace hnx : zC _ := hnx
          replace hp : zC _ := hp
          replace w5 : zC _ := trivial
          replace hDb : zC _ := trivial
          replace hX0 : zC _ := hX0
          replace hD0 : zC _ := trivial
          clear hne hpm
          repeat' (first | (refine zF fun K hK => ?_) | (refine zB fun K hK => ?_; simp (disch := omega) [go_sem, *, zQ, zP]) | (apply zC.out hK; clear hK K; try with_reducible dsimp only [zD]) | (apply zC.out ht; clear ht hf Kt Kf) | (refine zJ ?_) | (refine zK ?_; simp only [zD]) | (refine zH fun Kt Kf ht hf => ?_; simp (disch := omega) [go_sem, *]; try (refine ⟨fun hc => ?_, fun hc => ?_⟩ <;> try (exfalso; omega))))
          refine Z1 (t := 16) (m := n5 + 1 + 2) (c := [sv p.1, sv p.2]) (zM _ _ _) (by simp [go_sem]) ?_
          dsimp only
          generalize hH8 : zI.upd (zI.upd (zI.upd H6 _ _) _ _) (n5 + 1 + 2) none = H8
          have x6 : H8 (n2 + 4) = some (.cells [acV 8 q (W.map zT), .fslc true true 0 []]) := by rw [← hH8]; simp (disch := omega) only [zG]; exact w6
          have x8 : H8 (n + 10) = H5 (n + 10) := by rw [← hH8]; simp (disch := omega) only [zG]; exact w8
          have x7 : H8 q = H6 q := by rw [← hH8]; simp (disch := omega) only [zG]
          have x9 : H8 (n + 2) = some (.cells [.fslc true true 0 [], .fslc true true 0 []]) := by rw [← hH8]; simp (disch := omega) only [zG]; exact w9
          have x10 : ∀ x, x < n → H8 x = h x := fun x hx => by rw [← hH8]; simp (disch := omega) only [zG]; exact w10.out x hx
          have hap := fun nm => hap.out nm H8 x7
          replace hap : zC _ := hap
          replace x7 : zC _ := x7
          replace x9 : zC _ := x9
          replace x10 : zC _ := x10
          replace x8 : zC _ := x8
          replace w6 : zC _ := trivial
          replace w8 : zC _ := trivial
          replace w9 : zC _ := trivial
          replace hH8 : zC _ := trivial
          refine Qx [7, 9] (fun h' => h' (n2 + 4) = some (.cells [acV 8 q (W.map zT), .fslc true true 0 []]) ∧ h' (n + 10) = H5 (n + 10)) mixed (by kernel_rfl) ⟨x6, x8.out⟩ fun K hK => ?_
          refine aC_c (by simp [go_sem]) (by decide) (fun h' hh => by simp [go_sem]; first | exact rfl | exact ⟨rfl, rfl⟩ | exact ⟨rfl, rfl, rfl⟩) ?_
          simp only [zm]
          refine aC_c (by simp [go_sem]) (by decide) (fun h' hh => by simp [go_sem, hh.1]; first | exact rfl | exact ⟨rfl, rfl⟩ | exact ⟨rfl, rfl, rfl⟩) ?_
          simp only [zm]
          iterate 3 (refine aC_c (by simp [go_sem]) (by decide) (fun h' hh => by simp [go_sem]; first | exact rfl | exact ⟨rfl, rfl⟩ | exact ⟨rfl, rfl, rfl⟩) ?_; simp only [zm])
          have hXn : (W ++ X).map zT ≠ [] := by rw [List.map_append]; intro e; exact hX0.out (by simpa using (List.append_eq_nil_iff.1 e).2)
          have hac : acV 8 (n5 + 1 + 4 + 7) ((W ++ X).map zT) = .slc (n5 + 1 + 4 + 7) 0 (W.length + X.length) 8 := by rw [ZP hXn, List.length_map, List.length_append]
          refine aC_c (x := .fslc false false 1 (D.map (iv .i64))) (by simp [go_sem]) (by decide) (fun h' hh => ?_) ?_
          · have hl := hlook.out h' hh.2
            change qF _ _ _ (.agg [sv p.1, sv p.2]) _ _ = _ at hl
            simp [go_sem] at hl ⊢
            rw [hl]
            exact ⟨rfl, rfl, rfl⟩
          simp only [zm]
          refine aC_c (by simp [go_sem]) (by decide) (fun h' hh => by simp [go_sem]; exact klines.gcall ⟨rfl, rfl, rfl⟩) ?_
          simp only [zm]
          have hap7 := hap.out (n5 + 1 + 4 + 7)
          rw [hac, List.map_append] at hap7
          refine aC_x (x := .slc (n5 + 1 + 4 + 7) 0 (W.length + X.length) 8) (h2 := (H8.upd q none).upd (n5 + 1 + 4 + 7) (acO (W.map zT ++ X.map zT))) (by simp [go_sem]) (by decide) (by simp [go_sem]; rw [hap7]; exact ⟨rfl, rfl, rfl⟩) (.inr ⟨by rw [zG _ _ _ _ (by omega), zG _ _ _ _ (by omega)]; exact x6, by rw [zG _ _ _ _ (by omega), zG _ _ _ _ (by omega)]; exact x8.out⟩) ?_
          simp only [zm]
          have x6' : ((H8.upd q none).upd (n5 + 1 + 4 + 7) (acO (W.map zT ++ X.map zT))) (n2 + 4) = some (.cells [acV 8 q (W.map zT), .fslc true true 0 []]) := by rw [zG _ _ _ _ (by omega), zG _ _ _ _ (by omega)]; exact x6
          refine aC_c (by simp [go_sem]) (by decide) (fun h' hh => by simp [go_sem]; first | exact rfl | exact ⟨rfl, rfl⟩ | exact ⟨rfl, rfl, rfl⟩) ?_
          simp only [zm]
          refine aC_x (by simp [go_sem]) (by decide) (by simp [go_sem, x6']; first | exact rfl | exact ⟨rfl, rfl⟩ | exact ⟨rfl, rfl, rfl⟩) (.inl rfl) ?_
          simp only [JA]
          refine aC_end ?_
          apply zC.out hK
          clear hK K
          dsimp only [zO, zD]
          replace hap7 : zC _ := trivial
          replace x6' : zC _ := trivial
          replace hac : zC _ := hac
          replace hXn : zC _ := hXn
          repeat' (first | (refine zB fun K hK => ?_; simp (disch := omega) [go_sem, *, zN]) | (apply zC.out hK; clear hK K; try with_reducible dsimp only [zD]))
          refine zV (by simp (disch := omega) [go_sem]) (Sub.refl _) ⟨i + 1, _, n5 + 1 + 4 + 7, W ++ X, _, by omega, by omega, by omega, by omega, hnx.out.symm, ?_, ?_, ?_, ?_, fun x hx => ?_, rfl⟩ (by simp [zf, go_sem]; omega)
          · rw [zM, hac.out]
          · rw [zG _ _ _ _ (by omega), zM, List.map_append]
          · rw [zG _ _ _ _ (by omega), zG _ _ _ _ (by omega), zG _ _ _ _ (by omega)]; exact x8.out
          · rw [zG _ _ _ _ (by omega), zG _ _ _ _ (by omega), zG _ _ _ _ (by omega)]; exact x9.out
          · rw [zG _ _ _ _ (by omega), zG _ _ _ _ (by omega), zG _ _ _ _ (by omega)]; exact x10.out x hx
        · have hii : i = AL.length := by omega
          subst hii
          rw [List.take_length] at w5
          rw [← w5] at ho3
          replace w5 : zC _ := trivial
          by_cases hW0 : W = []
          · subst hW0
            have ho4 := ho3.out
            rw [if_neg (by simp)] at ho4
            replace ho4 : zC _ := ho4
            simp only [List.map_nil, jx] at w6
            replace w7 : zC _ := trivial
            repeat' (first | (refine zF fun K hK => ?_) | (refine zB fun K hK => ?_; simp (disch := omega) [go_sem, *, zW]) | (apply zC.out hK; clear hK K; try with_reducible dsimp only [zD]) | (apply zC.out hf; clear ht hf Kt Kf) | (clear hK K; apply zC.out hK; clear hK K; try with_reducible dsimp only [zD]) | (refine zK ?_; simp only [zD]) | (refine zU ?_; simp only [zD, zO, if_true]) | (refine zH fun Kt Kf ht hf => ?_; simp (disch := omega) [go_sem, *]; try (refine ⟨fun hc => ?_, fun hc => ?_⟩ <;> try (exfalso; omega))))
            refine zg ?_
            try dsimp only [zD, zO]
            refine ⟨by simp, _, (by first | rfl | (simp (disch := omega) [go_sem] <;> rfl)), ?_⟩
            rw [ho4.out]
            exact zc ⟨fun k hk => by rw [zG _ _ _ _ (by omega)]; exact w10.out k hk, by simp [go_sem, below, belowL, ZL], by rfl, by simp, by simp⟩
          · have hWn : W.map zT ≠ [] := by simpa using hW0
            have hac : acV 8 q (W.map zT) = .slc q 0 W.length 8 := by rw [ZP hWn, List.length_map]
            rw [hac] at w6
            rw [Z2 hWn] at w7
            replace hW0 : zC _ := hW0
            replace hac : zC _ := trivial
            replace hWn : zC _ := trivial
            by_cases h60 : 60 < W.length
            · have ho4 := ho3.out
              rw [if_pos h60] at ho4
              replace ho4 : zC _ := ho4
              repeat' (first | (refine zF fun K hK => ?_) | (refine zB fun K hK => ?_; simp (disch := omega) [go_sem, *, zQ]) | (apply zC.out hK; clear hK K; try with_reducible dsimp only [zD]) | (apply zC.out ht; clear ht hf Kt Kf) | (apply zC.out hf; clear ht hf Kt Kf) | (clear hK K; apply zC.out hK; clear hK K; try with_reducible dsimp only [zD]) | (refine zU ?_; simp only [zD, zO, if_true]) | (refine zH fun Kt Kf ht hf => ?_; simp (disch := omega) [go_sem, *]; try (refine ⟨fun hc => ?_, fun hc => ?_⟩ <;> try (exfalso; omega))))
              refine zg ?_
              try dsimp only [zD, zO]
              refine ⟨by simp, _, (by first | rfl | (simp (disch := omega) [go_sem] <;> rfl)), ?_⟩
              rw [ho4.out]
              exact zc ⟨fun k hk => by rw [zG _ _ _ _ (by omega)]; exact w10.out k hk, by simp [go_sem, below, belowL, ZL], by rfl, by simp, by simp⟩
            · have ho4 := ho3.out
              rw [if_neg h60] at ho4
              replace ho4 : zC _ := ho4
              repeat' (first | (refine zF fun K hK => ?_) | (refine zB fun K hK => ?_; simp (disch := omega) [go_sem, *, zW]) | (apply zC.out hK; clear hK K; try with_reducible dsimp only [zD]) | (apply zC.out hf; clear ht hf Kt Kf) | (clear hK K; apply zC.out hK; clear hK K; try with_reducible dsimp only [zD]) | (refine zK ?_; simp only [zD]) | (refine zU ?_; simp only [zD, zO, if_true]) | (refine zH fun Kt Kf ht hf => ?_; simp (disch := omega) [go_sem, *]; try (refine ⟨fun hc => ?_, fun hc => ?_⟩ <;> try (exfalso; omega))))
              refine zg ?_
              try dsimp only [zD, zO]
              refine ⟨by simp, _, (by first | rfl | (simp (disch := omega) [go_sem] <;> rfl)), ?_⟩
              rw [ho4.out]
              show ZI _ _ (AV.tup [.agg [.slc q 0 W.length 8, .fslc true true 0 []], iv .i64 0]) _ _
              refine ret_lnW (by rw [zG _ _ _ _ (by omega)]; exact w7) hW0.out ?_
              exact zc ⟨fun k hk => by rw [zG _ _ _ _ (by omega), zG _ _ _ _ (by omega)]; exact w10.out k hk, by simp [below, belowL, QV], rfl, by simp, by simp⟩
    · rintro h' n2 hf
      exact hf.elim
  · have hne : (jN ls l lo hi != 0) = true := by simpa using hc
    have ho : J2 ls l lo hi = ([], jN ls l lo hi) := by unfold J2; rw [if_pos hc]
    rw [ho, show lnF [] = .fslc true true 0 [] from rfl]
    generalize jN ls l lo hi = e at *
    generalize List.map zT ls = LL at *
    generalize List.map ZB l = OO at *
    clear ho hc hsL hs hw hnl hnlL
    repeat' (first | (refine zF fun K hK => ?_) | (refine zB fun K hK => ?_; simp (disch := omega) [go_sem, *, zG, Tryz.ntmps22 ]) | (apply zC.out hK; clear hK K; try with_reducible dsimp only [zD]) | (apply zC.out ht; clear ht hf Kt Kf) | (with_reducible refine zL.gcall (k1) ?_; try simp (disch := omega) [go_sem, * ]) | (refine zH fun Kt Kf ht hf => ?_; simp (disch := omega) [go_sem, * ]; try (refine ⟨fun hc => ?_, fun hc => ?_⟩ <;> try (exfalso; omega))))
    (refine zg ?_; try dsimp only [zD, zO]; refine ⟨by simp, _, (by first | rfl | (simp (disch := omega) [go_sem] <;> rfl)), ?_⟩; refine zc ⟨fun k hk => (by first | rfl | (repeat rw [zG _ _ _ _ (by omega)])), (by simp [go_sem, below, belowL]), (by simp [go_sem] <;> omega), by simp, by simp⟩)
end Go.AM
