/- Rosters: the same days, by both. Conditions: as each theorem says. -/
import Derived.Test.YtkbgmkhdjmkpdaaGreatDoorAz
namespace Go.AM
open Go.Proofs
@[go_sem] theorem nt4 : ¬ (4 ∈ (@Vars.typed Go.Proofs.SAN.vars)) := by decide
@[go_sem] theorem nt29 : ¬ (29 ∈ (@Vars.typed Go.Proofs.SAN.vars)) := by decide
@[go_sem] theorem zerOfB4 : zo Tryz.prog 4 = some (bv false) := by kernel_rfl
end Go.AM
namespace Go.AM
open Go.RowKit
theorem fzDL_map (m : Nat) (c : List AV) (agg : Bool) : ∀ l : List AV, J7 m c agg l = l.map (fzD m c agg)
  | [] => rfl
  | x :: r => by simp only [J7, List.map_cons, fzDL_map m c agg r]
theorem Inv.fzmap [Vars] {w0 : World} {G : Gh} {h : zI} {w : World} (I : Inv w0 G h w) {m p : Nat} {c : List AV} {clk : Nat} {bs : List Nat} {es : List (Value × AV)} (agg : Bool) (hmp : p ≠ m) (hm : h m = some (.cells c)) (hp : h p = some (.map clk bs es)) {r : Nat × Nat × Nat} (hr : G.reg m = some r) :
    Inv w0 (G.freeze w r) ((h.upd m none).upd p (some (.map clk bs (es.map fun e => (e.1, fzD m c agg e.2))))) w := by
  have I1 := I.freeze hm hr
  have e0 : (h.upd m none) p = some (.map clk bs es) := by rw [zG _ _ _ _ hmp]; exact hp
  have hx : ∀ k o, ((h.upd m none).upd p (some (.map clk bs (es.map fun e => (e.1, fzD m c agg e.2))))) k = some o → ∃ o', (h.upd m none) k = some o' := by
    intro k o hk
    by_cases e : k = p
    · subst e; exact ⟨_, e0⟩
    · rw [zG _ _ _ _ e] at hk; exact ⟨o, hk⟩
  refine ⟨I1.below, I1.imm, fun k o hk => ?_, fun a b o q r1 r2 hab h1 h2 => ?_, fun a o r1 x v h1 => ?_, I1.oth⟩
  · by_cases e : k = p
    · subst e
      rw [zM] at hk
      cases hk
      obtain ⟨b, ents, g1, g2⟩ := I.obj k _ hp
      refine ⟨b, ents, g1, ⟨g2.base, g2.blk, ?_, ?_, g2.born, g2.lt⟩⟩
      · rw [g2.keys, List.map_map]; rfl
      · have := fzDL_ok I hm hr agg _ _ g2.vals
        rw [fzDL_map, List.map_map] at this
        rw [List.map_map]; exact this
    · rw [zG _ _ _ _ e] at hk; exact I1.obj k o hk
  · obtain ⟨o', k1⟩ := hx a o h1
    obtain ⟨q', k2⟩ := hx b q h2
    exact I1.disj a b o' q' r1 r2 hab k1 k2
  · obtain ⟨o', k1⟩ := hx a o h1
    exact I1.sep a o' r1 x v k1
section
variable {P : Program} {fl : Nat}
theorem ac_fzmap [Vars] {code : Code} {Q : Exit → St → Prop} {st : St} (m p : Nat) {c : List AV} {clk : Nat} {bs : List Nat} {es : List (Value × AV)} (agg : Bool) (hmp : p ≠ m) (hm : st.h m = some (.cells c)) (hp : st.h p = some (.map clk bs es))
    (h : zi P fl code Q { st with h := (st.h.upd m none).upd p (some (.map clk bs (es.map fun e => (e.1, fzD m c agg e.2)))) }) : zi P fl code Q st := by
  intro r w0 G a w hr S hf
  obtain ⟨rg, hreg⟩ := (S.inv.obj m _ hm).hasReg
  have hle := Gh.le_freeze S.inv hm hreg
  have hx : Ext fl G (G.freeze w rg) := ⟨fun _ _ => rfl, hle.imm, ⟨[], rfl⟩, rfl, fun _ e => e⟩
  exact wpIn_mono (h r w0 (G.freeze w rg) a w hr ⟨S.inv.fzmap agg hmp hm hp hreg, S.size, S.defers, fun t' => (S.slots t').mono hle.v _ _, S.fresh⟩ hf) fun _ _ _ ⟨G', st', e1, e2⟩ => ⟨G', st', hx.trans e1, e2⟩
end
theorem Q4 : ∀ (bs : List Nat) (j b : Nat), bs.Nodup → bs[j]? = some b → bs.findIdx? (fun (c : Nat) => (c : Int) == (b : Int)) = some j
  | [], _, _, _, h => by simp at h
  | x :: r, 0, b, _, h => by
    simp only [List.getElem?_cons_zero, Option.some.injEq] at h
    subst h
    simp [List.findIdx?_cons]
  | x :: r, j + 1, b, hn, h => by
    simp only [List.getElem?_cons_succ] at h
    have a := List.nodup_cons.1 hn
    have hxb : ¬ (x : Int) = (b : Int) := fun e => a.1 (by have : x = b := by omega
                                                           rw [this]; exact List.mem_of_getElem? h)
    rw [List.findIdx?_cons]
    have : ((x : Int) == (b : Int)) = false := by simpa using hxb
    rw [this, Q4 r j b a.2 h]
    rfl
section
variable {P : Program} {α β : Type} {kt : TypeId} {kv : α → Value} {ka : α → AV} {eq : α → α → Bool} {va : β → AV}
theorem entK_set (E : List (α × β)) (j : Nat) (p : α) (x : β) : (jY kv va E).set j (kv p, va x) = jY kv va (E.set j (p, x)) := by
  unfold jY
  rw [List.map_set]
theorem ent_K [Vars] (K : KeyE P kt kv ka eq) {t et : TypeId} (ht : Z7 P t = some (kt, et)) {z : β} (hz : zo P et = some (va z)) {h : zI} {m : Nat} {E : List (α × β)} {clk : Nat} {bs : List Nat} (M : MapK kv va h m E clk bs) (p : α) :
    ∃ (b clk' : Nat) (bs' : List Nat) (E1 : List (α × β)), js P t (.map m) (ka p) h = some (.tup [va ((valK eq p E).getD z), iv .i64 b], h.upd m (some (.map clk' bs' (jY kv va E1)))) ∧
      ∀ (h2 : zI) (x : β), h2 m = some (.map clk' bs' (jY kv va E1)) → jW (.map m) (iv .i64 b) (va x) h2 = some (h2.upd m (some (.map clk' bs' (jY kv va (putK eq p x E))))) ∧ MapK kv va (h2.upd m (some (.map clk' bs' (jY kv va (putK eq p x E))))) m (putK eq p x E) clk' bs' := by
  have hf := find_K K (va := va) p E 0
  have hv := valK_fnd (eq := eq) p E 0
  unfold js
  rw [ht]
  simp only [K.ok, M.at_, hf]
  cases hi : fndK eq p E 0 with
  | none =>
    rw [hi] at hv
    refine ⟨clk, clk + 1, bs ++ [clk], E ++ [(p, z)], by simp [jY, hz, hv], fun h2 x hm => ?_⟩
    obtain ⟨h1, _⟩ := fndK_none (eq := eq) p x E 0 hi
    have hnd : (bs ++ [clk]).Nodup := by
      rw [List.nodup_append]
      refine ⟨M.nd, by simp, fun a ha b hb => ?_⟩
      rw [List.mem_singleton] at hb
      have := M.lt a ha
      omega
    have hix := Q4 (bs ++ [clk]) bs.length clk hnd (by simp)
    unfold jW
    simp only [hm, hix]
    have hg : (jY kv va (E ++ [(p, z)]))[bs.length]? = some (kv p, va z) := by rw [entK_get, M.len]; simp
    rw [hg, h1]
    have hs : (jY kv va (E ++ [(p, z)])).set bs.length (kv p, va x) = jY kv va (E ++ [(p, x)]) := by
      rw [entK_set, M.len]; simp
    refine ⟨by simp only [hs], ⟨zM _ _ _, by simp [M.len], hnd, fun b hb => ?_⟩⟩
    rcases List.mem_append.1 hb with hb | hb
    · have := M.lt b hb; omega
    · rw [List.mem_singleton] at hb; omega
  | some y =>
    obtain ⟨j, v⟩ := y
    rw [hi] at hv
    obtain ⟨_, h1, _⟩ := fndK_some K.iff p v E 0 j v hi
    rw [Nat.sub_zero] at h1
    obtain ⟨hj, hp⟩ := List.getElem?_eq_some_iff.1 h1
    have hk : ((jY kv va E).map (·.1)).getD j (kv p) = kv p := by simp [jY, hj, hp]
    have hjb : j < bs.length := by rw [M.len]; exact hj
    have hg : (jY kv va E)[j]? = some (kv p, va v) := by rw [entK_get, h1]; rfl
    have hsame : (jY kv va E).set j (kv p, va v) = jY kv va E := by
      obtain ⟨hl, e⟩ := List.getElem?_eq_some_iff.1 hg
      rw [← e]; exact List.set_getElem_self hl
    refine ⟨bs[j], clk, bs, E, ?_, fun h2 x hm => ?_⟩
    · simp only [Option.map_some, hk, K.same, if_true, List.getElem?_eq_getElem hjb, hg, hsame, hv, Option.getD_some]
    · obtain ⟨_, _, h3⟩ := fndK_some K.iff p x E 0 j v hi
      rw [Nat.sub_zero] at h3
      have hix := Q4 bs j bs[j] M.nd (List.getElem?_eq_getElem hjb)
      unfold jW
      simp only [hm, hix, hg, h3]
      refine ⟨by rw [entK_set], ⟨zM _ _ _, by rw [List.length_set]; exact M.len, M.nd, M.lt⟩⟩
end
end Go.AM
namespace Du
abbrev Asc (L : List Int) : Prop := L.Pairwise (· < ·)
theorem dys_app : ∀ (k m : Nat) (a : Int), dys a (k + m) = dys a k ++ dys (a + k) m
  | 0, m, a => by simp [dys]
  | k + 1, m, a => by
    rw [show k + 1 + m = (k + m) + 1 by omega, dys, dys_app k m (a + 1), dys, List.cons_append]
    congr 3; omega
theorem dys_asc : ∀ (k : Nat) (a : Int), Asc (dys a k)
  | 0, _ => List.Pairwise.nil
  | k + 1, a => List.pairwise_cons.2 ⟨fun x hx => by rw [jy] at hx; omega, dys_asc k (a + 1)⟩
theorem JV : ∀ (k : Nat) (a : Int), (dys a k).length = k
  | 0, _ => rfl
  | k + 1, a => by rw [dys, List.length_cons, JV k]
theorem QD {α : Type} {P : List α → Prop} (h0 : P []) (h1 : ∀ L d, P L → P (L ++ [d])) (L : List α) : P L := by
  have h : ∀ (n : Nat) (L : List α), L.length = n → P L := by
    intro n
    induction n with
    | zero => intro L hL; rw [List.length_eq_zero_iff] at hL; subst hL; exact h0
    | succ n ih =>
      intro L hL
      have hne : L ≠ [] := fun e => by rw [e] at hL; simp at hL
      rw [← List.dropLast_concat_getLast hne]
      exact h1 _ _ (ih _ (by rw [List.length_dropLast]; omega))
  exact h _ L rfl
def pcF (s : List (Int × Int) × Option Int) (d : Int) : List (Int × Int) × Option Int :=
  (if s.2 = some (d - 1) then s.1.dropLast ++ [((s.1.getLast?.getD (0, 0)).1, d)] else s.1 ++ [(d, d)], some d)
def pcs (L : List Int) : List (Int × Int) := (L.foldl pcF ([], none)).1
theorem pc_last (L : List Int) : (L.foldl pcF ([], none)).2 = L.getLast? := by
  induction L using QD with
  | h0 => rfl
  | h1 L d _ => rw [List.foldl_append]; simp [pcF]
theorem pcs_snoc (L : List Int) (d : Int) : pcs (L ++ [d]) = if L.getLast? = some (d - 1) then (pcs L).dropLast ++ [(((pcs L).getLast?.getD (0, 0)).1, d)] else pcs L ++ [(d, d)] := by
  have h := pc_last L
  unfold pcs
  rw [List.foldl_append, List.foldl_cons, List.foldl_nil]
  generalize List.foldl pcF ([], none) L = s at *
  rw [← h]; rfl
def gpF (s : List Int × Option Int) (d : Int) : List Int × Option Int :=
  (s.1 ++ (match s.2 with | none => [] | some e => dys (e + 1) (d - e - 1).toNat), some d)
def gps (L : List Int) : List Int := (L.foldl gpF ([], none)).1
theorem gp_last (L : List Int) : (L.foldl gpF ([], none)).2 = L.getLast? := by
  induction L using QD with
  | h0 => rfl
  | h1 L d _ => rw [List.foldl_append]; simp [gpF]
theorem gps_snoc (L : List Int) (d : Int) : gps (L ++ [d]) = gps L ++ (match L.getLast? with | none => [] | some e => dys (e + 1) (d - e - 1).toNat) := by
  have h := gp_last L
  unfold gps
  rw [List.foldl_append, List.foldl_cons, List.foldl_nil]
  generalize List.foldl gpF ([], none) L = s at *
  rw [← h]; rfl
def ZY (L : List Int) : List Int := match L with
  | [] => []
  | a :: r => (dys a ((L.getLast?.getD a) + 1 - a).toNat).filter fun d => !decide (d ∈ a :: r)
theorem asc_last {L : List Int} {e : Int} (hA : Asc L) (h : L.getLast? = some e) : ∀ x ∈ L, x ≤ e := by
  obtain ⟨R, rfl⟩ := List.getLast?_eq_some_iff.1 h
  intro x hx
  rcases List.mem_append.1 hx with h1 | h1
  · have := (List.pairwise_append.1 hA).2.2 x h1 e (by simp); omega
  · rw [List.mem_singleton] at h1; omega
theorem QG {a : Int} {r : List Int} (hA : Asc (a :: r)) : ∀ x ∈ a :: r, a ≤ x := by
  intro x hx
  rcases List.mem_cons.1 hx with h1 | h1
  · omega
  · have := (List.pairwise_cons.1 hA).1 x h1; omega
theorem filter_all {α : Type} {p : α → Bool} {L : List α} (h : ∀ x ∈ L, p x = true) : L.filter p = L := List.filter_eq_self.2 h
theorem gps_eq (L : List Int) : Asc L → gps L = ZY L := by
  induction L using QD with
  | h0 => intro _; rfl
  | h1 L d ih =>
    intro hA
    have hA' := List.pairwise_append.1 hA
    rw [gps_snoc, ih hA'.1]
    cases L with
    | nil =>
      simp only [List.getLast?_nil, ZY, List.nil_append, List.getLast?_singleton, Option.getD_some]
      rw [show (d + 1 - d).toNat = 1 by omega]
      simp [dys]
    | cons a r =>
      obtain ⟨e, he⟩ : ∃ e, (a :: r).getLast? = some e := by
        cases h : (a :: r).getLast? with
        | none => rw [List.getLast?_eq_none_iff] at h; cases h
        | some e => exact ⟨e, rfl⟩
      have hle := asc_last hA'.1 he
      have hge := QG hA'.1
      have hem : e ∈ a :: r := List.mem_of_getLast? he
      have hed : e < d := hA'.2.2 e hem d (by simp)
      have hae := hge e hem
      have hl2 : (a :: (r ++ [d])).getLast? = some d := by rw [← List.cons_append, List.getLast?_append]; rfl
      rw [he]
      simp only [List.cons_append, ZY, hl2, he, Option.getD_some]
      have e1 : (d + 1 - a).toNat = (e + 1 - a).toNat + ((d - e - 1).toNat + 1) := by omega
      rw [e1, dys_app, dys_app, List.filter_append, List.filter_append]
      have e2 : a + ((e + 1 - a).toNat : Int) = e + 1 := by omega
      have e3 : e + 1 + ((d - e - 1).toNat : Int) = d := by omega
      rw [e2, e3]
      have f1 : ((dys a (e + 1 - a).toNat).filter fun x => !decide (x ∈ a :: (r ++ [d]))) = (dys a (e + 1 - a).toNat).filter fun x => !decide (x ∈ a :: r) := by
        refine List.filter_congr fun x hx => ?_
        rw [jy] at hx
        have : x ≠ d := by omega
        congr 1
        simp [this]
      have f2 : ((dys (e + 1) (d - e - 1).toNat).filter fun x => !decide (x ∈ a :: (r ++ [d]))) = dys (e + 1) (d - e - 1).toNat := by
        refine filter_all fun x hx => ?_
        rw [jy] at hx
        simp only [Bool.not_eq_true', decide_eq_false_iff_not]
        rw [← List.cons_append, List.mem_append, List.mem_singleton]
        rintro (h | h)
        · have := hle x h; omega
        · omega
      have f3 : ((dys d 1).filter fun x => !decide (x ∈ a :: (r ++ [d]))) = [] := by simp [dys]
      rw [f1, f2, f3, List.append_nil]
structure PcOk (L : List Int) : Prop where
  last : ∀ e, L.getLast? = some e → ∃ f, (pcs L).getLast? = some (f, e)
  le : ∀ q ∈ pcs L, q.1 ≤ q.2 ∧ q.1 ∈ L ∧ q.2 ∈ L
  mem : ∀ x, (∃ q ∈ pcs L, q.1 ≤ x ∧ x ≤ q.2) ↔ x ∈ L
theorem pcs_ok (L : List Int) : PcOk L := by
  induction L using QD with
  | h0 => exact ⟨fun e h => by simp at h, fun q hq => by simp [pcs] at hq, fun x => by simp [pcs]⟩
  | h1 L d ih =>
    have hs := pcs_snoc L d
    by_cases hc : L.getLast? = some (d - 1)
    · rw [if_pos hc] at hs
      obtain ⟨f, hf⟩ := ih.last _ hc
      obtain ⟨A, hA⟩ := List.getLast?_eq_some_iff.1 hf
      rw [hA] at hs
      simp only [List.dropLast_concat, List.getLast?_append, List.getLast?_singleton, Option.some_or, Option.getD_some] at hs
      have hq := ih.le (f, d - 1) (by rw [hA]; simp)
      simp only at hq
      refine ⟨fun e he => ?_, fun q hq2 => ?_, fun x => ?_⟩
      · simp only [List.getLast?_append, List.getLast?_singleton, Option.some_or, Option.some.injEq] at he
        subst he
        exact ⟨f, by rw [hs]; simp⟩
      · rw [hs, List.mem_append, List.mem_singleton] at hq2
        rcases hq2 with h | rfl
        · have := ih.le q (by rw [hA]; simp [h])
          exact ⟨this.1, by simp [this.2.1], by simp [this.2.2]⟩
        · exact ⟨by simp only; omega, by simp [hq.2.1], by simp⟩
      · have hm := ih.mem x
        rw [hs, List.mem_append, List.mem_singleton, ← hm, hA]
        constructor
        · rintro ⟨q, hq2, h1, h2⟩
          rw [List.mem_append, List.mem_singleton] at hq2
          rcases hq2 with h | rfl
          · exact .inl ⟨q, by simp [h], h1, h2⟩
          · simp only at h1 h2
            by_cases e : x = d
            · exact .inr e
            · exact .inl ⟨(f, d - 1), by simp, h1, by simp only; omega⟩
        · rintro (⟨q, hq2, h1, h2⟩ | rfl)
          · rw [List.mem_append, List.mem_singleton] at hq2
            rcases hq2 with h | rfl
            · exact ⟨q, by simp [h], h1, h2⟩
            · simp only at h1 h2
              exact ⟨(f, d), by simp, h1, by simp only; omega⟩
          · exact ⟨(f, x), by simp, by simp only; omega, by simp only; omega⟩
    · rw [if_neg hc] at hs
      refine ⟨fun e he => ?_, fun q hq2 => ?_, fun x => ?_⟩
      · simp only [List.getLast?_append, List.getLast?_singleton, Option.some_or, Option.some.injEq] at he
        subst he
        exact ⟨d, by rw [hs]; simp⟩
      · rw [hs, List.mem_append, List.mem_singleton] at hq2
        rcases hq2 with h | rfl
        · have := ih.le q h
          exact ⟨this.1, by simp [this.2.1], by simp [this.2.2]⟩
        · exact ⟨by simp, by simp, by simp⟩
      · have hm := ih.mem x
        rw [hs, List.mem_append, List.mem_singleton, ← hm]
        constructor
        · rintro ⟨q, hq2, h1, h2⟩
          rw [List.mem_append, List.mem_singleton] at hq2
          rcases hq2 with h | rfl
          · exact .inl ⟨q, h, h1, h2⟩
          · simp only at h1 h2; exact .inr (by omega)
        · rintro (⟨q, hq2, h1, h2⟩ | rfl)
          · exact ⟨q, by simp [hq2], h1, h2⟩
          · exact ⟨(x, x), by simp, by simp, by simp⟩
theorem pcs_len (L : List Int) : (pcs L).length ≤ L.length := by
  induction L using QD with
  | h0 => simp [pcs]
  | h1 L d ih =>
    rw [pcs_snoc]
    split
    · rename_i hc
      obtain ⟨f, hf⟩ := (pcs_ok L).last _ hc
      have hne : pcs L ≠ [] := fun e => by rw [e] at hf; simp at hf
      have := List.length_pos_iff.2 hne
      simp only [List.length_append, List.length_dropLast, List.length_singleton]; omega
    · simp only [List.length_append, List.length_singleton]; omega
def ZH (p : Pr) (fr to : Int) (E : List Int) : Lin := ⟨1, p.1, p.2, ByteArray.empty, fr, to, 1, decide (E = []), decide (E = []), if E = [] then 0 else 1, E⟩
def qP (p : Pr) (L : List Int) : List Lin := if (ZY L).length ≤ 20 then [ZH p (L.head?.getD 0) (L.getLast?.getD 0) (ZY L)] else (pcs L).map fun q => ZH p q.1 q.2 []
theorem mkLn_on (p : Pr) (fr to : Int) (E : List Int) (d : Int) : onL (ZH p fr to E) d = true ↔ fr ≤ d ∧ d ≤ to ∧ d ∉ E := by
  have e : onL (ZH p fr to E) d = (decide (fr ≤ d) && decide (d ≤ to) && decide ((d - fr) % 1 = 0) && !decide (d ∈ E)) := rfl
  rw [e, Int.emod_one]
  simp only [Bool.and_eq_true, decide_eq_true_eq, Bool.not_eq_true', decide_eq_false_iff_not, and_true, and_assoc]
theorem excD_mem {a : Int} {r : List Int} (hA : Asc (a :: r)) {e : Int} (he : (a :: r).getLast? = some e) (d : Int) : (a ≤ d ∧ d ≤ e ∧ d ∉ ZY (a :: r)) ↔ d ∈ a :: r := by
  have hae := QG hA e (List.mem_of_getLast? he)
  simp only [ZY, he, Option.getD_some, List.mem_filter, jy, Bool.not_eq_true', decide_eq_false_iff_not]
  constructor
  · rintro ⟨h1, h2, h3⟩
    refine Decidable.byContradiction fun hn => h3 ⟨⟨h1, by omega⟩, hn⟩
  · intro h
    exact ⟨QG hA d h, asc_last hA he d h, fun hh => hh.2 h⟩
theorem lnsP_on (p : Pr) (L : List Int) (hA : Asc L) (hne : L ≠ []) (d : Int) : (∃ x ∈ qP p L, onL x d = true) ↔ d ∈ L := by
  unfold qP
  split
  · cases L with
    | nil => exact absurd rfl hne
    | cons a r =>
      obtain ⟨e, he⟩ : ∃ e, (a :: r).getLast? = some e := by
        cases h : (a :: r).getLast? with
        | none => rw [List.getLast?_eq_none_iff] at h; cases h
        | some e => exact ⟨e, rfl⟩
      simp only [List.mem_singleton, exists_eq_left, mkLn_on, he, Option.getD_some, List.head?_cons]
      exact excD_mem hA he d
  · rw [← (pcs_ok L).mem d]
    constructor
    · rintro ⟨x, hx, ho⟩
      obtain ⟨q, hq, rfl⟩ := List.mem_map.1 hx
      rw [mkLn_on] at ho
      exact ⟨q, hq, ho.1, ho.2.1⟩
    · rintro ⟨q, hq, h1, h2⟩
      exact ⟨_, List.mem_map.2 ⟨q, hq, rfl⟩, (mkLn_on _ _ _ _ _).2 ⟨h1, h2, by simp⟩⟩
def alP (S : Int → List Pr) (lo : Int) (k : Nat) : List Pr := (dys lo k).foldl (fun A d => (S d).foldl Z3 A) []
def Zf (S : Int → List Pr) (lo : Int) (k : Nat) (p : Pr) : List Int := (dys lo k).filter fun d => Zh (S d) p
def plnS (S : Int → List Pr) (lo : Int) (k : Nat) : List Lin := (alP S lo k).flatMap fun p => qP p (Zf S lo k p)
theorem foldI_mem (p : Pr) : ∀ (D A : List Pr), p ∈ D.foldl Z3 A ↔ p ∈ A ∨ p ∈ D
  | [], A => by simp
  | x :: r, A => by
    rw [List.foldl_cons, foldI_mem p r, QE, List.mem_cons]
    exact ⟨fun h => h.elim (fun h => h.elim .inl fun h => .inr (.inl h)) fun h => .inr (.inr h), fun h => h.elim (fun h => .inl (.inl h)) fun h => h.elim (fun h => .inl (.inr h)) .inr⟩
theorem foldI_sorted : ∀ (D A : List Pr), Ze A → Ze (D.foldl Z3 A)
  | [], _, h => h
  | x :: r, A, h => foldI_sorted r _ (JZ x A h)
theorem alP_mem' (S : Int → List Pr) (p : Pr) : ∀ (D : List Int) (A : List Pr), p ∈ D.foldl (fun A d => (S d).foldl Z3 A) A ↔ p ∈ A ∨ ∃ d ∈ D, p ∈ S d
  | [], A => by simp
  | x :: r, A => by
    rw [List.foldl_cons, alP_mem' S p r, foldI_mem]
    simp only [List.mem_cons, exists_eq_or_imp]
    exact ⟨fun h => h.elim (fun h => h.elim .inl fun h => .inr (.inl h)) fun h => .inr (.inr h), fun h => h.elim (fun h => .inl (.inl h)) fun h => h.elim (fun h => .inl (.inr h)) .inr⟩
theorem alP_mem (S : Int → List Pr) (lo : Int) (k : Nat) (p : Pr) : p ∈ alP S lo k ↔ ∃ d ∈ dys lo k, p ∈ S d := by
  unfold alP; rw [alP_mem']; simp
theorem alP_sorted' (S : Int → List Pr) : ∀ (D : List Int) (A : List Pr), Ze A → Ze (D.foldl (fun A d => (S d).foldl Z3 A) A)
  | [], _, h => h
  | _ :: r, _, h => alP_sorted' S r _ (foldI_sorted _ _ h)
theorem Qz (S : Int → List Pr) (lo : Int) (k : Nat) : Ze (alP S lo k) := alP_sorted' S _ _ List.Pairwise.nil
theorem qc (S : Int → List Pr) (lo : Int) (k : Nat) (p : Pr) (d : Int) : d ∈ Zf S lo k p ↔ (lo ≤ d ∧ d < lo + k) ∧ p ∈ S d := by
  unfold Zf; rw [List.mem_filter, jy, Zi]
theorem dyOf_asc (S : Int → List Pr) (lo : Int) (k : Nat) (p : Pr) : Asc (Zf S lo k p) := (dys_asc k lo).sublist List.filter_sublist
theorem dyOf_ne (S : Int → List Pr) (lo : Int) (k : Nat) (p : Pr) (h : p ∈ alP S lo k) : Zf S lo k p ≠ [] := by
  obtain ⟨d, hd, hp⟩ := (alP_mem S lo k p).1 h
  intro e
  have := (qc S lo k p d).2 ⟨(jy k lo d).1 hd, hp⟩
  rw [e] at this; simp at this
end Du
namespace Du
theorem Qp {α : Type} : ∀ (A B : List α), A.Nodup → (∀ x ∈ A, x ∈ B) → A.length ≤ B.length
  | [], _, _, _ => by simp
  | x :: r, B, hn, h => by
    have a := List.nodup_cons.1 hn
    obtain ⟨P, Q, rfl⟩ := List.append_of_mem (h x (by simp))
    have ih := Qp r (P ++ Q) a.2 fun y hy => by
      have := h y (by simp [hy])
      rw [List.mem_append, List.mem_cons] at this
      rw [List.mem_append]
      rcases this with h1 | rfl | h1
      · exact .inl h1
      · exact absurd hy a.1
      · exact .inr h1
    simp only [List.length_append, List.length_cons] at ih ⊢; omega
theorem sum_add {α : Type} (f g : α → Nat) : ∀ A : List α, (A.map fun p => f p + g p).sum = (A.map f).sum + (A.map g).sum
  | [] => rfl
  | x :: r => by rw [List.map_cons, List.sum_cons, sum_add f g r, List.map_cons, List.sum_cons, List.map_cons, List.sum_cons]; omega
theorem sum_ind {α : Type} (q : α → Bool) : ∀ A : List α, (A.map fun p => if q p then 1 else 0).sum = (A.filter q).length
  | [] => rfl
  | x :: r => by
    rw [List.map_cons, List.sum_cons, sum_ind q r]
    cases h : q x <;> simp [h]; omega
theorem dyOf_succ (S : Int → List Pr) (lo : Int) (k : Nat) (p : Pr) : (Zf S lo (k + 1) p).length = (Zf S lo k p).length + if Zh (S (lo + k)) p then 1 else 0 := by
  unfold Zf
  rw [dys_snoc, List.filter_append, List.length_append]
  congr 1
  cases h : Zh (S (lo + k)) p <;> simp [h]
theorem tot_dy (S : Int → List Pr) (c : Nat) (hc : ∀ d, (S d).length ≤ c) (lo : Int) (A : List Pr) (hA : A.Nodup) : ∀ k : Nat, (A.map fun p => (Zf S lo k p).length).sum ≤ k * c
  | 0 => by
    have : (A.map fun p => (Zf S lo 0 p).length) = A.map fun _ => 0 := List.map_congr_left fun p _ => by simp [Zf, dys]
    rw [this]
    have : ∀ B : List Pr, (B.map fun _ => 0).sum = 0 := fun B => by induction B with | nil => rfl | cons x r ih => rw [List.map_cons, List.sum_cons, ih]
    rw [this]; omega
  | k + 1 => by
    have ih := tot_dy S c hc lo A hA k
    have e : (A.map fun p => (Zf S lo (k + 1) p).length) = A.map fun p => (Zf S lo k p).length + (if Zh (S (lo + k)) p then 1 else 0) := List.map_congr_left fun p _ => dyOf_succ S lo k p
    rw [e, sum_add, sum_ind]
    have h2 : (A.filter (Zh (S (lo + k)))).length ≤ (S (lo + k)).length := Qp (A.filter (Zh (S (lo + k)))) (S (lo + k)) (hA.sublist List.filter_sublist) fun p hp => (Zi _ _).1 (List.mem_filter.1 hp).2
    have := hc (lo + k)
    rw [Nat.succ_mul]; omega
theorem sum_le {α : Type} (f g : α → Nat) : ∀ A : List α, (∀ x ∈ A, f x ≤ g x) → (A.map f).sum ≤ (A.map g).sum
  | [], _ => Nat.le_refl _
  | x :: r, h => by
    have h1 := h x (by simp)
    have h2 := sum_le f g r fun y hy => h y (by simp [hy])
    rw [List.map_cons, List.sum_cons, List.map_cons, List.sum_cons]; omega
theorem sum_one {α : Type} : ∀ A : List α, (A.map fun _ => 1).sum = A.length
  | [] => rfl
  | x :: r => by rw [List.map_cons, List.sum_cons, sum_one r, List.length_cons]; omega
theorem srt_nodup {D : List Pr} (h : Ze D) : D.Nodup := h.imp fun {a b} hab e => by rw [e, jq] at hab; cases hab
theorem alP_len (S : Int → List Pr) (c : Nat) (hc : ∀ d, (S d).length ≤ c) (lo : Int) (k : Nat) : (alP S lo k).length ≤ k * c := by
  refine Nat.le_trans ?_ (tot_dy S c hc lo (alP S lo k) (srt_nodup (Qz S lo k)) k)
  rw [← sum_one (alP S lo k)]
  exact sum_le _ _ _ fun p hp => List.length_pos_iff.2 (dyOf_ne S lo k p hp)
theorem lnsP_len (p : Pr) (L : List Int) (h : L ≠ []) : (qP p L).length ≤ L.length := by
  unfold qP
  split
  · exact List.length_pos_iff.2 h
  · rw [List.length_map]; exact pcs_len L
def plnA (S : Int → List Pr) (lo : Int) (k : Nat) (A : List Pr) : List Lin := A.flatMap fun p => qP p (Zf S lo k p)
theorem plnA_len (S : Int → List Pr) (c : Nat) (hc : ∀ d, (S d).length ≤ c) (lo : Int) (k : Nat) (i : Nat) : (plnA S lo k ((alP S lo k).take i)).length ≤ k * c := by
  refine Nat.le_trans ?_ (tot_dy S c hc lo ((alP S lo k).take i) ((srt_nodup (Qz S lo k)).sublist (List.take_sublist _ _)) k)
  unfold plnA
  rw [List.length_flatMap]
  exact sum_le _ _ _ fun p hp => lnsP_len p _ (dyOf_ne S lo k p (List.mem_of_mem_take hp))
theorem plnA_next (S : Int → List Pr) (lo : Int) (k : Nat) (A : List Pr) (i : Nat) (p : Pr) (h : A[i]? = some p) : plnA S lo k (A.take (i + 1)) = plnA S lo k (A.take i) ++ qP p (Zf S lo k p) := by
  obtain ⟨hlt, e⟩ := List.getElem?_eq_some_iff.1 h
  unfold plnA
  rw [List.take_succ_eq_append_getElem hlt, e, List.flatMap_append]
  simp
end Du
namespace Go.AM
open Go.Proofs Cw Du
set_option maxRecDepth 10000
set_option maxHeartbeats 4000000
theorem zS.ret [Vars] {P : Program} {f : FuncId} {args : List AV} {h : zI} {n : Nat} {K : AV → zI → Nat → Prop} [Vars] (hc : zS P f args h n fun x h' n' => ZI n K x h' n') : zS P f args h n K := by
  refine ⟨hc.1, fun w0 G w vs I hf hr => (hc.2 w0 G w vs I hf hr).mono ?_⟩
  rintro e w' ⟨G', r, x, h', n', e1, ⟨e2, eo⟩, e3, e4, e5, e6, x2, h2, n2, hs, hk⟩
  obtain ⟨G2, ⟨f1, fo⟩, f2, f3, f4, f5⟩ := hs w0 G' w' r e3 e4 e6 e5
  exact ⟨G2, r, x2, h2, n2, e1, ⟨e2.trans f1, fo.trans eo⟩, f2, f3, f5, f4, hk⟩
theorem below_dutF2 (n : Nat) (d : Int) (L : List Pr) : below n (ZW d L) := by
  unfold ZW; split
  · simp [below, belowL]
  · exact below_dut n d L _ _ _
theorem foundF_spec (nl fu : Bool) (s : Nat) (ls : List Lin) (hnl : ls = [] ∨ nl = false ∧ s = 8) (hl : ls.length ≤ 1000000) (hk : ∀ l ∈ ls, lnOk l) (onl ofu : Bool) (os : Nat) (O : List AV) (d : Int) (h0 : 0 ≤ d) (h4 : d ≤ 400) :
    zL Tryz.prog 43 [.agg [.fslc nl fu s (ls.map zT), .fslc onl ofu os O], iv .i64 d] (ZW d (duR ls d)) := by
  intro h n
  refine zS.pure (zS.ret ((found_spec nl fu s ls hnl hl hk onl ofu os O d h0 h4 h n).mono fun r h' n' hp => ?_))
  obtain ⟨m, hm1, hm2, e, hm, hx⟩ := hp
  subst e
  show ZI _ _ (acV 3 m ((duR ls d).map (zY d))) _ _
  change h' m = acO ((duR ls d).map (zY d)) at hm
  generalize duR ls d = S at *
  by_cases hS : S = []
  · subst hS
    refine zc ⟨hx, ?_, rfl, rfl, rfl⟩
    simp [jx, below, belowL]
  · have h1 : S.map (zY d) ≠ [] := by simpa using hS
    rw [Z2 h1] at hm
    rw [ZP h1]
    refine ret_dut (d := d) (ts := S) hm (by rw [List.length_map]) hS (zc ⟨fun x hxn => ?_, below_dutF2 n d S, rfl, rfl, rfl⟩)
    rw [zG _ _ _ _ (by omega)]; exact hx x hxn
theorem eqL_ne {L M : List Pr} {i : Nat} {x y : Pr} (hx : L[i]? = some x) (hy : M[i]? = some y) (hne : jr x y = false) : decide (L = M) = false := by
  rw [decide_eq_false_iff_not]
  intro e
  rw [e, hy] at hx
  cases hx
  rw [(ZK _ _).2 rfl] at hne; cases hne
theorem eqL_all {L M : List Pr} (hl : L.length = M.length) (h : ∀ (j : Nat) (x y : Pr), j < L.length → L[j]? = some x → M[j]? = some y → jr x y = true) : decide (L = M) = true := by
  rw [decide_eq_true_eq]
  refine List.ext_getElem hl fun j h1 h2 => ?_
  exact (ZK _ _).1 (h j _ _ h1 (List.getElem?_eq_getElem h1) (List.getElem?_eq_getElem h2))
theorem equalD_spec (d : Int) (nl fu : Bool) (s : Nat) (L : List Pr) (hnl : L = [] ∨ nl = false ∧ s = 3) (nm fm : Bool) (z : Nat) (M : List Pr) (hnm : M = [] ∨ nm = false ∧ z = 3) (hl : L.length ≤ 1000000) (_hm : M.length ≤ 1000000) : zL Tryz.prog 58 [.fslc nl fu s (L.map (zY d)), .fslc nm fm z (M.map (zY d))] (bv (decide (L = M))) := by
  intro h n
  refine zS.pure (zS.entry (by kernel_rfl) fun hb _ => zX Tryz.func58 rfl (by kernel_rfl) (by simp [Tryz.ntmps58]) ?_)
  obtain ⟨T, hT⟩ : ∃ T, zC (T = decide (L = M)) := ⟨_, rfl⟩
  rw [← hT.out]
  replace hnl : zC _ := hnl
  replace hnm : zC _ := hnm
  by_cases hlen : L.length = M.length
  · skip
    repeat' (first | (refine zF fun K hK => ?_) | (refine zB fun K hK => ?_; simp (disch := omega) [go_sem, *, Tryz.ntmps58]) | (apply zC.out hK; clear hK K; try with_reducible dsimp only [zD]) | (apply zC.out hf; clear ht hf Kt Kf) | (refine zJ ?_) | (refine zK ?_; simp only [zD]) | (refine zH fun Kt Kf ht hf => ?_; simp (disch := omega) [go_sem, *]; try (refine ⟨fun hc => ?_, fun hc => ?_⟩ <;> try (exfalso; omega))))
    refine za (fun s' => ∃ (i n' : Nat), n ≤ n' ∧ i ≤ L.length ∧ (∀ (j : Nat) (x y : Pr), j < i → L[j]? = some x → M[j]? = some y → jr x y = true) ∧ s' = ⟨26, [(0, .fslc nl fu s (L.map (zY d))), (1, .fslc nm fm z (M.map (zY d))), (12, iv .i64 M.length), (13, iv .i64 i)], h, n'⟩)
      (fun s' => L.length - (zf s' 13).toNat) ?_ ?_
    · exact zb (by simp [go_sem, *]) (Sub.refl _) ⟨0, _, by omega, by omega, fun j x y hj => by omega, rfl⟩
    · rintro s' ⟨i, n', hn', hi, hall, rfl⟩
      replace hall : zC _ := hall
      by_cases hlt : i < L.length
      · obtain ⟨⟨p1, p2⟩, hx⟩ : ∃ x, L[i] = x := ⟨_, rfl⟩
        have hltM : i < M.length := by omega
        obtain ⟨⟨q1, q2⟩, hy⟩ : ∃ x, M[i] = x := ⟨_, rfl⟩
        have hne : L ≠ [] := fun e => by rw [e] at hlt; simp at hlt
        have hne2 : M ≠ [] := fun e => by rw [e] at hltM; simp at hltM
        obtain ⟨rfl, rfl⟩ := hnl.out.resolve_left hne
        obtain ⟨rfl, rfl⟩ := hnm.out.resolve_left hne2
        have hex : zY d L[i] = .agg [iv .i64 d, sv p1, sv p2] := by rw [hx]; rfl
        have hey : zY d M[i] = .agg [iv .i64 d, sv q1, sv q2] := by rw [hy]; rfl
        have hxs : L[i]? = some (p1, p2) := by rw [List.getElem?_eq_getElem hlt, hx]
        have hys : M[i]? = some (q1, q2) := by rw [List.getElem?_eq_getElem hltM, hy]
        replace hx : zC _ := hx
        replace hy : zC _ := hy
        clear hne hne2
        cases hq : ((p1.toList == q1.toList) && (p2.toList == q2.toList)) with
        | true =>
          have hst : zC (∀ (j : Nat) (x y : Pr), j < i + 1 → L[j]? = some x → M[j]? = some y → jr x y = true) := fun j x y hj h1 h2 => by
            rcases Nat.lt_or_ge j i with h3 | h3
            · exact hall.out j x y h3 h1 h2
            · have : j = i := by omega
              subst this
              rw [hxs] at h1; rw [hys] at h2; cases h1; cases h2; exact hq
          replace hxs : zC _ := hxs
          replace hys : zC _ := hys
          repeat' (first | (refine zF fun K hK => ?_) | (refine zB fun K hK => ?_; simp (disch := omega) [go_sem, *, zN, zQ]) | (refine zl mixed (by kernel_rfl) fun K hK => ?_; simp (disch := omega) [go_sem, *, zP]) | (apply zC.out hK; clear hK K; try with_reducible dsimp only [zD]) | (apply zC.out ht; clear ht hf Kt Kf) | (apply zC.out hf; clear ht hf Kt Kf) | (refine zJ ?_) | (refine zK ?_; simp only [zD, zO]) | (refine zH fun Kt Kf ht hf => ?_; simp (disch := omega) [go_sem, *]; try (refine ⟨fun hc => ?_, fun hc => ?_⟩ <;> try (exfalso; omega))))
          exact zV (by simp (disch := omega) [go_sem]) (Sub.refl _) ⟨i + 1, _, by omega, by omega, hst.out, rfl⟩ (by simp [zf, go_sem]; omega)
        | false =>
          have hTf : T = false := by rw [hT.out]; exact eqL_ne hxs hys hq
          subst hTf
          replace hxs : zC _ := hxs
          replace hys : zC _ := hys
          repeat' (first | (refine zF fun K hK => ?_) | (refine zB fun K hK => ?_; simp (disch := omega) [go_sem, *, zQ]) | (refine zl mixed (by kernel_rfl) fun K hK => ?_; simp (disch := omega) [go_sem, *, zP]) | (apply zC.out hK; clear hK K; try with_reducible dsimp only [zD]) | (apply zC.out ht; clear ht hf Kt Kf) | (refine zJ ?_) | (refine zK ?_; simp only [zD]) | (refine zH fun Kt Kf ht hf => ?_; simp (disch := omega) [go_sem, *]; try (refine ⟨fun hc => ?_, fun hc => ?_⟩ <;> try (exfalso; omega))))
          exact zR
      · have hTt : T = true := by rw [hT.out]; exact eqL_all hlen fun j x y hj => hall.out j x y (by omega)
        subst hTt
        repeat' (first | (refine zF fun K hK => ?_) | (refine zB fun K hK => ?_; simp (disch := omega) [go_sem, *, zW]) | (apply zC.out hK; clear hK K; try with_reducible dsimp only [zD]) | (apply zC.out hf; clear ht hf Kt Kf) | (clear hK K; apply zC.out hK; clear hK K; try with_reducible dsimp only [zD]) | (refine zU ?_; simp only [zD, zO, if_true]) | (refine zH fun Kt Kf ht hf => ?_; simp (disch := omega) [go_sem, *]; try (refine ⟨fun hc => ?_, fun hc => ?_⟩ <;> try (exfalso; omega))))
        exact zR
  · have hTf : T = false := by rw [hT.out, decide_eq_false_iff_not]; exact fun e => hlen (by rw [e])
    subst hTf
    repeat' (first | (refine zF fun K hK => ?_) | (refine zB fun K hK => ?_; simp (disch := omega) [go_sem, *, Tryz.ntmps58]) | (apply zC.out hK; clear hK K; try with_reducible dsimp only [zD]) | (apply zC.out ht; clear ht hf Kt Kf) | (refine zH fun Kt Kf ht hf => ?_; simp (disch := omega) [go_sem, *]; try (refine ⟨fun hc => ?_, fun hc => ?_⟩ <;> try (exfalso; omega))))
    exact zR
theorem sameD2_spec (d : Int) (L M : List Pr) (hl : L.length ≤ 1000000) (_hm : M.length ≤ 1000000) : zL Tryz.prog 14 [ZW d L, ZW d M] (bv (decide (L = M))) := by
  intro h n
  refine zS.pure (zS.entry (by kernel_rfl) fun hb _ => zX Tryz.func14 rfl (by kernel_rfl) (by simp [Tryz.ntmps14]) ?_)
  obtain ⟨T, hT⟩ : ∃ T, zC (T = decide (L = M)) := ⟨_, rfl⟩
  rw [← hT.out]
  obtain ⟨nl, s, e, hnl⟩ := JU d L
  obtain ⟨nm, z, e2, hnm⟩ := JU d M
  rw [e, e2]
  replace hnl : zC _ := hnl
  replace hnm : zC _ := hnm
  clear e e2
  by_cases hlen : L.length = M.length
  · skip
    repeat' (first | (refine zF fun K hK => ?_) | (refine zB fun K hK => ?_; simp (disch := omega) [go_sem, *, Tryz.ntmps14]) | (apply zC.out hK; clear hK K; try with_reducible dsimp only [zD]) | (apply zC.out hf; clear ht hf Kt Kf) | (refine zJ ?_) | (refine zK ?_; simp only [zD]) | (refine zH fun Kt Kf ht hf => ?_; simp (disch := omega) [go_sem, *]; try (refine ⟨fun hc => ?_, fun hc => ?_⟩ <;> try (exfalso; omega))))
    refine za (fun s' => ∃ (i n' : Nat), n ≤ n' ∧ i ≤ L.length ∧ (∀ (j : Nat) (x y : Pr), j < i → L[j]? = some x → M[j]? = some y → jr x y = true) ∧ s' = ⟨26, [(0, .fslc nl nl s (L.map (zY d))), (1, .fslc nm nm z (M.map (zY d))), (5, iv .i64 i)], h, n'⟩)
      (fun s' => L.length - (zf s' 5).toNat) ?_ ?_
    · exact zb (by simp [go_sem, *]) (Sub.refl _) ⟨0, _, by omega, by omega, fun j x y hj => by omega, rfl⟩
    · rintro s' ⟨i, n', hn', hi, hall, rfl⟩
      replace hall : zC _ := hall
      by_cases hlt : i < L.length
      · obtain ⟨⟨p1, p2⟩, hx⟩ : ∃ x, L[i] = x := ⟨_, rfl⟩
        have hltM : i < M.length := by omega
        obtain ⟨⟨q1, q2⟩, hy⟩ : ∃ x, M[i] = x := ⟨_, rfl⟩
        have hne : L ≠ [] := fun e => by rw [e] at hlt; simp at hlt
        have hne2 : M ≠ [] := fun e => by rw [e] at hltM; simp at hltM
        obtain ⟨rfl, rfl⟩ := hnl.out.resolve_left hne
        obtain ⟨rfl, rfl⟩ := hnm.out.resolve_left hne2
        have hex : zY d L[i] = .agg [iv .i64 d, sv p1, sv p2] := by rw [hx]; rfl
        have hey : zY d M[i] = .agg [iv .i64 d, sv q1, sv q2] := by rw [hy]; rfl
        have hxs : L[i]? = some (p1, p2) := by rw [List.getElem?_eq_getElem hlt, hx]
        have hys : M[i]? = some (q1, q2) := by rw [List.getElem?_eq_getElem hltM, hy]
        replace hx : zC _ := hx
        replace hy : zC _ := hy
        clear hne hne2
        cases hq : ((p1.toList == q1.toList) && (p2.toList == q2.toList)) with
        | true =>
          have hst : zC (∀ (j : Nat) (x y : Pr), j < i + 1 → L[j]? = some x → M[j]? = some y → jr x y = true) := fun j x y hj h1 h2 => by
            rcases Nat.lt_or_ge j i with h3 | h3
            · exact hall.out j x y h3 h1 h2
            · have : j = i := by omega
              subst this
              rw [hxs] at h1; rw [hys] at h2; cases h1; cases h2; exact hq
          replace hxs : zC _ := hxs
          replace hys : zC _ := hys
          repeat' (first | (refine zF fun K hK => ?_) | (refine zB fun K hK => ?_; simp (disch := omega) [go_sem, *, zN, zQ]) | (refine zl mixed (by kernel_rfl) fun K hK => ?_; simp (disch := omega) [go_sem, *, zP]) | (apply zC.out hK; clear hK K; try with_reducible dsimp only [zD]) | (apply zC.out ht; clear ht hf Kt Kf) | (apply zC.out hf; clear ht hf Kt Kf) | (refine zJ ?_) | (refine zK ?_; simp only [zD, zO]) | (refine zH fun Kt Kf ht hf => ?_; simp (disch := omega) [go_sem, *]; try (refine ⟨fun hc => ?_, fun hc => ?_⟩ <;> try (exfalso; omega))))
          exact zV (by simp (disch := omega) [go_sem]) (Sub.refl _) ⟨i + 1, _, by omega, by omega, hst.out, rfl⟩ (by simp [zf, go_sem]; omega)
        | false =>
          have hTf : T = false := by rw [hT.out]; exact eqL_ne hxs hys hq
          subst hTf
          replace hxs : zC _ := hxs
          replace hys : zC _ := hys
          repeat' (first | (refine zF fun K hK => ?_) | (refine zB fun K hK => ?_; simp (disch := omega) [go_sem, *, zQ]) | (refine zl mixed (by kernel_rfl) fun K hK => ?_; simp (disch := omega) [go_sem, *, zP]) | (apply zC.out hK; clear hK K; try with_reducible dsimp only [zD]) | (apply zC.out ht; clear ht hf Kt Kf) | (refine zJ ?_) | (refine zK ?_; simp only [zD]) | (refine zH fun Kt Kf ht hf => ?_; simp (disch := omega) [go_sem, *]; try (refine ⟨fun hc => ?_, fun hc => ?_⟩ <;> try (exfalso; omega))))
          exact zR
      · have hTt : T = true := by rw [hT.out]; exact eqL_all hlen fun j x y hj => hall.out j x y (by omega)
        subst hTt
        repeat' (first | (refine zF fun K hK => ?_) | (refine zB fun K hK => ?_; simp (disch := omega) [go_sem, *, zW]) | (apply zC.out hK; clear hK K; try with_reducible dsimp only [zD]) | (apply zC.out hf; clear ht hf Kt Kf) | (clear hK K; apply zC.out hK; clear hK K; try with_reducible dsimp only [zD]) | (refine zU ?_; simp only [zD, zO, if_true]) | (refine zH fun Kt Kf ht hf => ?_; simp (disch := omega) [go_sem, *]; try (refine ⟨fun hc => ?_, fun hc => ?_⟩ <;> try (exfalso; omega))))
        exact zR
  · have hTf : T = false := by rw [hT.out, decide_eq_false_iff_not]; exact fun e => hlen (by rw [e])
    subst hTf
    repeat' (first | (refine zF fun K hK => ?_) | (refine zB fun K hK => ?_; simp (disch := omega) [go_sem, *, Tryz.ntmps14]) | (apply zC.out hK; clear hK K; try with_reducible dsimp only [zD]) | (apply zC.out ht; clear ht hf Kt Kf) | (refine zH fun Kt Kf ht hf => ?_; simp (disch := omega) [go_sem, *]; try (refine ⟨fun hc => ?_, fun hc => ?_⟩ <;> try (exfalso; omega))))
    exact zR
end Go.AM
namespace Du
def difD (S T : Int → List Pr) : Int → Nat → Option Int
  | _, 0 => none
  | d, k + 1 => if S d = T d then difD S T (d + 1) k else some d
theorem difD_at (S T : Int → List Pr) : ∀ (k : Nat) (lo d : Int), lo ≤ d → d < lo + k → (∀ x, lo ≤ x → x < d → S x = T x) → S d ≠ T d → difD S T lo k = some d
  | 0, lo, d, h1, h2, _, _ => by omega
  | k + 1, lo, d, h1, h2, h3, h4 => by
    rw [difD]
    by_cases e : lo = d
    · subst e; rw [if_neg h4]
    · rw [if_pos (h3 lo (by omega) (by omega))]
      exact difD_at S T k (lo + 1) d (by omega) (by omega) (fun x h5 h6 => h3 x (by omega) h6) h4
theorem difD_none (S T : Int → List Pr) : ∀ (k : Nat) (lo : Int), (∀ x, lo ≤ x → x < lo + k → S x = T x) → difD S T lo k = none
  | 0, _, _ => rfl
  | k + 1, lo, h => by
    rw [difD, if_pos (h lo (by omega) (by omega))]
    exact difD_none S T k (lo + 1) fun x h1 h2 => h x (by omega) (by omega)
end Du
namespace Go.AM
open Go.Proofs Cw Du
set_option maxRecDepth 10000
set_option maxHeartbeats 4000000
def Jn (la : List Lin) (l : List Ordr) (lb : List Lin) (m : List Ordr) (lo hi : Int) : Int × Bool × Int :=
  if jj la l ≠ 0 then (0, false, jj la l) else if jN lb m lo hi ≠ 0 then (0, false, jN lb m lo hi) else
  match difD (duR la) (duR lb) lo (hi + 1 - lo).toNat with
  | some d => (d, false, 0)
  | none => (0, true, 0)
theorem outS_some {la : List Lin} {l : List Ordr} {lb : List Lin} {m : List Ordr} {lo hi d : Int} (h1 : jj la l = 0) (h2 : jN lb m lo hi = 0) (hl : lo ≤ d) (hd : d ≤ hi) (h3 : ∀ x, lo ≤ x → x < d → duR la x = duR lb x) (h4 : duR la d ≠ duR lb d) : Jn la l lb m lo hi = (d, false, 0) := by
  unfold Jn
  rw [if_neg (by simpa using h1), if_neg (by simpa using h2), difD_at _ _ _ lo d hl (by omega) h3 h4]
theorem outS_none {la : List Lin} {l : List Ordr} {lb : List Lin} {m : List Ordr} {lo hi : Int} (h1 : jj la l = 0) (h2 : jN lb m lo hi = 0) (h3 : ∀ x, lo ≤ x → x ≤ hi → duR la x = duR lb x) : Jn la l lb m lo hi = (0, true, 0) := by
  unfold Jn
  rw [if_neg (by simpa using h1), if_neg (by simpa using h2), difD_none _ _ _ lo fun x hx hy => h3 x hx (by omega)]
theorem rSameDays_spec (nlL fuL : Bool) (sL : Nat) (ls : List Lin) (hnlL : ls = [] ∨ nlL = false ∧ sL = 8) (hsL : smL ls) (hlL : ls.length ≤ 1000000) (nl fu : Bool) (s : Nat) (l : List Ordr) (hnl : l = [] ∨ nl = false ∧ s = 7) (hw : wfO l) (hs : smO l) (hl : l.length ≤ 1000000)
    (nlM fuM : Bool) (sM : Nat) (ms : List Lin) (hnlM : ms = [] ∨ nlM = false ∧ sM = 8) (hsM : smL ms) (hlM : ms.length ≤ 1000000) (nk fk : Bool) (z : Nat) (m : List Ordr) (hnk : m = [] ∨ nk = false ∧ z = 7) (hwm : wfO m) (hsm : smO m) (hm : m.length ≤ 1000000) (lo hi : Int) :
    zL Tryz.prog 21 [.agg [.fslc nlL fuL sL (ls.map zT), .fslc nl fu s (l.map ZB)], .agg [.fslc nlM fuM sM (ms.map zT), .fslc nk fk z (m.map ZB)], .agg [iv .i64 lo, iv .i64 hi]] (.tup [iv .i64 (Jn ls l ms m lo hi).1, bv (Jn ls l ms m lo hi).2.1, iv .i64 (Jn ls l ms m lo hi).2.2]) := by
  intro h n
  have k0 := rcheck_spec nlL fuL sL ls hnlL hsL hlL nl fu s l hnl hw hs hl
  have k1 := spanned_spec nlM fuM sM ms hnlM hsM hlM nk fk z m hnk hwm hsm hm lo hi
  refine zS.pure (zS.entry (by kernel_rfl) fun hb _ => zX Tryz.func21 rfl (by kernel_rfl) (by simp [Tryz.ntmps21]) ?_)
  by_cases hw0 : jj ls l = 0
  · by_cases hc : jN ms m lo hi = 0
    · rw [hw0] at k0
      rw [hc] at k1
      obtain ⟨hc0, hlo, hlh, hhi⟩ := QY hc
      have hzL := JE hw0 hsL
      have hzM := JE hc0 hsM
      have kd := fun d h0 h4 => day_spec nlL fuL sL ls hnlL (by omega) hzL.1 nl fu s (l.map ZB) d h0 h4
      have km := fun d h0 h4 => day_spec nlM fuM sM ms hnlM (by omega) hzM.1 nk fk z (m.map ZB) d h0 h4
      have ke := fun d => dayR_eq ls (fun x hx => (hzL.1 x hx).2.2) d
      have kf := fun d => dayR_eq ms (fun x hx => (hzM.1 x hx).2.2) d
      have hS := fun d => outS_some (d := d) hw0 hc
      have hN := outS_none hw0 hc
      have hll := fun d => jz ls d
      have hlm := fun d => jz ms d
      replace hS : zC _ := hS
      replace hN : zC _ := hN
      replace kd : zC _ := kd
      replace km : zC _ := km
      replace ke : zC _ := ke
      replace kf : zC _ := kf
      replace hll : zC _ := hll
      replace hlm : zC _ := hlm
      replace hzL : zC _ := hzL
      replace hzM : zC _ := hzM
      generalize List.map zT ls = LL at *
      generalize List.map ZB l = OO at *
      generalize List.map zT ms = ML at *
      generalize List.map ZB m = MO at *
      clear hc hc0 hw0 hsL hs hw hnl hnlL hsM hsm hwm hnk hnlM
      repeat' (first | (refine zF fun K hK => ?_) | (refine zB fun K hK => ?_; simp (disch := omega) [go_sem, *, zG, Tryz.ntmps21 ]) | (apply zC.out hK; clear hK K; try with_reducible dsimp only [zD]) | (apply zC.out hf; clear ht hf Kt Kf) | (with_reducible refine zL.gcall (k0) ?_; try simp (disch := omega) [go_sem, * ]) | (with_reducible refine zL.gcall (k1) ?_; try simp (disch := omega) [go_sem, * ]) | (refine zJ ?_) | (refine zK ?_; simp only [zD]) | (refine zH fun Kt Kf ht hf => ?_; simp (disch := omega) [go_sem, * ]; try (refine ⟨fun hc => ?_, fun hc => ?_⟩ <;> try (exfalso; omega))))
      obtain ⟨H3, hH3⟩ : ∃ H3, zC (H3 = ((h.upd n (some (.cells [.fslc nlL fuL sL LL, .fslc nl fu s OO]))).upd (n + 1) (some (.cells [.fslc nlM fuM sM ML, .fslc nk fk z MO]))).upd (n + 2) (some (.cells [iv .i64 lo, iv .i64 hi]))) := ⟨_, rfl⟩
      have hb0 : H3 n = some (.cells [.fslc nlL fuL sL LL, .fslc nl fu s OO]) := by rw [hH3.out]; simp (disch := omega) only [zG, zM]
      have hb1 : H3 (n + 1) = some (.cells [.fslc nlM fuM sM ML, .fslc nk fk z MO]) := by rw [hH3.out]; simp (disch := omega) only [zG, zM]
      have hb2 : H3 (n + 2) = some (.cells [iv .i64 lo, iv .i64 hi]) := by rw [hH3.out]; simp (disch := omega) only [zM]
      have hfr : zC (∀ x, x < n → H3 x = h x) := fun x hx => by rw [hH3.out]; simp (disch := omega) only [zG]
      simp only [← hH3.out]
      replace hH3 : zC _ := trivial
      clear k0 k1
      refine za (fun s' => ∃ (d : Int) (n' : Nat), n ≤ n' ∧ lo ≤ d ∧ d ≤ hi + 1 ∧ (∀ x, lo ≤ x → x < d → duR ls x = duR ms x) ∧ s' = ⟨42, [(3, .ptr n 0), (4, .ptr (n + 1) 0), (5, .ptr (n + 2) 0), (11, iv .i64 d)], H3, n'⟩)
        (fun s' => (hi + 1 - zf s' 11).toNat) ?_ ?_
      · exact zb (by simp [go_sem]) (Sub.refl _) ⟨lo, _, by omega, by omega, by omega, fun x h1 h2 => by omega, rfl⟩
      · rintro s' ⟨d, n', r1, r2, r3, r4, rfl⟩
        replace r4 : zC _ := r4
        by_cases hdh : d ≤ hi
        · have k2 := kd.out d (by omega) (by omega)
          have k3 := km.out d (by omega) (by omega)
          rw [ke.out d] at k2
          rw [kf.out d] at k3
          change zL _ _ _ (ZW d (duR ls d)) at k2
          change zL _ _ _ (ZW d (duR ms d)) at k3
          have k4 := sameD2_spec d (duR ls d) (duR ms d) (by have := hll.out d; omega) (by have := hlm.out d; omega)
          obtain ⟨a1, a2, e2, _⟩ := JU d (duR ls d)
          obtain ⟨b1, b2, e3, _⟩ := JU d (duR ms d)
          rw [e2] at k2 k4
          rw [e3] at k3 k4
          by_cases hq : duR ls d = duR ms d
          · have hst : zC (∀ x, lo ≤ x → x < d + 1 → duR ls x = duR ms x) := fun x h1 h2 => by
              by_cases e : x = d
              · subst e; exact hq
              · exact r4.out x h1 (by omega)
            rw [show decide (duR ls d = duR ms d) = true from decide_eq_true hq] at k4
            replace hq : zC _ := hq
            generalize List.map (zY d) (duR ls d) = A at *
            generalize List.map (zY d) (duR ms d) = B at *
            replace e2 : zC _ := trivial
            replace e3 : zC _ := trivial
            repeat' (first | (refine zF fun K hK => ?_) | (refine zB fun K hK => ?_; simp (disch := omega) [go_sem, *]) | (apply zC.out hK; clear hK K; try with_reducible dsimp only [zD]) | (apply zC.out ht; clear ht hf Kt Kf) | (refine zJ ?_) | (refine zK ?_; simp only [zD]) | (refine zH fun Kt Kf ht hf => ?_; simp (disch := omega) [go_sem, *]; try (refine ⟨fun hc => ?_, fun hc => ?_⟩ <;> try (exfalso; omega))))
            refine zq mixed (by kernel_rfl) fun K hK => ?_
            simp (disch := omega) [go_sem, *]
            repeat' (first | (refine zF fun K hK => ?_) | (refine zB fun K hK => ?_; simp (disch := omega) [go_sem, *, zN]) | (refine jm (by simp [go_sem]) (by simp (disch := omega) [go_sem, *]; first | exact rfl | exact ⟨rfl, rfl, rfl⟩ | exact (k2).gcall ⟨rfl, rfl, rfl⟩ | exact (k3).gcall ⟨rfl, rfl, rfl⟩ | exact (k4).gcall ⟨rfl, rfl, rfl⟩) ?_; try simp only [zm]) | (refine ZR ?_) | (apply zC.out hK; clear hK K; try with_reducible dsimp only [zD]) | (apply zC.out hf; clear ht hf Kt Kf) | (refine zK ?_; simp only [zD, zO]) | (refine zH fun Kt Kf ht hf => ?_; simp (disch := omega) [go_sem, *]; try (refine ⟨fun hc => ?_, fun hc => ?_⟩ <;> try (exfalso; omega))))
            exact zV (by simp (disch := omega) [go_sem]) (Sub.refl _) ⟨d + 1, _, by omega, by omega, by omega, hst.out, rfl⟩ (by simp [zf, go_sem]; omega)
          · have ho := hS.out d r2 hdh r4.out hq
            rw [show decide (duR ls d = duR ms d) = false from decide_eq_false hq] at k4
            rw [ho]
            replace hq : zC _ := hq
            generalize List.map (zY d) (duR ls d) = A at *
            generalize List.map (zY d) (duR ms d) = B at *
            replace e2 : zC _ := trivial
            replace e3 : zC _ := trivial
            replace ho : zC _ := trivial
            repeat' (first | (refine zF fun K hK => ?_) | (refine zB fun K hK => ?_; simp (disch := omega) [go_sem, *]) | (apply zC.out hK; clear hK K; try with_reducible dsimp only [zD]) | (apply zC.out ht; clear ht hf Kt Kf) | (refine zJ ?_) | (refine zK ?_; simp only [zD]) | (refine zH fun Kt Kf ht hf => ?_; simp (disch := omega) [go_sem, *]; try (refine ⟨fun hc => ?_, fun hc => ?_⟩ <;> try (exfalso; omega))))
            refine zq mixed (by kernel_rfl) fun K hK => ?_
            simp (disch := omega) [go_sem, *]
            repeat' (first | (refine zF fun K hK => ?_) | (refine zB fun K hK => ?_; simp (disch := omega) [go_sem, *]) | (refine jm (by simp [go_sem]) (by simp (disch := omega) [go_sem, *]; first | exact rfl | exact ⟨rfl, rfl, rfl⟩ | exact (k2).gcall ⟨rfl, rfl, rfl⟩ | exact (k3).gcall ⟨rfl, rfl, rfl⟩ | exact (k4).gcall ⟨rfl, rfl, rfl⟩) ?_; try simp only [zm]) | (refine ZR ?_) | (apply zC.out hK; clear hK K; try with_reducible dsimp only [zD]) | (apply zC.out ht; clear ht hf Kt Kf) | (refine zH fun Kt Kf ht hf => ?_; simp (disch := omega) [go_sem, *]; try (refine ⟨fun hc => ?_, fun hc => ?_⟩ <;> try (exfalso; omega))))
            refine zg ?_
            try dsimp only [zD, zO]
            refine ⟨by simp, _, (by first | rfl | (simp (disch := omega) [go_sem, zG] <;> rfl)), ?_⟩
            exact zc ⟨fun k hk => hfr.out k hk, by simp [go_sem, below, belowL, ZL], by rfl, by simp, by simp⟩
        · have ho := hN.out fun x h1 h2 => r4.out x h1 (by omega)
          replace ho : zC _ := ho
          repeat' (first | (refine zF fun K hK => ?_) | (refine zB fun K hK => ?_; simp (disch := omega) [go_sem, *]) | (apply zC.out hK; clear hK K; try with_reducible dsimp only [zD]) | (apply zC.out hf; clear ht hf Kt Kf) | (clear hK K; apply zC.out hK; clear hK K; try with_reducible dsimp only [zD]) | (refine zU ?_; simp only [zD, zO, if_true]) | (refine zH fun Kt Kf ht hf => ?_; simp (disch := omega) [go_sem, *]; try (refine ⟨fun hc => ?_, fun hc => ?_⟩ <;> try (exfalso; omega))))
          refine zg ?_
          try dsimp only [zD, zO]
          refine ⟨by simp, _, (by first | rfl | (simp (disch := omega) [go_sem, zG] <;> rfl)), ?_⟩
          rw [ho.out]
          exact zc ⟨fun k hk => hfr.out k hk, by simp [go_sem, below, belowL, ZL], by rfl, by simp, by simp⟩
    · have ho : Jn ls l ms m lo hi = (0, false, jN ms m lo hi) := by unfold Jn; rw [if_neg (by simpa using hw0), if_pos hc]
      have hne : (jN ms m lo hi != 0) = true := by simpa using hc
      rw [ho]
      rw [hw0] at k0
      generalize jN ms m lo hi = e at *
      generalize List.map zT ls = LL at *
      generalize List.map ZB l = OO at *
      generalize List.map zT ms = ML at *
      generalize List.map ZB m = MO at *
      clear ho hc hw0 hsL hs hw hnl hnlL hsM hsm hwm hnk hnlM
      repeat' (first | (refine zF fun K hK => ?_) | (refine zB fun K hK => ?_; simp (disch := omega) [go_sem, *, zG, Tryz.ntmps21 ]) | (apply zC.out hK; clear hK K; try with_reducible dsimp only [zD]) | (apply zC.out ht; clear ht hf Kt Kf) | (apply zC.out hf; clear ht hf Kt Kf) | (with_reducible refine zL.gcall (k0) ?_; try simp (disch := omega) [go_sem, * ]) | (with_reducible refine zL.gcall (k1) ?_; try simp (disch := omega) [go_sem, * ]) | (refine zK ?_; simp only [zD]) | (refine zH fun Kt Kf ht hf => ?_; simp (disch := omega) [go_sem, * ]; try (refine ⟨fun hc => ?_, fun hc => ?_⟩ <;> try (exfalso; omega))))
      (refine zg ?_; try dsimp only [zD, zO]; refine ⟨by simp, _, (by first | rfl | (simp (disch := omega) [go_sem, zG] <;> rfl)), ?_⟩; refine zc ⟨fun k hk => (by first | rfl | (repeat rw [zG _ _ _ _ (by omega)])), (by simp [go_sem, below, belowL]), (by simp [go_sem] <;> omega), by simp, by simp⟩)
  · have ho : Jn ls l ms m lo hi = (0, false, jj ls l) := by unfold Jn; rw [if_pos hw0]
    have hne : (jj ls l != 0) = true := by simpa using hw0
    rw [ho]
    generalize jj ls l = e at *
    generalize jN ms m lo hi = e1 at *
    generalize List.map zT ls = LL at *
    generalize List.map ZB l = OO at *
    generalize List.map zT ms = ML at *
    generalize List.map ZB m = MO at *
    clear ho hw0 hsL hs hw hnl hnlL hsM hsm hwm hnk hnlM
    repeat' (first | (refine zF fun K hK => ?_) | (refine zB fun K hK => ?_; simp (disch := omega) [go_sem, *, zG, Tryz.ntmps21 ]) | (apply zC.out hK; clear hK K; try with_reducible dsimp only [zD]) | (apply zC.out ht; clear ht hf Kt Kf) | (with_reducible refine zL.gcall (k0) ?_; try simp (disch := omega) [go_sem, * ]) | (with_reducible refine zL.gcall (k1) ?_; try simp (disch := omega) [go_sem, * ]) | (refine zH fun Kt Kf ht hf => ?_; simp (disch := omega) [go_sem, * ]; try (refine ⟨fun hc => ?_, fun hc => ?_⟩ <;> try (exfalso; omega))))
    (refine zg ?_; try dsimp only [zD, zO]; refine ⟨by simp, _, (by first | rfl | (simp (disch := omega) [go_sem, zG] <;> rfl)), ?_⟩; refine zc ⟨fun k hk => (by first | rfl | (repeat rw [zG _ _ _ _ (by omega)])), (by simp [go_sem, below, belowL]), (by simp [go_sem] <;> omega), by simp, by simp⟩)
end Go.AM
namespace Go.AM
open Go.Proofs Cw Du
set_option maxRecDepth 10000
set_option maxHeartbeats 4000000
theorem SameDays_spec (nlL fuL : Bool) (sL : Nat) (ls : List Lin) (hnlL : ls = [] ∨ nlL = false ∧ sL = 8) (hsL : smL ls) (hlL : ls.length ≤ 1000000) (nl fu : Bool) (s : Nat) (l : List Ordr) (hnl : l = [] ∨ nl = false ∧ s = 7) (hw : wfO l) (hs : smO l) (hl : l.length ≤ 1000000)
    (nlM fuM : Bool) (sM : Nat) (ms : List Lin) (hnlM : ms = [] ∨ nlM = false ∧ sM = 8) (hsM : smL ms) (hlM : ms.length ≤ 1000000) (nk fk : Bool) (z : Nat) (m : List Ordr) (hnk : m = [] ∨ nk = false ∧ z = 7) (hwm : wfO m) (hsm : smO m) (hm : m.length ≤ 1000000) (lo hi : Int) :
    zL Tryz.prog 20 [.agg [.fslc nlL fuL sL (ls.map zT), .fslc nl fu s (l.map ZB)], .agg [.fslc nlM fuM sM (ms.map zT), .fslc nk fk z (m.map ZB)], .agg [iv .i64 lo, iv .i64 hi]] (.tup [iv .i64 (Jn ls l ms m lo hi).1, bv (Jn ls l ms m lo hi).2.1, iv .i64 (Jn ls l ms m lo hi).2.2]) := by
  intro h n
  have k0 := check_spec nlL fuL sL ls hnlL hsL hlL nl fu s l hnl hw hs hl
  have k1 := checked_spec nlM fuM sM ms hnlM hsM hlM nk fk z m hnk hwm hsm hm lo hi
  refine zS.pure (zS.entry (by kernel_rfl) fun hb _ => zX Tryz.func20 rfl (by kernel_rfl) (by simp [Tryz.ntmps20]) ?_)
  by_cases hw0 : jj ls l = 0
  · by_cases hc : jN ms m lo hi = 0
    · rw [hw0] at k0
      rw [hc] at k1
      obtain ⟨hc0, hlo, hlh, hhi⟩ := QY hc
      have hzL := JE hw0 hsL
      have hzM := JE hc0 hsM
      have kd := fun d h0 h4 => foundF_spec nlM fuM sM ms hnlM hlM hzM.1 nk fk z (m.map ZB) d h0 h4
      have k3 := each_spec nlL fuL sL (ls.map zT) nl fu s (l.map ZB) lo hi
      have hS := fun d => outS_some (d := d) hw0 hc
      have hN := outS_none hw0 hc
      have hll := fun d => jz ls d
      have hlm := fun d => jz ms d
      replace hS : zC _ := hS
      replace hN : zC _ := hN
      replace kd : zC _ := kd
      replace hll : zC _ := hll
      replace hlm : zC _ := hlm
      replace hzL : zC _ := hzL
      replace hzM : zC _ := hzM
      replace hnlL : zC _ := hnlL
      generalize hLL : List.map zT ls = LL at *
      generalize List.map ZB l = OO at *
      generalize List.map zT ms = ML at *
      generalize List.map ZB m = MO at *
      replace hLL : zC _ := hLL
      clear hc hc0 hw0 hsL hs hw hnl hsM hsm hwm hnk hnlM
      repeat' (first | (refine zF fun K hK => ?_) | (refine zB fun K hK => ?_; simp (disch := omega) [go_sem, *, zG, Tryz.ntmps20 ]) | (apply zC.out hK; clear hK K; try with_reducible dsimp only [zD]) | (apply zC.out hf; clear ht hf Kt Kf) | (with_reducible refine zL.gcall (k0) ?_; try simp (disch := omega) [go_sem, * ]) | (with_reducible refine zL.gcall (k1) ?_; try simp (disch := omega) [go_sem, * ]) | (with_reducible refine zL.gcall (k3) ?_; try simp (disch := omega) [go_sem, * ]) | (refine zJ ?_) | (refine zK ?_; simp only [zD]) | (refine zH fun Kt Kf ht hf => ?_; simp (disch := omega) [go_sem, * ]; try (refine ⟨fun hc => ?_, fun hc => ?_⟩ <;> try (exfalso; omega))))
      refine JB (by rfl) ?_
      clear k0 k1 k3
      generalize hLO : AObj.loop LoopState.ready none 36 _ _ _ _ = LO
      replace hLO : zC _ := hLO
      obtain ⟨H3, hH3⟩ : ∃ H3, H3 = (((((h.upd n (some (.cells [.fslc nlL fuL sL LL, .fslc nl fu s OO]))).upd (n + 1) (some (.cells [.fslc nlM fuM sM ML, .fslc nk fk z MO]))).upd (n + 2) (some (.cells [iv .i64 lo, iv .i64 hi]))).upd (n + 3) (some (.cells [iv .i64 0]))).upd (n + 4) (some (.cells [bv false]))).upd (n + 5) (some (.cells [iv .i64 0])) := ⟨_, rfl⟩
      have hb1 : H3 (n + 1) = some (.cells [.fslc nlM fuM sM ML, .fslc nk fk z MO]) := by rw [hH3]; simp (disch := omega) only [zG, zM]
      have hb3 : H3 (n + 3) = some (.cells [iv .i64 0]) := by rw [hH3]; simp (disch := omega) only [zG, zM]
      have hb4 : H3 (n + 4) = some (.cells [bv false]) := by rw [hH3]; simp (disch := omega) only [zG, zM]
      have hb5 : H3 (n + 5) = some (.cells [iv .i64 0]) := by rw [hH3]; simp (disch := omega) only [zM]
      have hfr : zC (∀ x, x < n → H3 x = h x) := fun x hx => by rw [hH3]; simp (disch := omega) only [zG]
      rw [← hH3]
      replace hH3 : zC _ := trivial
      show zS Tryz.prog 113 [.yld (n + 6 + 3 + 2 + 4 + 2 + 3), .fptr [iv .i64 lo, iv .i64 hi], .fptr [.fslc nlL fuL sL LL, .fslc nl fu s OO]] _ _ _
      rw [← hLL.out]
      refine each_iter nlL fuL sL ls hnlL.out hlL hzL.out.1 nl fu s OO lo hi hlo hlh hhi _ (fun d h' n2 => n + 6 + 3 + 2 + 4 + 2 + 4 ≤ n2 ∧ (∀ x, lo ≤ x → x < d → duR ls x = duR ms x) ∧ h' (n + 6 + 3 + 2 + 4 + 2 + 3) = some LO ∧ (∀ x, x < n + 6 → h' x = H3 x))
        (fun h' n2 => ∃ d nt1 s1 ps1 a1 b1, n + 6 + 3 + 2 + 4 + 2 + 4 ≤ n2 ∧ lo ≤ d ∧ d ≤ hi ∧ (∀ x, lo ≤ x → x < d → duR ls x = duR ms x) ∧ duR ls d ≠ duR ms d ∧ h' (n + 6 + 3 + 2 + 4 + 2 + 3) = some (.loop .done (some .ret) nt1 s1 ps1 a1 b1) ∧ h' (n + 3) = some (.cells [iv .i64 d]) ∧ h' (n + 4) = some (.cells [bv false]) ∧ h' (n + 5) = some (.cells [iv .i64 0]) ∧ (∀ x, x < n → h' x = h x)) _ _ _ ?_ ?_ ?_ ?_ ?_ ?_
      · exact ⟨by simp only; omega, fun x h1 h2 => by omega, zM _ _ _, fun x hx => by rw [zG _ _ _ _ (by simp only; omega)]⟩
      · rintro d h' n2 ⟨q0, _⟩; simp only; omega
      · rintro d h' a b ⟨q0, q1⟩ hab; exact ⟨by omega, q1⟩
      · rintro d h' n2 h2 mo n3 hd1 hd2 ⟨q0, q1, q2, q3⟩ hm1 hm2 hx2 hm3 KK hI hJ
        have hlo7 := hLO.out
        subst hlo7
        refine yield_at ((hx2 (n + 6 + 3 + 2 + 4 + 2 + 3) (by omega)).trans q2) rfl (by simp) ?_
        simp only [go_sem]
        repeat' (first | (refine zF fun K hK => ?_) | (refine zB fun K hK => ?_; simp (disch := omega) [go_sem, *]) | (apply zC.out hK; clear hK K; try with_reducible dsimp only [zD]))
        refine ⟨_, _, _, _, _, (hx2 _ (by omega)).trans q2, ?_⟩
        change h2 mo = acO ((duR ls d).map (zY d)) at hm3
        rw [show (ZC (dayD ls d)) = duR ls d from rfl]
        refine ac_fzac (t := 12) (m := mo) (s := 3) (L := (duR ls d).map (zY d)) true (by simp) (by simp (disch := omega) only [zG]; exact hm3) (by simp [go_sem]) (fun x hx => by obtain ⟨o, _, rfl⟩ := List.mem_map.1 hx; rfl) (by rw [List.length_map]; exact elemsD d (duR ls d)) ?_
        dsimp only
        have k3 := kd.out d (by omega) (by omega)
        obtain ⟨b1, b2, e3, e4⟩ := JU d (duR ms d)
        have k4 := equalD_spec d (List.map (zY d) (duR ls d)).isEmpty false 3 (duR ls d) (by cases duR ls d with | nil => exact .inl rfl | cons a r => exact .inr ⟨rfl, rfl⟩) b1 b1 b2 (duR ms d) e4 (by have := hll.out d; omega) (by have := hlm.out d; omega)
        rw [e3] at k3
        generalize hH5 : zI.upd (zI.upd h2 _ _) mo none = H5
        have hl5 := (congrFun hH5 (n + 6 + 3 + 2 + 4 + 2 + 3)).symm.trans ((zG _ _ _ _ (by omega)).trans (zM _ _ _))
        have hf5 : ∀ x, x < n + 6 → H5 x = H3 x := fun x hx => by rw [← hH5]; simp (disch := omega) only [zG]; rw [hx2 _ (by omega), q3 x hx]
        have g1 := (hf5 (n + 1) (by omega)).trans hb1
        have g3 := (hf5 (n + 3) (by omega)).trans hb3
        have g4 := (hf5 (n + 4) (by omega)).trans hb4
        have g5 := (hf5 (n + 5) (by omega)).trans hb5
        clear e3 e4 hm3 hx2 q2 q3 hH5
        replace hl5 : zC _ := hl5
        replace hf5 : zC _ := hf5
        replace q1 : zC _ := q1
        have hmm : List.map (zY d) (duR ls d) = List.map (zY d) (duR ls d) := rfl
        by_cases hq : duR ls d = duR ms d
        · have hst : zC (∀ x, lo ≤ x → x < d + 1 → duR ls x = duR ms x) := fun x h1 h2 => by
            by_cases e : x = d
            · subst e; exact hq
            · exact q1.out x h1 (by omega)
          rw [show decide (duR ls d = duR ms d) = true from decide_eq_true hq] at k4
          replace hq : zC _ := hq
          clear hmm
          generalize List.map (zY d) (duR ls d) = A at *
          generalize List.map (zY d) (duR ms d) = B at *
          repeat' (first | (refine zF fun K hK => ?_) | (refine zB fun K hK => ?_; simp (disch := omega) [go_sem, *]) | (apply zC.out hK; clear hK K; try with_reducible dsimp only [zD]) | (apply zC.out hf; clear ht hf Kt Kf) | (with_reducible refine zL.gcall (k3) ?_; try simp (disch := omega) [go_sem, *]) | (with_reducible refine zL.gcall (k4) ?_; try simp (disch := omega) [go_sem, *]) | (refine zJ ?_) | (refine zK ?_; simp only [zO]) | (refine zH fun Kt Kf ht hf => ?_; simp (disch := omega) [go_sem, *]; try (refine ⟨fun hc => ?_, fun hc => ?_⟩ <;> try (exfalso; omega))))
          exact ⟨_, _, _, _, _, hl5.out, hI.out _ _ ⟨by simp only; omega, hst.out, zM _ _ _, fun x hx => by rw [zG _ _ _ _ (by omega)]; exact hf5.out x hx⟩⟩
        · clear hmm
          rw [show decide (duR ls d = duR ms d) = false from decide_eq_false hq] at k4
          replace hq : zC _ := hq
          generalize List.map (zY d) (duR ls d) = A at *
          generalize List.map (zY d) (duR ms d) = B at *
          repeat' (first | (refine zF fun K hK => ?_) | (refine zB fun K hK => ?_; simp (disch := omega) [go_sem, *, zG]) | (apply zC.out hK; clear hK K; try with_reducible dsimp only [zD]) | (apply zC.out ht; clear ht hf Kt Kf) | (with_reducible refine zL.gcall (k3) ?_; try simp (disch := omega) [go_sem, *]) | (with_reducible refine zL.gcall (k4) ?_; try simp (disch := omega) [go_sem, *]) | (refine zJ ?_) | (refine zH fun Kt Kf ht hf => ?_; simp (disch := omega) [go_sem, *]; try (refine ⟨fun hc => ?_, fun hc => ?_⟩ <;> try (exfalso; omega))))
          refine zg ?_
          try dsimp only [zD, zO]
          refine ⟨_, _, _, _, _, by simp (disch := omega) only [zG]; exact hl5.out, hJ.out _ _ ⟨d, _, _, _, _, _, by simp only; omega, hd1, hd2, q1.out, hq.out, zM _ _ _, ?_, ?_, ?_, fun x hx => ?_⟩⟩
          · simp (disch := omega) only [zG, zM]
          · simp (disch := omega) only [zG, zM]
          · simp (disch := omega) only [zG, zM]
          · simp (disch := omega) only [zG]; rw [hf5.out x (by omega)]; exact hfr.out x hx
      · rintro h' n' ⟨q0, q1, q2, q3⟩
        have ho := hN.out fun x h1 h2 => q1 x h1 (by omega)
        have f0 : ∀ x, x < n → h' x = h x := fun x hx => by rw [q3 x (by omega)]; exact hfr.out x hx
        have g3 := (q3 (n + 3) (by omega)).trans hb3
        have g4 := (q3 (n + 4) (by omega)).trans hb4
        have g5 := (q3 (n + 5) (by omega)).trans hb5
        show JL (n + 6 + 3 + 2 + 4 + 2 + 3) _ _ _ _ _
        rw [JL, q2, ← hLO.out]
        refine ⟨by simp, ?_⟩
        simp only
        replace ho : zC _ := ho
        replace f0 : zC _ := f0
        clear q1 q2 q3
        try dsimp only [zD, zO]
        repeat' (first | (refine zF fun K hK => ?_) | (refine zB fun K hK => ?_; simp (disch := omega) [go_sem, *, zG]) | (apply zC.out hK; clear hK K; try with_reducible dsimp only [zD]))
        refine zg ?_
        try dsimp only [zD, zO]
        refine ⟨by simp, _, (by first | rfl | (simp (disch := omega) [go_sem, zG] <;> rfl)), ?_⟩
        rw [ho.out]
        exact zc ⟨fun k hk => by simp (disch := omega) only [zG]; exact f0.out k hk, by simp [go_sem, below, belowL, ZL], by rfl, by simp, by simp⟩
      · rintro h' n' ⟨d, nt1, s1, ps1, a1, b1, q0, q1, q2, q3, q4, q5, q6, q7, q8, q9⟩
        have ho := hS.out d q1 q2 q3 q4
        show JL (n + 6 + 3 + 2 + 4 + 2 + 3) _ _ _ _ _
        rw [JL, q5]
        refine ⟨by simp, ?_⟩
        simp only [zD, zO]
        refine ⟨by simp, _, (by first | rfl | (simp (disch := omega) [go_sem, zG, q6, q7, q8] <;> rfl)), ?_⟩
        rw [ho]
        exact zc ⟨fun k hk => by rw [zG _ _ _ _ (by omega)]; exact q9 k hk, by simp [go_sem, below, belowL, ZL], by rfl, by simp, by simp⟩
    · have ho : Jn ls l ms m lo hi = (0, false, jN ms m lo hi) := by unfold Jn; rw [if_neg (by simpa using hw0), if_pos hc]
      have hne : (jN ms m lo hi != 0) = true := by simpa using hc
      rw [ho]
      rw [hw0] at k0
      generalize jN ms m lo hi = e at *
      generalize List.map zT ls = LL at *
      generalize List.map ZB l = OO at *
      generalize List.map zT ms = ML at *
      generalize List.map ZB m = MO at *
      clear ho hc hw0 hsL hs hw hnl hnlL hsM hsm hwm hnk hnlM
      repeat' (first | (refine zF fun K hK => ?_) | (refine zB fun K hK => ?_; simp (disch := omega) [go_sem, *, zG, Tryz.ntmps20 ]) | (apply zC.out hK; clear hK K; try with_reducible dsimp only [zD]) | (apply zC.out ht; clear ht hf Kt Kf) | (apply zC.out hf; clear ht hf Kt Kf) | (with_reducible refine zL.gcall (k0) ?_; try simp (disch := omega) [go_sem, * ]) | (with_reducible refine zL.gcall (k1) ?_; try simp (disch := omega) [go_sem, * ]) | (refine zK ?_; simp only [zD]) | (refine zH fun Kt Kf ht hf => ?_; simp (disch := omega) [go_sem, * ]; try (refine ⟨fun hc => ?_, fun hc => ?_⟩ <;> try (exfalso; omega))))
      (refine zg ?_; try dsimp only [zD, zO]; refine ⟨by simp, _, (by first | rfl | (simp (disch := omega) [go_sem, zG] <;> rfl)), ?_⟩; refine zc ⟨fun k hk => (by first | rfl | (repeat rw [zG _ _ _ _ (by omega)])), (by simp [go_sem, below, belowL]), (by simp [go_sem] <;> omega), by simp, by simp⟩)
  · have ho : Jn ls l ms m lo hi = (0, false, jj ls l) := by unfold Jn; rw [if_pos hw0]
    have hne : (jj ls l != 0) = true := by simpa using hw0
    rw [ho]
    generalize jj ls l = e at *
    generalize jN ms m lo hi = e1 at *
    generalize List.map zT ls = LL at *
    generalize List.map ZB l = OO at *
    generalize List.map zT ms = ML at *
    generalize List.map ZB m = MO at *
    clear ho hw0 hsL hs hw hnl hnlL hsM hsm hwm hnk hnlM
    repeat' (first | (refine zF fun K hK => ?_) | (refine zB fun K hK => ?_; simp (disch := omega) [go_sem, *, zG, Tryz.ntmps20 ]) | (apply zC.out hK; clear hK K; try with_reducible dsimp only [zD]) | (apply zC.out ht; clear ht hf Kt Kf) | (with_reducible refine zL.gcall (k0) ?_; try simp (disch := omega) [go_sem, * ]) | (refine zH fun Kt Kf ht hf => ?_; simp (disch := omega) [go_sem, * ]; try (refine ⟨fun hc => ?_, fun hc => ?_⟩ <;> try (exfalso; omega))))
    (refine zg ?_; try dsimp only [zD, zO]; refine ⟨by simp, _, (by first | rfl | (simp (disch := omega) [go_sem, zG] <;> rfl)), ?_⟩; refine zc ⟨fun k hk => (by first | rfl | (repeat rw [zG _ _ _ _ (by omega)])), (by simp [go_sem, below, belowL]), (by simp [go_sem] <;> omega), by simp, by simp⟩)
end Go.AM
