/- A condition printed; a watch printed, by the specification. Conditions: as each theorem says. -/
import Derived.Test.YtabidiilbgakoaaGreatDoorPb
import Derived.Test.YtabidiilbgakoaaGreatDoorPc
import Derived.Test.YtabidiilbgakoaaGreatDoorPf
namespace Go.AM
open Go.Proofs Cw Du
set_option maxRecDepth 10000
set_option maxHeartbeats 4000000
/-- a condition printed, or the error -/
def pcT (c : Cnd) : ByteArray := if Cw.formed c then shC c else ⟨#[]⟩
def pcE (c : Cnd) : Int := if Cw.formed c then 0 else 7
theorem formed_pr {c : Cnd} (h : Cw.formed c = true) : Cw.ok c = true ∧ tot c ≤ 60 := by
  simp only [Cw.formed, Bool.and_eq_true, decide_eq_true_eq] at h
  exact ⟨h.1.1, h.1.2⟩
theorem PrintCond_spec (c : Cnd) (hw : wf c) (hs : tot c ≤ 900) : APure Tryz.prog 27 [encC c] (.tup [sv (pcT c), iv .i64 (pcE c)]) := by
  intro h n
  have k1 := formed_spec c hw hs
  refine ACalls.pure (ACalls.entry (by kernel_rfl) fun hb _ => calls_of Tryz.func27 rfl (by kernel_rfl) (by simp [Tryz.ntmps27]) ?_)
  unfold pcT pcE
  cases hf : Cw.formed c with
  | false =>
    rw [hf] at k1
    obtain ⟨k, f, o, nn, nl, fu, s, ks⟩ := c
    simp only [encC] at *
    generalize encL ks = EL at *
    clear hw hs hf
    repeat' (first | (refine ac_seq_h fun K hK => ?_) | (refine ac_region_h fun K hK => ?_; simp (disch := omega) [go_sem, *, Tryz.ntmps27 ]) | (apply Hide.out hK; clear hK K; try with_reducible dsimp only [thenA]) | (apply Hide.out ht; clear ht hf Kt Kf) | (with_reducible refine APure.gcall (k1) ?_; try simp (disch := omega) [go_sem, * ]) | (refine ac_cond_h fun Kt Kf ht hf => ?_; simp (disch := omega) [go_sem, * ]; try (refine ⟨fun hc => ?_, fun hc => ?_⟩ <;> try (exfalso; omega))))
    (refine ac_ret ?_; try dsimp only [thenA, blockA]; refine ⟨by simp, _, (by first | rfl | (simp (disch := omega) [go_sem, upd_ne] <;> rfl)), ?_⟩; refine ret_id ⟨fun k hk => (by first | rfl | (repeat rw [upd_ne _ _ _ _ (by omega)])), (by simp [go_sem, below, belowL]), (by simp [go_sem] <;> omega), by simp, by simp⟩)
  | true =>
    rw [hf] at k1
    obtain ⟨g1, g2⟩ := formed_pr hf
    have k2 := show_spec (tot c) c (Nat.le_refl _) (by omega) hw g1
    generalize shC c = S at *
    obtain ⟨k, f, o, nn, nl, fu, s, ks⟩ := c
    simp only [encC] at *
    generalize encL ks = EL at *
    clear hw hs hf g1 g2
    repeat' (first | (refine ac_seq_h fun K hK => ?_) | (refine ac_region_h fun K hK => ?_; simp (disch := omega) [go_sem, *, Tryz.ntmps27 ]) | (apply Hide.out hK; clear hK K; try with_reducible dsimp only [thenA]) | (apply Hide.out hf; clear ht hf Kt Kf) | (with_reducible refine APure.gcall (k1) ?_; try simp (disch := omega) [go_sem, * ]) | (with_reducible refine APure.gcall (k2) ?_; try simp (disch := omega) [go_sem, * ]) | (refine ac_skip ?_; simp only [thenA]) | (refine ac_cond_h fun Kt Kf ht hf => ?_; simp (disch := omega) [go_sem, * ]; try (refine ⟨fun hc => ?_, fun hc => ?_⟩ <;> try (exfalso; omega))))
    (refine ac_ret ?_; try dsimp only [thenA, blockA]; refine ⟨by simp, _, (by first | rfl | (simp (disch := omega) [go_sem, upd_ne] <;> rfl)), ?_⟩; refine ret_id ⟨fun k hk => (by first | rfl | (repeat rw [upd_ne _ _ _ _ (by omega)])), (by simp [go_sem, below, belowL]), (by simp [go_sem] <;> omega), by simp, by simp⟩)
theorem rPrintCond_spec (c : Cnd) (hw : wf c) : APure Tryz.prog 28 [encC c] (.tup [sv (pcT c), iv .i64 (pcE c)]) := by
  intro h n
  have k1 := formedC_spec c hw
  refine ACalls.pure (ACalls.entry (by kernel_rfl) fun hb _ => calls_of Tryz.func28 rfl (by kernel_rfl) (by simp [Tryz.ntmps28]) ?_)
  unfold pcT pcE
  cases hf : Cw.formed c with
  | false =>
    rw [hf] at k1
    obtain ⟨k, f, o, nn, nl, fu, s, ks⟩ := c
    simp only [encC] at *
    generalize encL ks = EL at *
    clear hw hf
    repeat' (first | (refine ac_seq_h fun K hK => ?_) | (refine ac_region_h fun K hK => ?_; simp (disch := omega) [go_sem, *, Tryz.ntmps28 ]) | (apply Hide.out hK; clear hK K; try with_reducible dsimp only [thenA]) | (apply Hide.out ht; clear ht hf Kt Kf) | (with_reducible refine APure.gcall (k1) ?_; try simp (disch := omega) [go_sem, * ]) | (refine ac_cond_h fun Kt Kf ht hf => ?_; simp (disch := omega) [go_sem, * ]; try (refine ⟨fun hc => ?_, fun hc => ?_⟩ <;> try (exfalso; omega))))
    (refine ac_ret ?_; try dsimp only [thenA, blockA]; refine ⟨by simp, _, (by first | rfl | (simp (disch := omega) [go_sem, upd_ne] <;> rfl)), ?_⟩; refine ret_id ⟨fun k hk => (by first | rfl | (repeat rw [upd_ne _ _ _ _ (by omega)])), (by simp [go_sem, below, belowL]), (by simp [go_sem] <;> omega), by simp, by simp⟩)
  | true =>
    rw [hf] at k1
    obtain ⟨g1, g2⟩ := formed_pr hf
    have k2 := condText_spec (tot c) c (Nat.le_refl _) (by omega) hw g1
    generalize shC c = S at *
    obtain ⟨k, f, o, nn, nl, fu, s, ks⟩ := c
    simp only [encC] at *
    generalize encL ks = EL at *
    clear hw hf g1 g2
    repeat' (first | (refine ac_seq_h fun K hK => ?_) | (refine ac_region_h fun K hK => ?_; simp (disch := omega) [go_sem, *, Tryz.ntmps28 ]) | (apply Hide.out hK; clear hK K; try with_reducible dsimp only [thenA]) | (apply Hide.out hf; clear ht hf Kt Kf) | (with_reducible refine APure.gcall (k1) ?_; try simp (disch := omega) [go_sem, * ]) | (with_reducible refine APure.gcall (k2) ?_; try simp (disch := omega) [go_sem, * ]) | (refine ac_skip ?_; simp only [thenA]) | (refine ac_cond_h fun Kt Kf ht hf => ?_; simp (disch := omega) [go_sem, * ]; try (refine ⟨fun hc => ?_, fun hc => ?_⟩ <;> try (exfalso; omega))))
    (refine ac_ret ?_; try dsimp only [thenA, blockA]; refine ⟨by simp, _, (by first | rfl | (simp (disch := omega) [go_sem, upd_ne] <;> rfl)), ?_⟩; refine ret_id ⟨fun k hk => (by first | rfl | (repeat rw [upd_ne _ _ _ _ (by omega)])), (by simp [go_sem, below, belowL]), (by simp [go_sem] <;> omega), by simp, by simp⟩)
end Go.AM

namespace Go.AM
open Cw Du
theorem nameOk_size {s : ByteArray} (h : nameOk s = true) : 1 ≤ s.size ∧ s.size ≤ 24 := by
  unfold nameOk at h
  simp only [Bool.and_eq_true, decide_eq_true_eq] at h
  exact ⟨h.1.1.1.1, h.1.1.1.2⟩
theorem empB_eq {s : ByteArray} (h : empB s = true) : s = ⟨#[]⟩ := by
  unfold empB at h
  exact toList_inj (by rw [List.isEmpty_iff.1 h, ByteArray.toList_eq])
theorem ascG_mem : ∀ (l : List Int) (p : Int), ascG p l = true → ∀ d ∈ l, 0 ≤ d ∧ d ≤ 400
  | [], _, _, d, hd => by cases hd
  | x :: r, p, h, d, hd => by
    simp only [ascG, wi, Bool.and_eq_true, decide_eq_true_eq] at h
    rcases List.mem_cons.1 hd with rfl | hd
    · exact h.1.1
    · exact ascG_mem r x h.2 d hd
theorem daysOk_num {l : Lin} (h : daysOk l = true) : (0 ≤ l.fr ∧ l.fr ≤ 1000) ∧ (0 ≤ l.to ∧ l.to ≤ 1000) ∧ (0 ≤ l.ev ∧ l.ev ≤ 1000) ∧ l.exc.length ≤ 20 ∧ ∀ d ∈ l.exc, 0 ≤ d ∧ d ≤ 1000 := by
  simp only [daysOk, spanB, wi, Bool.and_eq_true, decide_eq_true_eq] at h
  obtain ⟨⟨⟨⟨⟨a1, a2⟩, a3⟩, a4, a5⟩, a6⟩, a7⟩ := h
  refine ⟨⟨a1, by omega⟩, ⟨by omega, by omega⟩, ⟨by omega, by omega⟩, by omega, fun d hd => ?_⟩
  have := ascG_mem _ _ a7 d hd
  omega
theorem lineOk_pr {l : Lin} (h : lineOk l = true) : PrOk l ∧ l.tower.size ≤ 24 ∧ l.person.size ≤ 24 ∧ l.other.size ≤ 24 ∧ l.exc.length ≤ 20 := by
  have e0 : (⟨#[]⟩ : ByteArray).size = 0 := rfl
  unfold lineOk at h
  have key : ∀ (t p o d : Bool), t = true → p = true → o = true → d = true → (t && p && o && d) = true := by simp
  have all : (l.kind = 1 ∨ l.kind = 2 ∨ l.kind = 3 ∨ l.kind = 4) ∧ l.tower.size ≤ 24 ∧ l.person.size ≤ 24 ∧ l.other.size ≤ 24 ∧ daysOk l = true := by
    by_cases h1 : l.kind = 1
    · rw [if_pos h1] at h
      simp only [Bool.and_eq_true] at h
      obtain ⟨⟨⟨a, b⟩, c⟩, d⟩ := h
      exact ⟨.inl h1, (nameOk_size a).2, (nameOk_size b).2, by rw [empB_eq c, e0]; omega, d⟩
    · rw [if_neg h1] at h
      by_cases h2 : l.kind = 2
      · rw [if_pos h2] at h
        simp only [Bool.and_eq_true] at h
        obtain ⟨⟨⟨a, b⟩, c⟩, d⟩ := h
        exact ⟨.inr (.inl h2), by rw [empB_eq a, e0]; omega, (nameOk_size b).2, by rw [empB_eq c, e0]; omega, d⟩
      · rw [if_neg h2] at h
        by_cases h3 : l.kind = 3
        · rw [if_pos h3] at h
          simp only [Bool.and_eq_true] at h
          obtain ⟨⟨⟨a, b⟩, c⟩, d⟩ := h
          exact ⟨.inr (.inr (.inl h3)), (nameOk_size a).2, by rw [empB_eq b, e0]; omega, by rw [empB_eq c, e0]; omega, d⟩
        · rw [if_neg h3] at h
          by_cases h4 : l.kind = 4
          · rw [if_pos h4] at h
            simp only [Bool.and_eq_true] at h
            obtain ⟨⟨⟨⟨a, b⟩, c⟩, _⟩, d⟩ := h
            exact ⟨.inr (.inr (.inr h4)), by rw [empB_eq a, e0]; omega, (nameOk_size b).2, (nameOk_size c).2, d⟩
          · rw [if_neg h4] at h; cases h
  obtain ⟨hk, t1, t2, t3, hd⟩ := all
  obtain ⟨d1, d2, d3, d4, d5⟩ := daysOk_num hd
  exact ⟨⟨hk, by omega, by omega, by omega, d1, d2, d3, by omega, d5⟩, t1, t2, t3, d4⟩
theorem linT_size {l : Lin} (h : lineOk l = true) : 0 < (linT l).size ∧ (linT l).size ≤ 2000 := by
  obtain ⟨⟨_, _, _, _, ⟨f0, f1⟩, ⟨o0, o1⟩, ⟨v0, v1⟩, _, hx⟩, t1, t2, t3, hl⟩ := lineOk_pr h
  have a1 := dec_size f0 (by omega)
  have a2 := dec_size o0 (by omega)
  have a3 := dec_size v0 (by omega)
  have a4 := exT_size hx l.exc.length
  have e1 : (⟨#[119, 97, 116, 99, 104, 32]⟩ : ByteArray).size = 6 := rfl
  have e2 : (⟨#[32, 98, 121, 32]⟩ : ByteArray).size = 4 := rfl
  have e3 : (⟨#[114, 101, 115, 116, 32]⟩ : ByteArray).size = 5 := rfl
  have e4 : (⟨#[99, 97, 110, 99, 101, 108, 32]⟩ : ByteArray).size = 7 := rfl
  have e5 : (⟨#[115, 119, 97, 112, 32]⟩ : ByteArray).size = 5 := rfl
  have e6 : (⟨#[32, 111, 110, 32]⟩ : ByteArray).size = 4 := rfl
  have e7 : (⟨#[32, 102, 114, 111, 109, 32]⟩ : ByteArray).size = 6 := rfl
  have e8 : (⟨#[32, 116, 111, 32]⟩ : ByteArray).size = 4 := rfl
  have e9 : (⟨#[32, 101, 118, 101, 114, 121, 32]⟩ : ByteArray).size = 7 := rfl
  have e10 : spT.size = 1 := rfl
  have e11 : (⟨#[]⟩ : ByteArray).size = 0 := rfl
  have e12 : endT.size = 2 := rfl
  have h1 : (hdT l).size ≤ 100 := by unfold hdT; (repeat' split) <;> simp only [ByteArray.size_append] <;> omega
  have h2 : (frT l).size ≤ 100 := by unfold frT; split <;> simp only [ByteArray.size_append] <;> omega
  have h3 : (eachT l).size ≤ 100 := by unfold eachT; split <;> (try simp only [ByteArray.size_append]) <;> omega
  simp only [linT, dayT, ByteArray.size_append]
  omega
/-- an order printed -/
def rkT (o : Ordr) : ByteArray := if o.rank = 0 then ⟨#[]⟩ else (⟨#[32, 114, 97, 110, 107, 32]⟩ : ByteArray) ++ dec o.rank
def ordT (o : Ordr) : ByteArray := (⟨#[111, 114, 100, 101, 114, 32]⟩ : ByteArray) ++ o.name ++ rkT o ++ (⟨#[32, 105, 102, 32]⟩ ++ shC o.cond ++ ⟨#[59, 10]⟩)
theorem ordOk_pr {o : Ordr} (h : ordOk o = true) : o.name.size ≤ 24 ∧ 0 ≤ o.rank ∧ o.rank ≤ 100 ∧ Cw.ok o.cond = true ∧ tot o.cond ≤ 60 := by
  simp only [ordOk, Cw.formed, wi, Bool.and_eq_true, decide_eq_true_eq] at h
  obtain ⟨⟨a, b, c⟩, ⟨d, e⟩, _⟩ := h
  exact ⟨(nameOk_size a).2, b, c, d, e⟩
theorem ordT_size {o : Ordr} (h : ordOk o = true) : (ordT o).size ≤ 3000 := by
  obtain ⟨h1, h2, h3, h4, h5⟩ := ordOk_pr h
  have a1 := dec_size h2 (by omega)
  have a2 := shC_size _ h4
  have e1 : (⟨#[111, 114, 100, 101, 114, 32]⟩ : ByteArray).size = 6 := rfl
  have e2 : (⟨#[32, 114, 97, 110, 107, 32]⟩ : ByteArray).size = 6 := rfl
  have e3 : (⟨#[32, 105, 102, 32]⟩ : ByteArray).size = 4 := rfl
  have e4 : (⟨#[59, 10]⟩ : ByteArray).size = 2 := rfl
  have e5 : (⟨#[]⟩ : ByteArray).size = 0 := rfl
  have h3 : (rkT o).size ≤ 100 := by unfold rkT; split <;> (try simp only [ByteArray.size_append]) <;> omega
  simp only [ordT, ByteArray.size_append]
  omega
def catT {α : Type} (f : α → ByteArray) (B : ByteArray) (l : List α) : Nat → ByteArray
  | 0 => B
  | i + 1 => match l[i]? with
    | some x => catT f B l i ++ f x
    | none => catT f B l i
theorem catT_step {α : Type} (f : α → ByteArray) (B : ByteArray) (l : List α) {i : Nat} {x : α} (h : l[i]? = some x) : catT f B l i ++ f x = catT f B l (i + 1) := by
  rw [catT, h]
theorem catT_size {α : Type} (f : α → ByteArray) (B : ByteArray) (l : List α) (k : Nat) (h : ∀ x ∈ l, (f x).size ≤ k) : ∀ i, (catT f B l i).size ≤ B.size + k * i
  | 0 => by simp [catT]
  | i + 1 => by
    have ih := catT_size f B l k h i
    rw [catT, Nat.mul_succ]
    split
    · rename_i x hx
      have := h x (List.mem_of_getElem? hx)
      simp only [ByteArray.size_append]; omega
    · omega
theorem prAll {ls : List Lin} {l : List Ordr} (h : ls.all lineOk = true) (h2 : l.all ordOk = true) (h60 : ls.length ≤ 60) (h30 : l.length ≤ 30) : (∀ i, i ≤ ls.length → (catT linT ⟨#[]⟩ ls i).size ≤ 120000) ∧ ∀ i, i ≤ l.length → (catT ordT (catT linT ⟨#[]⟩ ls ls.length) l i).size ≤ 220000 := by
  have e5 : (⟨#[]⟩ : ByteArray).size = 0 := rfl
  have a1 := catT_size linT ⟨#[]⟩ ls 2000 fun x hx => (linT_size (List.all_eq_true.1 h x hx)).2
  have a2 := catT_size ordT (catT linT ⟨#[]⟩ ls ls.length) l 3000 fun x hx => ordT_size (List.all_eq_true.1 h2 x hx)
  refine ⟨fun i hi => ?_, fun i hi => ?_⟩
  · have := a1 i; omega
  · have := a2 i; have := a1 ls.length; omega
def txT (ls : List Lin) (l : List Ordr) : ByteArray := catT ordT (catT linT ⟨#[]⟩ ls ls.length) l l.length
end Go.AM

namespace Go.AM
open Go.Proofs Cw Du
set_option maxRecDepth 10000
set_option maxHeartbeats 4000000
/-- a watch printed, or the error -/
def pwT (ls : List Lin) (l : List Ordr) : ByteArray := if chkW ls l = 0 then txT ls l else ⟨#[]⟩
theorem chkW_zero {ls : List Lin} {l : List Ordr} (h : chkW ls l = 0) : ls.length ≤ 60 ∧ l.length ≤ 30 ∧ ls.all lineOk = true ∧ l.all ordOk = true := by
  unfold chkW at h
  split at h
  · cases h
  · split at h
    · cases h
    · split at h
      · split at h
        · rename_i h1 h2 h3 h4
          exact ⟨by omega, by omega, h3, h4⟩
        · cases h
      · cases h
theorem rPrint_spec (nlL fuL : Bool) (sL : Nat) (ls : List Lin) (hnlL : ls = [] ∨ nlL = false ∧ sL = 8) (hsL : smL ls) (hlL : ls.length ≤ 1000000) (nl fu : Bool) (s : Nat) (l : List Ordr) (hnl : l = [] ∨ nl = false ∧ s = 7) (hw : wfO l) (hs : smO l) (hl : l.length ≤ 1000000) :
    APure Tryz.prog 26 [.agg [.fslc nlL fuL sL (ls.map encLn), .fslc nl fu s (l.map encO)]] (.tup [sv (pwT ls l), iv .i64 (chkW ls l)]) := by
  intro h n
  have k0 := rcheck_spec nlL fuL sL ls hnlL hsL hlL nl fu s l hnl hw hs hl
  refine ACalls.pure (ACalls.entry (by kernel_rfl) fun hb _ => calls_of Tryz.func26 rfl (by kernel_rfl) (by simp [Tryz.ntmps26]) ?_)
  unfold pwT
  by_cases hz : chkW ls l = 0
  · rw [if_pos hz]
    rw [hz] at k0 ⊢
    obtain ⟨a1, a2, a3, a4⟩ := chkW_zero hz
    obtain ⟨p1, p2⟩ := prAll a3 a4 a1 a2
    unfold txT
    replace hnl : Hide _ := hnl
    replace hnlL : Hide _ := hnlL
    replace hsL : Hide _ := hsL
    replace hw : Hide _ := hw
    replace hs : Hide _ := hs
    replace a3 : Hide _ := a3
    replace a4 : Hide _ := a4
    replace p1 : Hide _ := p1
    replace p2 : Hide _ := p2
    clear hz
    obtain ⟨T, hT⟩ : ∃ T, Hide (T = catT ordT (catT linT ⟨#[]⟩ ls ls.length) l l.length) := ⟨_, rfl⟩
    rw [← hT.out]
    repeat' (first | (refine ac_seq_h fun K hK => ?_) | (refine ac_region_h fun K hK => ?_; simp (disch := omega) [go_sem, *, Tryz.ntmps26 ]) | (apply Hide.out hK; clear hK K; try with_reducible dsimp only [thenA]) | (apply Hide.out hf; clear ht hf Kt Kf) | (with_reducible refine APure.gcall (k0) ?_; try simp (disch := omega) [go_sem, * ]) | (refine ac_block ?_) | (refine ac_skip ?_; simp only [thenA]) | (refine ac_cond_h fun Kt Kf ht hf => ?_; simp (disch := omega) [go_sem, * ]; try (refine ⟨fun hc => ?_, fun hc => ?_⟩ <;> try (exfalso; omega))))
    refine ac_loop_wk (fun s' => ∃ (i n' : Nat), n < n' ∧ i ≤ ls.length ∧ s' = ⟨63, [(1, .ptr n 0), (5, sv (catT linT ⟨#[]⟩ ls i)), (6, iv .i64 i)], h.upd n (some (.cells [.fslc nlL fuL sL (ls.map encLn), .fslc nl fu s (l.map encO)])), n'⟩)
      (fun s' => ls.length - (intAt s' 6).toNat) ?_ ?_
    · exact loop_start (by simp [go_sem, catT]) (Sub.refl _) ⟨0, _, by omega, by omega, rfl⟩
    · rintro s' ⟨i, n', hn', hi, rfl⟩
      by_cases hlt : i < ls.length
      · obtain ⟨x, hx⟩ : ∃ o, ls[i] = o := ⟨_, rfl⟩
        have hmem : x ∈ ls := hx ▸ List.getElem_mem hlt
        have hne : ls ≠ [] := fun e => by rw [e] at hlt; simp at hlt
        obtain ⟨rfl, rfl⟩ := hnlL.out.resolve_left hne
        obtain ⟨q1, q2, q3, q4, q5⟩ := hsL.out _ hmem
        have hok := List.all_eq_true.1 a3.out x hmem
        have k1 := lineText_spec x q1 (lineOk_pr hok).1
        haveI z1 : Sz (catT linT ⟨#[]⟩ ls i) 120000 := ⟨p1.out i hi⟩
        haveI z2 : Sz (linT x) 2000 := ⟨(linT_size hok).2⟩
        have hst := catT_step linT ⟨#[]⟩ ls (i := i) (x := x) (by rw [List.getElem?_eq_getElem hlt, hx])
        have hex : encLn ls[i] = .agg [iv .i64 x.kind, sv x.tower, sv x.person, sv x.other, iv .i64 x.fr, iv .i64 x.to, iv .i64 x.ev, .fslc x.nl x.fu x.s (x.exc.map (iv .i64))] := by rw [hx]; rfl
        replace hst : Hide _ := hst
        replace hx : Hide _ := hx
        clear hmem hne q1 q2 q3 q4 q5 hok
        simp only [encLn] at k1
        generalize linT x = LX at *
        obtain ⟨kd, tw, pe, ot, fr, to, ev, xnl, xfu, xs, exc⟩ := x
        simp only at k1 hex
        generalize List.map (iv .i64) exc = X at *
        repeat' (first | (refine ac_seq_h fun K hK => ?_) | (refine ac_region_h fun K hK => ?_; simp (disch := omega) [go_sem, *, wrap64_id, ilt_true, ile_true]) | (apply Hide.out hK; clear hK K; try with_reducible dsimp only [thenA]) | (apply Hide.out ht; clear ht hf Kt Kf) | (with_reducible refine APure.gcall (k1) ?_; try simp (disch := omega) [go_sem, *]) | (refine ac_block ?_) | (refine ac_skip ?_; simp only [thenA]) | (refine ac_cond_h fun Kt Kf ht hf => ?_; simp (disch := omega) [go_sem, *]; try (refine ⟨fun hc => ?_, fun hc => ?_⟩ <;> try (exfalso; omega))))
        rw [hst.out]
        exact round_end (by simp (disch := omega) [go_sem]) (Sub.refl _) ⟨i + 1, _, by omega, by omega, rfl⟩ (by simp [intAt, go_sem]; omega)
      · have hii : i = ls.length := by omega
        subst hii
        obtain ⟨B, hB⟩ : ∃ B, catT linT ⟨#[]⟩ ls ls.length = B := ⟨_, rfl⟩
        rw [hB] at hT p2 ⊢
        clear hB p1
        repeat' (first | (refine ac_seq_h fun K hK => ?_) | (refine ac_region_h fun K hK => ?_; simp (disch := omega) [go_sem, *]) | (apply Hide.out hK; clear hK K; try with_reducible dsimp only [thenA]) | (apply Hide.out hf; clear ht hf Kt Kf) | (clear hK K; apply Hide.out hK; clear hK K; try with_reducible dsimp only [thenA]) | (refine ac_block ?_) | (refine ac_exit ?_; simp only [thenA, blockA, if_true]) | (refine ac_cond_h fun Kt Kf ht hf => ?_; simp (disch := omega) [go_sem, *]; try (refine ⟨fun hc => ?_, fun hc => ?_⟩ <;> try (exfalso; omega))))
        refine ac_loop_wk (fun s' => ∃ (i n2 : Nat), n < n2 ∧ i ≤ l.length ∧ s' = ⟨63, [(1, .ptr n 0), (5, sv (catT ordT B l i)), (7, iv .i64 i)], h.upd n (some (.cells [.fslc nlL fuL sL (ls.map encLn), .fslc nl fu s (l.map encO)])), n2⟩)
          (fun s' => l.length - (intAt s' 7).toNat) ?_ ?_
        · exact loop_start (by simp [go_sem, catT]) (Sub.refl _) ⟨0, _, by omega, by omega, rfl⟩
        · rintro s' ⟨i, n2, hn2, hi2, rfl⟩
          by_cases hlt2 : i < l.length
          · obtain ⟨⟨nm, rk, k, f, o, nn, nl2, fu2, s2, ks⟩, hx⟩ : ∃ o, l[i] = o := ⟨_, rfl⟩
            have hmem : ∀ o, l[i] = o → o ∈ l := fun o e => e ▸ List.getElem_mem hlt2
            have hne : l ≠ [] := fun e => by rw [e] at hlt2; simp at hlt2
            obtain ⟨rfl, rfl⟩ := hnl.out.resolve_left hne
            have hwc := hw.out _ (hmem _ hx)
            have hok := List.all_eq_true.1 a4.out _ (hmem _ hx)
            obtain ⟨g1, g2, g3, g4, g5⟩ := ordOk_pr hok
            simp only at g1 g2 g3 g4 g5
            have k1 := condText_spec (tot (.mk k f o nn nl2 fu2 s2 ks)) (.mk k f o nn nl2 fu2 s2 ks) (Nat.le_refl _) (by omega) hwc g4
            have k2 := number_spec (rk.toNat + 1) rk g2 (by omega) (by omega)
            haveI z1 : Sz (catT ordT B l i) 220000 := ⟨p2.out i hi2⟩
            haveI z2 : Sz nm 24 := ⟨g1⟩
            haveI z3 : Sz (dec rk) 21 := ⟨dec_size g2 (by omega)⟩
            haveI z4 : Sz (shC (.mk k f o nn nl2 fu2 s2 ks)) 3000 := ⟨by have := shC_size _ g4; omega⟩
            have hst := catT_step ordT B l (i := i) (x := ⟨nm, rk, .mk k f o nn nl2 fu2 s2 ks⟩) (by rw [List.getElem?_eq_getElem hlt2, hx])
            have hex : encO l[i] = .agg [sv nm, iv .i64 rk, iv .i64 k, iv .i64 f, iv .i64 o, iv .i64 nn, .fslc nl2 fu2 s2 (encL ks)] := by rw [hx]; rfl
            simp only [ordT, rkT] at hst
            simp only [encC] at k1
            replace hx : Hide _ := hx
            clear hmem hne hwc hok g1 g4 g5
            generalize shC (.mk k f o nn nl2 fu2 s2 ks) = S at *
            generalize dec rk = D at *
            generalize encL ks = EL at *
            by_cases hr : rk = 0
            · subst hr
              rw [if_pos rfl, app_nil] at hst
              simp only [← app_assoc] at hst
              replace hst : Hide _ := hst
              repeat' (first | (refine ac_seq_h fun K hK => ?_) | (refine ac_region_h fun K hK => ?_; simp (disch := omega) [go_sem, *, wrap64_id, ilt_true, ile_true]) | (apply Hide.out hK; clear hK K; try with_reducible dsimp only [thenA]) | (apply Hide.out ht; clear ht hf Kt Kf) | (apply Hide.out hf; clear ht hf Kt Kf) | (with_reducible refine APure.gcall (k1) ?_; try simp (disch := omega) [go_sem, *]) | (refine ac_block ?_) | (refine ac_skip ?_; simp only [thenA]) | (refine ac_cond_h fun Kt Kf ht hf => ?_; simp (disch := omega) [go_sem, *]; try (refine ⟨fun hc => ?_, fun hc => ?_⟩ <;> try (exfalso; omega))))
              rw [hst.out]
              exact round_end (by simp (disch := omega) [go_sem]) (by repeat (first | exact Sub.refl _ | refine Sub.upd ?_ (by rw [upd_ne _ _ _ _ (by omega)]; exact hb.none (by omega)) _)) ⟨i + 1, _, by omega, by omega, rfl⟩ (by simp [intAt, go_sem]; omega)
            · have hb1 : (rk == 0) = false := by simpa using hr
              have hb2 : (rk != 0) = true := by simpa using hr
              rw [if_neg hr] at hst
              simp only [← app_assoc] at hst
              replace hst : Hide _ := hst
              repeat' (first | (refine ac_seq_h fun K hK => ?_) | (refine ac_region_h fun K hK => ?_; simp (disch := omega) [go_sem, *, wrap64_id, ilt_true, ile_true]) | (apply Hide.out hK; clear hK K; try with_reducible dsimp only [thenA]) | (apply Hide.out ht; clear ht hf Kt Kf) | (with_reducible refine APure.gcall (k1) ?_; try simp (disch := omega) [go_sem, *]) | (with_reducible refine APure.gcall (k2) ?_; try simp (disch := omega) [go_sem, *]) | (refine ac_block ?_) | (refine ac_skip ?_; simp only [thenA]) | (refine ac_cond_h fun Kt Kf ht hf => ?_; simp (disch := omega) [go_sem, *]; try (refine ⟨fun hc => ?_, fun hc => ?_⟩ <;> try (exfalso; omega))))
              rw [hst.out]
              exact round_end (by simp (disch := omega) [go_sem]) (by repeat (first | exact Sub.refl _ | refine Sub.upd ?_ (by rw [upd_ne _ _ _ _ (by omega)]; exact hb.none (by omega)) _)) ⟨i + 1, _, by omega, by omega, rfl⟩ (by simp [intAt, go_sem]; omega)
          · have hii : i = l.length := by omega
            subst hii
            rw [← hT.out]
            repeat' (first | (refine ac_seq_h fun K hK => ?_) | (refine ac_region_h fun K hK => ?_; simp (disch := omega) [go_sem, *]) | (apply Hide.out hK; clear hK K; try with_reducible dsimp only [thenA]) | (apply Hide.out hf; clear ht hf Kt Kf) | (clear hK K; apply Hide.out hK; clear hK K; try with_reducible dsimp only [thenA]) | (refine ac_exit ?_; simp only [thenA, blockA, if_true]) | (refine ac_cond_h fun Kt Kf ht hf => ?_; simp (disch := omega) [go_sem, *]; try (refine ⟨fun hc => ?_, fun hc => ?_⟩ <;> try (exfalso; omega))))
            (refine ac_ret ?_; try dsimp only [thenA, blockA]; refine ⟨by simp, _, (by first | rfl | (simp (disch := omega) [go_sem, upd_ne] <;> rfl)), ?_⟩; refine ret_id ⟨fun k hk => (by first | rfl | (repeat rw [upd_ne _ _ _ _ (by omega)])), (by simp [go_sem, below, belowL]), (by simp [go_sem] <;> omega), by simp, by simp⟩)
  · rw [if_neg hz]
    generalize chkW ls l = e at *
    have hb1 : (e == 0) = false := by simpa using hz
    have hb2 : (e != 0) = true := by simpa using hz
    clear hnl hnlL hsL hw hs
    generalize List.map encLn ls = LL at *
    generalize List.map encO l = OO at *
    repeat' (first | (refine ac_seq_h fun K hK => ?_) | (refine ac_region_h fun K hK => ?_; simp (disch := omega) [go_sem, *, Tryz.ntmps26 ]) | (apply Hide.out hK; clear hK K; try with_reducible dsimp only [thenA]) | (apply Hide.out ht; clear ht hf Kt Kf) | (with_reducible refine APure.gcall (k0) ?_; try simp (disch := omega) [go_sem, * ]) | (refine ac_cond_h fun Kt Kf ht hf => ?_; simp (disch := omega) [go_sem, * ]; try (refine ⟨fun hc => ?_, fun hc => ?_⟩ <;> try (exfalso; omega))))
    (refine ac_ret ?_; try dsimp only [thenA, blockA]; refine ⟨by simp, _, (by first | rfl | (simp (disch := omega) [go_sem, upd_ne] <;> rfl)), ?_⟩; refine ret_id ⟨fun k hk => (by first | rfl | (repeat rw [upd_ne _ _ _ _ (by omega)])), (by simp [go_sem, below, belowL]), (by simp [go_sem] <;> omega), by simp, by simp⟩)
end Go.AM
