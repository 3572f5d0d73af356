/- Orders as plain data: few, formed. Conditions: as each theorem says. -/
import Derived.Test.YtbpbgiedemkciaaGreatDoorEb
namespace Go.AM
open Go.Proofs Cw
set_option maxRecDepth 10000
set_option maxHeartbeats 4000000
structure Ordr where
  name : ByteArray
  rank : Int
  cond : Cnd
def encO : Ordr → AV
  | ⟨nm, rk, .mk k f o n nl fu s ks⟩ => .agg [sv nm, iv .i64 rk, iv .i64 k, iv .i64 f, iv .i64 o, iv .i64 n, .fslc nl fu s (encL ks)]
def wfO (l : List Ordr) : Prop := ∀ o ∈ l, wf o.cond
/-- not too large -/
def lit (o : Ordr) : Bool := decide (o.name.size ≤ 40) && decide (tot o.cond ≤ 80)
def fewO (l : List Ordr) : Bool := l.all lit && (decide (l.length ≤ 6) || (decide (30 < l.length) && decide (l.length ≤ 50)))
@[go_sem] theorem cellsO_sc (c : Ordr) : (cellsOf (encO c)).all AV.scalar = true := by obtain ⟨a, b, c⟩ := c; cases c; simp [encO, cellsOf, AV.scalar]
@[go_sem] theorem loadO_enc (c : Ordr) : loadC (7, true) (cellsOf (encO c)) = some (encO c) := by obtain ⟨a, b, c⟩ := c; cases c; simp [encO, cellsOf, loadC]
theorem few21 (nl fu : Bool) (s : Nat) (l : List Ordr) (hnl : l = [] ∨ nl = false ∧ s = 7) (hw : wfO l) (hl : l.length ≤ 9223372036854775807) : APure Tryz.prog 21 [.agg [.fslc true true 0 [], .fslc nl fu s (l.map encO)]] (bv (fewO l)) := by
  intro h n
  refine ACalls.pure (ACalls.entry (by kernel_rfl) fun hb _ => calls_of Tryz.func21 rfl (by kernel_rfl) (by simp [Tryz.ntmps21]) ?_)
  obtain ⟨T, hT⟩ : ∃ T, Hide (T = fewO l) := ⟨_, rfl⟩
  rw [← hT.out]
  replace hnl : Hide _ := hnl
  replace hw : Hide _ := hw
  repeat' (first | (refine ac_seq_h fun K hK => ?_) | (refine ac_region_h fun K hK => ?_; simp (disch := omega) [go_sem, *, Tryz.ntmps21]) | (apply Hide.out hK; clear hK K; try with_reducible dsimp only [thenA]) | (refine ac_block ?_))
  refine ac_rounds 1 ?_
  unfold ACRounds
  repeat' (first | (refine ac_seq_h fun K hK => ?_) | (refine ac_region_h fun K hK => ?_; simp (disch := omega) [go_sem, *]) | (apply Hide.out hK; clear hK K; try with_reducible dsimp only [thenA]) | (apply Hide.out hf; clear ht hf Kt Kf) | (clear hK K; apply Hide.out hK; clear hK K; try with_reducible dsimp only [thenA]) | (refine ac_block ?_) | (refine ac_exit ?_; simp only [thenA, blockA, if_true]) | (refine ac_cond_h fun Kt Kf ht hf => ?_; simp (disch := omega) [go_sem, *]; try (refine ⟨fun hc => ?_, fun hc => ?_⟩ <;> try (exfalso; omega))))
  refine ac_loop_wk (fun s' => ∃ (i n' : Nat), n < n' ∧ i ≤ l.length ∧ (∀ j o, j < i → l[j]? = some o → lit o = true) ∧ s' = ⟨99, [(1, .ptr n 0), (5, iv .i64 i)], h.upd n (some (.cells [.fslc true true 0 [], .fslc nl fu s (l.map encO)])), n'⟩)
      (fun s' => l.length - (intAt s' 5).toNat) ?_ ?_
  · exact loop_start (by simp [go_sem]) (Sub.refl _) ⟨0, _, by omega, by omega, fun j o hj => by omega, rfl⟩
  · rintro s' ⟨i, n', hn', hi, hall, rfl⟩
    replace hall : Hide _ := hall
    by_cases hlt : i < l.length
    · obtain ⟨⟨nm, rk, k, f, o, nn, nl2, fu2, s2, ks⟩, hx⟩ : ∃ o, l[i] = o := ⟨_, rfl⟩
      have hmem : ∀ o, l[i] = o → o ∈ l := fun o e => e ▸ List.getElem_mem hlt
      have hne : l ≠ [] := fun e => by rw [e] at hlt; simp at hlt
      obtain ⟨rfl, rfl⟩ := hnl.out.resolve_left hne
      have hwc := hw.out _ (hmem _ hx)
      have k1 := small_spec _ hwc
      have hex : encO l[i] = .agg [sv nm, iv .i64 rk, iv .i64 k, iv .i64 f, iv .i64 o, iv .i64 nn, .fslc nl2 fu2 s2 (encL ks)] := by rw [hx]; rfl
      have hxs : l[i]? = some ⟨nm, rk, .mk k f o nn nl2 fu2 s2 ks⟩ := by rw [List.getElem?_eq_getElem hlt, hx]
      have hbad : lit ⟨nm, rk, .mk k f o nn nl2 fu2 s2 ks⟩ = false → T = false := fun hq => by
        rw [hT.out, fewO]
        have : l.all lit = false := by
          rw [List.all_eq_false]; exact ⟨_, hmem _ hx, by simp [hq]⟩
        rw [this]; rfl
      have hlit : lit ⟨nm, rk, .mk k f o nn nl2 fu2 s2 ks⟩ = (decide (nm.size ≤ 40) && decide (tot (.mk k f o nn nl2 fu2 s2 ks) ≤ 80)) := rfl
      simp only [encC] at k1
      generalize hz : decide (tot (.mk k f o nn nl2 fu2 s2 ks) ≤ 80) = z at *
      replace hx : Hide _ := hx
      replace hxs : Hide _ := hxs
      replace hz : Hide _ := hz
      clear hmem hne hwc
      by_cases h40 : nm.size ≤ 40
      · rw [decide_eq_true h40, Bool.true_and] at hlit
        cases z with
        | true =>
          replace hlit : Hide _ := hlit
          clear hbad
          repeat' (first | (refine ac_seq_h fun K hK => ?_) | (refine ac_region_h fun K hK => ?_; simp (disch := omega) [go_sem, *, wrap64_id, ilt_true, ilt_false, ile_true]) | (apply Hide.out hK; clear hK K; try with_reducible dsimp only [thenA]) | (apply Hide.out ht; clear ht hf Kt Kf) | (apply Hide.out hf; clear ht hf Kt Kf) | (with_reducible refine APure.gcall (k1) ?_; try simp (disch := omega) [go_sem, *]) | (refine ac_block ?_) | (refine ac_skip ?_; simp only [thenA, blockA]) | (refine ac_cond_h fun Kt Kf ht hf => ?_; simp (disch := omega) [go_sem, *]; try (refine ⟨fun hc => ?_, fun hc => ?_⟩ <;> try (exfalso; omega))))
          exact round_end (by simp (disch := omega) [go_sem]) (Sub.refl _) ⟨i + 1, _, by omega, by omega, fun j y hj hy => by
            rcases Nat.lt_or_ge j i with h1 | h1
            · exact hall.out j y h1 hy
            · have : j = i := by omega
              subst this
              rw [hxs.out] at hy; cases hy; exact hlit.out, rfl⟩ (by simp [intAt, go_sem]; omega)
        | false =>
          have hTf := hbad hlit
          subst hTf
          clear hbad hlit
          repeat' (first | (refine ac_seq_h fun K hK => ?_) | (refine ac_region_h fun K hK => ?_; simp (disch := omega) [go_sem, *, ilt_true, ilt_false, ile_true]) | (apply Hide.out hK; clear hK K; try with_reducible dsimp only [thenA]) | (apply Hide.out ht; clear ht hf Kt Kf) | (with_reducible refine APure.gcall (k1) ?_; try simp (disch := omega) [go_sem, *]) | (refine ac_block ?_) | (refine ac_skip ?_; simp only [thenA]) | (refine ac_cond_h fun Kt Kf ht hf => ?_; simp (disch := omega) [go_sem, *]; try (refine ⟨fun hc => ?_, fun hc => ?_⟩ <;> try (exfalso; omega))))
          (refine ac_ret ?_; try dsimp only [thenA, blockA]; refine ⟨by simp, _, (by first | rfl | (simp (disch := omega) [go_sem, upd_ne] <;> rfl)), ?_⟩; refine ret_id ⟨fun k hk => (by first | rfl | (repeat rw [upd_ne _ _ _ _ (by omega)])), (by simp [go_sem, below]), (by simp [go_sem] <;> omega), by simp, by simp⟩)
      · have hTf := hbad (by rw [hlit, decide_eq_false h40]; rfl)
        subst hTf
        clear hbad hlit
        repeat' (first | (refine ac_seq_h fun K hK => ?_) | (refine ac_region_h fun K hK => ?_; simp (disch := omega) [go_sem, *, ilt_true, ile_true]) | (apply Hide.out hK; clear hK K; try with_reducible dsimp only [thenA]) | (apply Hide.out ht; clear ht hf Kt Kf) | (refine ac_block ?_) | (refine ac_skip ?_; simp only [thenA]) | (refine ac_cond_h fun Kt Kf ht hf => ?_; simp (disch := omega) [go_sem, *]; try (refine ⟨fun hc => ?_, fun hc => ?_⟩ <;> try (exfalso; omega))))
        (refine ac_ret ?_; try dsimp only [thenA, blockA]; refine ⟨by simp, _, (by first | rfl | (simp (disch := omega) [go_sem, upd_ne] <;> rfl)), ?_⟩; refine ret_id ⟨fun k hk => (by first | rfl | (repeat rw [upd_ne _ _ _ _ (by omega)])), (by simp [go_sem, below]), (by simp [go_sem] <;> omega), by simp, by simp⟩)
    · have hall2 : l.all lit = true := by
        rw [List.all_eq_true]
        intro o ho
        obtain ⟨j, hj, e⟩ := List.getElem_of_mem ho
        exact hall.out j o (by omega) (by rw [List.getElem?_eq_getElem hj, e])
      have hT2 : T = (decide (l.length ≤ 6) || (decide (30 < l.length) && decide (l.length ≤ 50))) := by rw [hT.out, fewO, hall2, Bool.true_and]
      clear hall2 hT
      by_cases h6 : l.length ≤ 6
      · have hTt : T = true := by rw [hT2]; simp [h6]
        subst hTt
        clear hT2
        repeat' (first | (refine ac_seq_h fun K hK => ?_) | (refine ac_region_h fun K hK => ?_; simp (disch := omega) [go_sem, *, ilt_false, ile_true]) | (apply Hide.out hK; clear hK K; try with_reducible dsimp only [thenA]) | (apply Hide.out hf; clear ht hf Kt Kf) | (clear hK K; apply Hide.out hK; clear hK K; try with_reducible dsimp only [thenA]) | (refine ac_exit ?_; simp only [thenA, blockA, if_true]) | (refine ac_cond_h fun Kt Kf ht hf => ?_; simp (disch := omega) [go_sem, *]; try (refine ⟨fun hc => ?_, fun hc => ?_⟩ <;> try (exfalso; omega))))
        (refine ac_ret ?_; try dsimp only [thenA, blockA]; refine ⟨by simp, _, (by first | rfl | (simp (disch := omega) [go_sem, upd_ne] <;> rfl)), ?_⟩; refine ret_id ⟨fun k hk => (by first | rfl | (repeat rw [upd_ne _ _ _ _ (by omega)])), (by simp [go_sem, below]), (by simp [go_sem] <;> omega), by simp, by simp⟩)
      · by_cases h30 : 30 < l.length
        · by_cases h50 : l.length ≤ 50
          · have hTt : T = true := by rw [hT2]; simp [h30, h50]
            subst hTt
            clear hT2
            repeat' (first | (refine ac_seq_h fun K hK => ?_) | (refine ac_region_h fun K hK => ?_; simp (disch := omega) [go_sem, *, ilt_true, ilt_false, ile_true, ile_false]) | (apply Hide.out hK; clear hK K; try with_reducible dsimp only [thenA]) | (apply Hide.out hf; clear ht hf Kt Kf) | (clear hK K; apply Hide.out hK; clear hK K; try with_reducible dsimp only [thenA]) | (refine ac_exit ?_; simp only [thenA, blockA, if_true]) | (refine ac_cond_h fun Kt Kf ht hf => ?_; simp (disch := omega) [go_sem, *]; try (refine ⟨fun hc => ?_, fun hc => ?_⟩ <;> try (exfalso; omega))))
            (refine ac_ret ?_; try dsimp only [thenA, blockA]; refine ⟨by simp, _, (by first | rfl | (simp (disch := omega) [go_sem, upd_ne] <;> rfl)), ?_⟩; refine ret_id ⟨fun k hk => (by first | rfl | (repeat rw [upd_ne _ _ _ _ (by omega)])), (by simp [go_sem, below]), (by simp [go_sem] <;> omega), by simp, by simp⟩)
          · have hTt : T = false := by rw [hT2]; simp [h6, h50]
            subst hTt
            clear hT2
            repeat' (first | (refine ac_seq_h fun K hK => ?_) | (refine ac_region_h fun K hK => ?_; simp (disch := omega) [go_sem, *, ilt_true, ilt_false, ile_true, ile_false]) | (apply Hide.out hK; clear hK K; try with_reducible dsimp only [thenA]) | (apply Hide.out hf; clear ht hf Kt Kf) | (clear hK K; apply Hide.out hK; clear hK K; try with_reducible dsimp only [thenA]) | (refine ac_exit ?_; simp only [thenA, blockA, if_true]) | (refine ac_cond_h fun Kt Kf ht hf => ?_; simp (disch := omega) [go_sem, *]; try (refine ⟨fun hc => ?_, fun hc => ?_⟩ <;> try (exfalso; omega))))
            (refine ac_ret ?_; try dsimp only [thenA, blockA]; refine ⟨by simp, _, (by first | rfl | (simp (disch := omega) [go_sem, upd_ne] <;> rfl)), ?_⟩; refine ret_id ⟨fun k hk => (by first | rfl | (repeat rw [upd_ne _ _ _ _ (by omega)])), (by simp [go_sem, below]), (by simp [go_sem] <;> omega), by simp, by simp⟩)
        · have hTt : T = false := by rw [hT2]; simp [h6, h30]
          subst hTt
          clear hT2
          repeat' (first | (refine ac_seq_h fun K hK => ?_) | (refine ac_region_h fun K hK => ?_; simp (disch := omega) [go_sem, *, ilt_false, ile_true, ile_false]) | (apply Hide.out hK; clear hK K; try with_reducible dsimp only [thenA]) | (apply Hide.out hf; clear ht hf Kt Kf) | (clear hK K; apply Hide.out hK; clear hK K; try with_reducible dsimp only [thenA]) | (refine ac_exit ?_; simp only [thenA, blockA, if_true]) | (refine ac_cond_h fun Kt Kf ht hf => ?_; simp (disch := omega) [go_sem, *]; try (refine ⟨fun hc => ?_, fun hc => ?_⟩ <;> try (exfalso; omega))))
          (refine ac_ret ?_; try dsimp only [thenA, blockA]; refine ⟨by simp, _, (by first | rfl | (simp (disch := omega) [go_sem, upd_ne] <;> rfl)), ?_⟩; refine ret_id ⟨fun k hk => (by first | rfl | (repeat rw [upd_ne _ _ _ _ (by omega)])), (by simp [go_sem, below]), (by simp [go_sem] <;> omega), by simp, by simp⟩)
end Go.AM

namespace Go.AM
open Go.Proofs Cw
set_option maxRecDepth 10000
set_option maxHeartbeats 4000000
def ordOk (o : Ordr) : Bool := nameOk o.name && wi o.rank 0 100 && Cw.formed o.cond
def chk (l : List Ordr) : Int := if 30 < l.length then 2 else if l.all ordOk then 0 else 7
def smO (l : List Ordr) : Prop := ∀ o ∈ l, tot o.cond ≤ 900 ∧ o.name.size ≤ 1000000
theorem check55 (nl fu : Bool) (s : Nat) (l : List Ordr) (hnl : l = [] ∨ nl = false ∧ s = 7) (hw : wfO l) (hs : smO l) (hl : l.length ≤ 1000000) : APure Tryz.prog 55 [.agg [.fslc true true 0 [], .fslc nl fu s (l.map encO)]] (iv .i64 (chk l)) := by
  intro h n
  refine ACalls.pure (ACalls.entry (by kernel_rfl) fun hb _ => calls_of Tryz.func55 rfl (by kernel_rfl) (by simp [Tryz.ntmps55]) ?_)
  obtain ⟨T, hT⟩ : ∃ T, Hide (T = chk l) := ⟨_, rfl⟩
  rw [← hT.out]
  replace hnl : Hide _ := hnl
  replace hw : Hide _ := hw
  replace hs : Hide _ := hs
  by_cases h30 : 30 < l.length
  · have hT2 : T = 2 := by rw [hT.out, chk, if_pos h30]
    subst hT2
    repeat' (first | (refine ac_seq_h fun K hK => ?_) | (refine ac_region_h fun K hK => ?_; simp (disch := omega) [go_sem, *, ilt_true, ilt_false, Tryz.ntmps55]) | (apply Hide.out hK; clear hK K; try with_reducible dsimp only [thenA]) | (apply Hide.out ht; clear ht hf Kt Kf) | (refine ac_cond_h fun Kt Kf ht hf => ?_; simp (disch := omega) [go_sem, *]; try (refine ⟨fun hc => ?_, fun hc => ?_⟩ <;> try (exfalso; omega))))
    (refine ac_ret ?_; try dsimp only [thenA, blockA]; refine ⟨by simp, _, (by first | rfl | (simp (disch := omega) [go_sem, upd_ne] <;> rfl)), ?_⟩; refine ret_id ⟨fun k hk => (by first | rfl | (repeat rw [upd_ne _ _ _ _ (by omega)])), (by simp [go_sem, below]), (by simp [go_sem] <;> omega), by simp, by simp⟩)
  · have hTs : T = if l.all ordOk then 0 else 7 := by rw [hT.out, chk, if_neg h30]
    replace hTs : Hide _ := hTs
    repeat' (first | (refine ac_seq_h fun K hK => ?_) | (refine ac_region_h fun K hK => ?_; simp (disch := omega) [go_sem, *, ilt_false, Tryz.ntmps55]) | (apply Hide.out hK; clear hK K; try with_reducible dsimp only [thenA]) | (apply Hide.out hf; clear ht hf Kt Kf) | (refine ac_block ?_) | (refine ac_skip ?_; simp only [thenA]) | (refine ac_cond_h fun Kt Kf ht hf => ?_; simp (disch := omega) [go_sem, *]; try (refine ⟨fun hc => ?_, fun hc => ?_⟩ <;> try (exfalso; omega))))
    refine ac_rounds 1 ?_
    unfold ACRounds
    repeat' (first | (refine ac_seq_h fun K hK => ?_) | (refine ac_region_h fun K hK => ?_; simp (disch := omega) [go_sem, *]) | (apply Hide.out hK; clear hK K; try with_reducible dsimp only [thenA]) | (apply Hide.out hf; clear ht hf Kt Kf) | (clear hK K; apply Hide.out hK; clear hK K; try with_reducible dsimp only [thenA]) | (refine ac_block ?_) | (refine ac_exit ?_; simp only [thenA, blockA, if_true]) | (refine ac_cond_h fun Kt Kf ht hf => ?_; simp (disch := omega) [go_sem, *]; try (refine ⟨fun hc => ?_, fun hc => ?_⟩ <;> try (exfalso; omega))))
    refine ac_loop_wk (fun s' => ∃ (i n' : Nat), n < n' ∧ i ≤ l.length ∧ (∀ j o, j < i → l[j]? = some o → ordOk o = true) ∧ s' = ⟨52, [(1, .ptr n 0), (29, .fslc nl fu s (l.map encO)), (30, iv .i64 l.length), (31, iv .i64 i)], h.upd n (some (.cells [.fslc true true 0 [], .fslc nl fu s (l.map encO)])), n'⟩)
      (fun s' => l.length - (intAt s' 31).toNat) ?_ ?_
    · exact loop_start (by simp [go_sem]) (Sub.refl _) ⟨0, _, by omega, by omega, fun j o hj => by omega, rfl⟩
    · rintro s' ⟨i, n', hn', hi, hall, rfl⟩
      replace hall : Hide _ := hall
      by_cases hlt : i < l.length
      · obtain ⟨⟨nm, rk, k, f, o, nn, nl2, fu2, s2, ks⟩, hx⟩ : ∃ o, l[i] = o := ⟨_, rfl⟩
        have hmem : ∀ o, l[i] = o → o ∈ l := fun o e => e ▸ List.getElem_mem hlt
        have hne : l ≠ [] := fun e => by rw [e] at hlt; simp at hlt
        obtain ⟨rfl, rfl⟩ := hnl.out.resolve_left hne
        have hwc := hw.out _ (hmem _ hx)
        have hsc := hs.out _ (hmem _ hx)
        have k1 := named83 nm hsc.2
        have k2 := within_spec rk 0 100
        have k3 := formed_spec _ hwc hsc.1
        have hex : encO l[i] = .agg [sv nm, iv .i64 rk, iv .i64 k, iv .i64 f, iv .i64 o, iv .i64 nn, .fslc nl2 fu2 s2 (encL ks)] := by rw [hx]; rfl
        have hxs : l[i]? = some ⟨nm, rk, .mk k f o nn nl2 fu2 s2 ks⟩ := by rw [List.getElem?_eq_getElem hlt, hx]
        have hbad : ordOk ⟨nm, rk, .mk k f o nn nl2 fu2 s2 ks⟩ = false → T = 7 := fun hq => by
          rw [hTs.out, if_neg]
          intro e
          have := List.all_eq_true.1 e _ (hmem _ hx)
          rw [hq] at this; cases this
        have hok : ordOk ⟨nm, rk, .mk k f o nn nl2 fu2 s2 ks⟩ = (nameOk nm && wi rk 0 100 && Cw.formed (.mk k f o nn nl2 fu2 s2 ks)) := rfl
        simp only [encC] at k3
        generalize nameOk nm = x at *
        generalize wi rk 0 100 = y at *
        generalize Cw.formed (.mk k f o nn nl2 fu2 s2 ks) = z at *
        replace hx : Hide _ := hx
        replace hxs : Hide _ := hxs
        clear hmem hne hwc hsc
        cases x
        · have hTf := hbad (by rw [hok]; rfl)
          subst hTf
          clear hbad hok
          repeat' (first | (refine ac_seq_h fun K hK => ?_) | (refine ac_region_h fun K hK => ?_; simp (disch := omega) [go_sem, *, ilt_true, ile_true]) | (apply Hide.out hK; clear hK K; try with_reducible dsimp only [thenA]) | (apply Hide.out ht; clear ht hf Kt Kf) | (with_reducible refine APure.gcall (k1) ?_; try simp (disch := omega) [go_sem, *]) | (refine ac_block ?_) | (refine ac_skip ?_; simp only [thenA]) | (refine ac_cond_h fun Kt Kf ht hf => ?_; simp (disch := omega) [go_sem, *]; try (refine ⟨fun hc => ?_, fun hc => ?_⟩ <;> try (exfalso; omega))))
          (refine ac_ret ?_; try dsimp only [thenA, blockA]; refine ⟨by simp, _, (by first | rfl | (simp (disch := omega) [go_sem, upd_ne] <;> rfl)), ?_⟩; refine ret_id ⟨fun k hk => (by first | rfl | (repeat rw [upd_ne _ _ _ _ (by omega)])), (by simp [go_sem, below]), (by simp [go_sem] <;> omega), by simp, by simp⟩)
        · cases y
          · have hTf := hbad (by rw [hok]; rfl)
            subst hTf
            clear hbad hok
            repeat' (first | (refine ac_seq_h fun K hK => ?_) | (refine ac_region_h fun K hK => ?_; simp (disch := omega) [go_sem, *, ilt_true, ile_true]) | (apply Hide.out hK; clear hK K; try with_reducible dsimp only [thenA]) | (apply Hide.out ht; clear ht hf Kt Kf) | (with_reducible refine APure.gcall (k1) ?_; try simp (disch := omega) [go_sem, *]) | (with_reducible refine APure.gcall (k2) ?_; try simp (disch := omega) [go_sem, *]) | (refine ac_block ?_) | (refine ac_skip ?_; simp only [thenA]) | (refine ac_cond_h fun Kt Kf ht hf => ?_; simp (disch := omega) [go_sem, *]; try (refine ⟨fun hc => ?_, fun hc => ?_⟩ <;> try (exfalso; omega))))
            (refine ac_ret ?_; try dsimp only [thenA, blockA]; refine ⟨by simp, _, (by first | rfl | (simp (disch := omega) [go_sem, upd_ne] <;> rfl)), ?_⟩; refine ret_id ⟨fun k hk => (by first | rfl | (repeat rw [upd_ne _ _ _ _ (by omega)])), (by simp [go_sem, below]), (by simp [go_sem] <;> omega), by simp, by simp⟩)
          · cases z
            · have hTf := hbad (by rw [hok]; rfl)
              subst hTf
              clear hbad hok
              repeat' (first | (refine ac_seq_h fun K hK => ?_) | (refine ac_region_h fun K hK => ?_; simp (disch := omega) [go_sem, *, ilt_true, ile_true]) | (apply Hide.out hK; clear hK K; try with_reducible dsimp only [thenA]) | (apply Hide.out ht; clear ht hf Kt Kf) | (with_reducible refine APure.gcall (k1) ?_; try simp (disch := omega) [go_sem, *]) | (with_reducible refine APure.gcall (k2) ?_; try simp (disch := omega) [go_sem, *]) | (with_reducible refine APure.gcall (k3) ?_; try simp (disch := omega) [go_sem, *]) | (refine ac_block ?_) | (refine ac_skip ?_; simp only [thenA]) | (refine ac_cond_h fun Kt Kf ht hf => ?_; simp (disch := omega) [go_sem, *]; try (refine ⟨fun hc => ?_, fun hc => ?_⟩ <;> try (exfalso; omega))))
              (refine ac_ret ?_; try dsimp only [thenA, blockA]; refine ⟨by simp, _, (by first | rfl | (simp (disch := omega) [go_sem, upd_ne] <;> rfl)), ?_⟩; refine ret_id ⟨fun k hk => (by first | rfl | (repeat rw [upd_ne _ _ _ _ (by omega)])), (by simp [go_sem, below]), (by simp [go_sem] <;> omega), by simp, by simp⟩)
            · have hok2 : ordOk ⟨nm, rk, .mk k f o nn nl2 fu2 s2 ks⟩ = true := by rw [hok]; rfl
              replace hok2 : Hide _ := hok2
              clear hbad hok
              repeat' (first | (refine ac_seq_h fun K hK => ?_) | (refine ac_region_h fun K hK => ?_; simp (disch := omega) [go_sem, *, wrap64_id, ilt_true, ile_true]) | (apply Hide.out hK; clear hK K; try with_reducible dsimp only [thenA]) | (apply Hide.out ht; clear ht hf Kt Kf) | (apply Hide.out hf; clear ht hf Kt Kf) | (with_reducible refine APure.gcall (k1) ?_; try simp (disch := omega) [go_sem, *]) | (with_reducible refine APure.gcall (k2) ?_; try simp (disch := omega) [go_sem, *]) | (with_reducible refine APure.gcall (k3) ?_; try simp (disch := omega) [go_sem, *]) | (refine ac_block ?_) | (refine ac_skip ?_; simp only [thenA, blockA]) | (refine ac_cond_h fun Kt Kf ht hf => ?_; simp (disch := omega) [go_sem, *]; try (refine ⟨fun hc => ?_, fun hc => ?_⟩ <;> try (exfalso; omega))))
              exact round_end (by simp (disch := omega) [go_sem]) (by repeat (first | exact Sub.refl _ | refine Sub.upd ?_ (by rw [upd_ne _ _ _ _ (by omega)]; exact hb.none (by omega)) _)) ⟨i + 1, _, by omega, by omega, fun j y hj hy => by
                rcases Nat.lt_or_ge j i with h1 | h1
                · exact hall.out j y h1 hy
                · have : j = i := by omega
                  subst this
                  rw [hxs.out] at hy; cases hy; exact hok2.out, rfl⟩ (by simp [intAt, go_sem]; omega)
      · have hall2 : l.all ordOk = true := by
          rw [List.all_eq_true]
          intro o ho
          obtain ⟨j, hj, e⟩ := List.getElem_of_mem ho
          exact hall.out j o (by omega) (by rw [List.getElem?_eq_getElem hj, e])
        have hT0 : T = 0 := by rw [hTs.out, hall2]; rfl
        subst hT0
        clear hall2
        repeat' (first | (refine ac_seq_h fun K hK => ?_) | (refine ac_region_h fun K hK => ?_; simp (disch := omega) [go_sem, *, ilt_false]) | (apply Hide.out hK; clear hK K; try with_reducible dsimp only [thenA]) | (apply Hide.out hf; clear ht hf Kt Kf) | (clear hK K; apply Hide.out hK; clear hK K; try with_reducible dsimp only [thenA]) | (refine ac_exit ?_; simp only [thenA, blockA, if_true]) | (refine ac_cond_h fun Kt Kf ht hf => ?_; simp (disch := omega) [go_sem, *]; try (refine ⟨fun hc => ?_, fun hc => ?_⟩ <;> try (exfalso; omega))))
        (refine ac_ret ?_; try dsimp only [thenA, blockA]; refine ⟨by simp, _, (by first | rfl | (simp (disch := omega) [go_sem, upd_ne] <;> rfl)), ?_⟩; refine ret_id ⟨fun k hk => (by first | rfl | (repeat rw [upd_ne _ _ _ _ (by omega)])), (by simp [go_sem, below]), (by simp [go_sem] <;> omega), by simp, by simp⟩)
end Go.AM
