/- Orders: checked; which is given; Decide. Conditions: as each theorem says. -/
import Derived.Test.YtbpbgiedemkciaaGreatDoorEc
namespace Go.AM
open Go.Proofs Cw
set_option maxRecDepth 10000
set_option maxHeartbeats 4000000
/-- which order is given: the first of those with the greatest rank -/
def givF (fs : Fs) : List Ordr → Nat → Int → Int → Int
  | [], _, b, _ => b
  | o :: r, i, b, br => if Cw.holds o.cond fs && (decide (b < 0) || decide (o.rank > br)) then givF fs r (i + 1) i o.rank else givF fs r (i + 1) b br
def giv (l : List Ordr) (fs : Fs) : Int := givF fs l 0 (-1) 0
def okO (l : List Ordr) : Prop := ∀ o ∈ l, wf o.cond ∧ ok o.cond = true
theorem decide56 (nl fu : Bool) (s : Nat) (l : List Ordr) (hnl : l = [] ∨ nl = false ∧ s = 7) (hw : okO l) (hl : l.length ≤ 1000000) (fs : Fs) : APure Tryz.prog 56 [.fslc nl fu s (l.map encO), encF fs] (iv .i64 (giv l fs)) := by
  intro h n
  refine ACalls.pure (ACalls.entry (by kernel_rfl) fun hb _ => calls_of Tryz.func56 rfl (by kernel_rfl) (by simp [Tryz.ntmps56]) ?_)
  obtain ⟨T, hT⟩ : ∃ T, Hide (T = giv l fs) := ⟨_, rfl⟩
  rw [← hT.out]
  replace hnl : Hide _ := hnl
  replace hw : Hide _ := hw
  repeat' (first | (refine ac_seq_h fun K hK => ?_) | (refine ac_region_h fun K hK => ?_; simp (disch := omega) [go_sem, *, Tryz.ntmps56]) | (apply Hide.out hK; clear hK K; try with_reducible dsimp only [thenA]) | (refine ac_block ?_))
  refine ac_loop_wk (fun s' => ∃ (i n' : Nat) (b br : Int), n + 1 < n' ∧ i ≤ l.length ∧ (b = -1 ∨ ∃ j : Nat, b = j ∧ ∃ o, l[j]? = some o ∧ o.rank = br) ∧ givF fs (l.drop i) i b br = T ∧ s' = ⟨36, [(0, .fslc nl fu s (l.map encO)), (3, .ptr n 0), (5, iv .i64 b), (8, .fslc nl fu s (l.map encO)), (9, iv .i64 l.length), (10, iv .i64 i)], h.upd n (some (.cells [iv .i64 fs.a, iv .i64 fs.b, iv .i64 fs.c, iv .i64 fs.d, iv .i64 fs.e])), n'⟩)
      (fun s' => l.length - (intAt s' 10).toNat) ?_ ?_
  · exact loop_start (by simp [go_sem]) (Sub.refl _) ⟨0, _, -1, 0, by omega, by omega, .inl rfl, by rw [hT.out]; rfl, rfl⟩
  · rintro s' ⟨i, n', b, br, hn', hi, hbb, hc, rfl⟩
    by_cases hlt : i < l.length
    · obtain ⟨⟨nm, rk, k, f, o, nn, nl2, fu2, s2, ks⟩, hx⟩ : ∃ o, l[i] = o := ⟨_, rfl⟩
      have hmem : ∀ o, l[i] = o → o ∈ l := fun o e => e ▸ List.getElem_mem hlt
      have hne : l ≠ [] := fun e => by rw [e] at hlt; simp at hlt
      obtain ⟨rfl, rfl⟩ := hnl.out.resolve_left hne
      have hwc := hw.out _ (hmem _ hx)
      have k1 := holds_spec _ _ (Nat.le_refl _) hwc.1 hwc.2 fs
      have hex : encO l[i] = .agg [sv nm, iv .i64 rk, iv .i64 k, iv .i64 f, iv .i64 o, iv .i64 nn, .fslc nl2 fu2 s2 (encL ks)] := by rw [hx]; rfl
      have hxs : l[i]? = some ⟨nm, rk, .mk k f o nn nl2 fu2 s2 ks⟩ := by rw [List.getElem?_eq_getElem hlt, hx]
      have hdr : l.drop i = ⟨nm, rk, .mk k f o nn nl2 fu2 s2 ks⟩ :: l.drop (i + 1) := by rw [List.drop_eq_getElem_cons hlt, hx]
      rw [hdr, givF] at hc
      simp only [encC] at k1
      generalize Cw.holds (.mk k f o nn nl2 fu2 s2 ks) fs = x at *
      replace hx : Hide _ := hx
      replace hxs : Hide _ := hxs
      clear hdr hmem hne hwc
      cases x with
      | false =>
        simp only [Bool.false_and, Bool.false_eq_true, if_false] at hc
        replace hc : Hide _ := hc
        rcases hbb with rfl | ⟨jb, rfl, ob, hob, hrb⟩
        · skip
          repeat' (first | (refine ac_seq_h fun K hK => ?_) | (refine ac_region_h fun K hK => ?_; simp (disch := omega) [go_sem, *, wrap64_id, ilt_true, ile_true]) | (refine ac_quiet_h mixed (by kernel_rfl) fun K hK => ?_; simp (disch := omega) [go_sem, *]) | (refine aQ_c (by simp [go_sem]) (by simp (disch := omega) [go_sem, *, upd_ne]; first | exact rfl | exact ⟨rfl, rfl, rfl⟩ | exact (k1).gcall ⟨rfl, rfl, rfl⟩) ?_; try simp only [pS_some]) | (refine aQ_end ?_) | (apply Hide.out hK; clear hK K; try with_reducible dsimp only [thenA]) | (apply Hide.out ht; clear ht hf Kt Kf) | (apply Hide.out hf; clear ht hf Kt Kf) | (refine ac_block ?_) | (refine ac_skip ?_; simp only [thenA, blockA]) | (refine ac_cond_h fun Kt Kf ht hf => ?_; simp (disch := omega) [go_sem, *]; try (refine ⟨fun hc => ?_, fun hc => ?_⟩ <;> try (exfalso; omega))))
          exact round_end (by simp (disch := omega) [go_sem]) (by repeat (first | exact Sub.refl _ | refine Sub.upd ?_ (by rw [upd_ne _ _ _ _ (by omega)]; exact hb.none (by omega)) _)) ⟨i + 1, _, -1, br, by omega, by omega, .inl rfl, hc.out, rfl⟩ (by simp [intAt, go_sem]; omega)
        · skip
          repeat' (first | (refine ac_seq_h fun K hK => ?_) | (refine ac_region_h fun K hK => ?_; simp (disch := omega) [go_sem, *, wrap64_id, ilt_true, ile_true]) | (refine ac_quiet_h mixed (by kernel_rfl) fun K hK => ?_; simp (disch := omega) [go_sem, *]) | (refine aQ_c (by simp [go_sem]) (by simp (disch := omega) [go_sem, *, upd_ne]; first | exact rfl | exact ⟨rfl, rfl, rfl⟩ | exact (k1).gcall ⟨rfl, rfl, rfl⟩) ?_; try simp only [pS_some]) | (refine aQ_end ?_) | (apply Hide.out hK; clear hK K; try with_reducible dsimp only [thenA]) | (apply Hide.out ht; clear ht hf Kt Kf) | (apply Hide.out hf; clear ht hf Kt Kf) | (refine ac_block ?_) | (refine ac_skip ?_; simp only [thenA, blockA]) | (refine ac_cond_h fun Kt Kf ht hf => ?_; simp (disch := omega) [go_sem, *]; try (refine ⟨fun hc => ?_, fun hc => ?_⟩ <;> try (exfalso; omega))))
          exact round_end (by simp (disch := omega) [go_sem]) (by repeat (first | exact Sub.refl _ | refine Sub.upd ?_ (by rw [upd_ne _ _ _ _ (by omega)]; exact hb.none (by omega)) _)) ⟨i + 1, _, jb, br, by omega, by omega, .inr ⟨jb, rfl, ob, hob, hrb⟩, hc.out, rfl⟩ (by simp [intAt, go_sem]; omega)
      | true =>
        rcases hbb with rfl | ⟨jb, rfl, ob, hob, hrb⟩
        · simp only [show decide ((-1 : Int) < 0) = true by decide, Bool.true_or, Bool.and_self, if_true] at hc
          replace hc : Hide _ := hc
          repeat' (first | (refine ac_seq_h fun K hK => ?_) | (refine ac_region_h fun K hK => ?_; simp (disch := omega) [go_sem, *, wrap64_id, ilt_true, ile_true]) | (refine ac_quiet_h mixed (by kernel_rfl) fun K hK => ?_; simp (disch := omega) [go_sem, *]) | (refine aQ_c (by simp [go_sem]) (by simp (disch := omega) [go_sem, *, upd_ne, ilt_true]; first | exact rfl | exact ⟨rfl, rfl, rfl⟩ | exact (k1).gcall ⟨rfl, rfl, rfl⟩) ?_; try simp only [pS_some]) | (refine aQ_end ?_) | (apply Hide.out hK; clear hK K; try with_reducible dsimp only [thenA]) | (apply Hide.out ht; clear ht hf Kt Kf) | (refine ac_block ?_) | (refine ac_skip ?_; simp only [thenA]) | (refine ac_cond_h fun Kt Kf ht hf => ?_; simp (disch := omega) [go_sem, *]; try (refine ⟨fun hc => ?_, fun hc => ?_⟩ <;> try (exfalso; omega))))
          exact round_end (by simp (disch := omega) [go_sem]) (by repeat (first | exact Sub.refl _ | refine Sub.upd ?_ (by rw [upd_ne _ _ _ _ (by omega)]; exact hb.none (by omega)) _)) ⟨i + 1, _, i, rk, by omega, by omega, .inr ⟨i, rfl, _, hxs.out, rfl⟩, hc.out, rfl⟩ (by simp [intAt, go_sem]; omega)
        · have hjl : jb < l.length := (List.getElem?_eq_some_iff.1 hob).1
          have hxb : l[jb] = ob := by rw [List.getElem?_eq_getElem hjl] at hob; exact Option.some.inj hob
          obtain ⟨nm3, rk3, k3, f3, o3, nn3, nl3, fu3, s3, ks3⟩ := ob
          simp only at hrb
          subst hrb
          have hexb : encO l[jb] = .agg [sv nm3, iv .i64 rk3, iv .i64 k3, iv .i64 f3, iv .i64 o3, iv .i64 nn3, .fslc nl3 fu3 s3 (encL ks3)] := by rw [hxb]; rfl
          have hjn : decide ((jb : Int) < 0) = false := by simp
          rw [hjn] at hc
          simp only [Bool.false_or, Bool.true_and] at hc
          have hmx : (if 0 < jb then (jb : Int) else 0) = jb := by split <;> omega
          replace hob : Hide _ := hob
          replace hxb : Hide _ := hxb
          by_cases hr : rk > rk3
          · rw [if_pos (by simpa using hr)] at hc
            replace hc : Hide _ := hc
            repeat' (first | (refine ac_seq_h fun K hK => ?_) | (refine ac_region_h fun K hK => ?_; simp (disch := omega) [go_sem, *, wrap64_id, ilt_true, ile_true]) | (refine ac_quiet_h mixed (by kernel_rfl) fun K hK => ?_; simp (disch := omega) [go_sem, *]) | (refine aQ_c (by simp [go_sem]) (by simp (disch := omega) [go_sem, *, upd_ne, ilt_false, ile_true]; first | exact rfl | exact ⟨rfl, rfl, rfl⟩ | exact (k1).gcall ⟨rfl, rfl, rfl⟩) ?_; try simp only [pS_some]) | (refine aQ_end ?_) | (apply Hide.out hK; clear hK K; try with_reducible dsimp only [thenA]) | (apply Hide.out ht; clear ht hf Kt Kf) | (refine ac_block ?_) | (refine ac_skip ?_; simp only [thenA]) | (refine ac_cond_h fun Kt Kf ht hf => ?_; simp (disch := omega) [go_sem, *]; try (refine ⟨fun hc => ?_, fun hc => ?_⟩ <;> try (exfalso; omega))))
            exact round_end (by simp (disch := omega) [go_sem]) (by repeat (first | exact Sub.refl _ | refine Sub.upd ?_ (by rw [upd_ne _ _ _ _ (by omega)]; exact hb.none (by omega)) _)) ⟨i + 1, _, i, rk, by omega, by omega, .inr ⟨i, rfl, _, hxs.out, rfl⟩, hc.out, rfl⟩ (by simp [intAt, go_sem]; omega)
          · rw [if_neg (by simpa using hr)] at hc
            replace hc : Hide _ := hc
            repeat' (first | (refine ac_seq_h fun K hK => ?_) | (refine ac_region_h fun K hK => ?_; simp (disch := omega) [go_sem, *, wrap64_id, ilt_true, ile_true]) | (refine ac_quiet_h mixed (by kernel_rfl) fun K hK => ?_; simp (disch := omega) [go_sem, *]) | (refine aQ_c (by simp [go_sem]) (by simp (disch := omega) [go_sem, *, upd_ne, ilt_false, ile_true]; first | exact rfl | exact ⟨rfl, rfl, rfl⟩ | exact (k1).gcall ⟨rfl, rfl, rfl⟩) ?_; try simp only [pS_some]) | (refine aQ_end ?_) | (apply Hide.out hK; clear hK K; try with_reducible dsimp only [thenA]) | (apply Hide.out ht; clear ht hf Kt Kf) | (apply Hide.out hf; clear ht hf Kt Kf) | (refine ac_block ?_) | (refine ac_skip ?_; simp only [thenA, blockA]) | (refine ac_cond_h fun Kt Kf ht hf => ?_; simp (disch := omega) [go_sem, *]; try (refine ⟨fun hc => ?_, fun hc => ?_⟩ <;> try (exfalso; omega))))
            exact round_end (by simp (disch := omega) [go_sem]) (by repeat (first | exact Sub.refl _ | refine Sub.upd ?_ (by rw [upd_ne _ _ _ _ (by omega)]; exact hb.none (by omega)) _)) ⟨i + 1, _, jb, rk3, by omega, by omega, .inr ⟨jb, rfl, _, hob.out, rfl⟩, hc.out, rfl⟩ (by simp [intAt, go_sem]; omega)
    · rw [List.drop_eq_nil_of_le (by omega), givF] at hc
      subst hc
      clear hbb
      repeat' (first | (refine ac_seq_h fun K hK => ?_) | (refine ac_region_h fun K hK => ?_; simp (disch := omega) [go_sem, *, ilt_false]) | (apply Hide.out hK; clear hK K; try with_reducible dsimp only [thenA]) | (apply Hide.out hf; clear ht hf Kt Kf) | (clear hK K; apply Hide.out hK; clear hK K; try with_reducible dsimp only [thenA]) | (refine ac_exit ?_; simp only [thenA, blockA, if_true]) | (refine ac_cond_h fun Kt Kf ht hf => ?_; simp (disch := omega) [go_sem, *]; try (refine ⟨fun hc => ?_, fun hc => ?_⟩ <;> try (exfalso; omega))))
      (refine ac_ret ?_; try dsimp only [thenA, blockA]; refine ⟨by simp, _, (by first | rfl | (simp (disch := omega) [go_sem, upd_ne] <;> rfl)), ?_⟩; refine ret_id ⟨fun k hk => (by first | rfl | (repeat rw [upd_ne _ _ _ _ (by omega)])), (by simp [go_sem, below]), (by simp [go_sem] <;> omega), by simp, by simp⟩)
end Go.AM

namespace Go.AM
open Go.Proofs Cw
set_option maxRecDepth 10000
set_option maxHeartbeats 4000000
theorem all_okO {l : List Ordr} (hw : wfO l) (h : l.all ordOk = true) : okO l := fun o ho => by
  have := List.all_eq_true.1 h o ho
  simp only [ordOk, Cw.formed, Bool.and_eq_true] at this
  exact ⟨hw o ho, this.2.1.1⟩
theorem chk_zero {l : List Ordr} (h : chk l = 0) : l.all ordOk = true ∧ l.length ≤ 30 := by
  unfold chk at h
  split at h
  · cases h
  · split at h
    · rename_i h1 h2; exact ⟨h2, by omega⟩
    · cases h
/-- what Decide returns -/
def decO (l : List Ordr) (fs : Fs) : Int × Bool × Int :=
  if chk l ≠ 0 then (0, false, chk l) else if fs.ok then (max (giv l fs) 0, decide (giv l fs ≥ 0), 0) else (0, false, 1)
theorem giv_range (fs : Fs) : ∀ (l : List Ordr) (i : Nat) (b br : Int), -1 ≤ b → b < i → -1 ≤ givF fs l i b br ∧ givF fs l i b br < i + l.length
  | [], i, b, br, h1, h2 => by simp [givF]; omega
  | o :: r, i, b, br, h1, h2 => by
    simp only [givF, List.length_cons]
    split
    · have := giv_range fs r (i + 1) i o.rank (by omega) (by omega); omega
    · have := giv_range fs r (i + 1) b br h1 (by omega); omega
theorem Decide22 (nl fu : Bool) (s : Nat) (l : List Ordr) (hnl : l = [] ∨ nl = false ∧ s = 7) (hw : wfO l) (hs : smO l) (hl : l.length ≤ 1000000) (fs : Fs) : APure Tryz.prog 22 [.fslc nl fu s (l.map encO), encF fs] (.tup [iv .i64 (decO l fs).1, bv (decO l fs).2.1, iv .i64 (decO l fs).2.2]) := by
  intro h n
  have k1 := check55 nl fu s l hnl hw hs hl
  have k2 := valid_spec fs
  refine ACalls.pure (ACalls.entry (by kernel_rfl) fun hb _ => calls_of Tryz.func22 rfl (by kernel_rfl) (by simp [Tryz.ntmps22]) ?_)
  obtain ⟨⟨r0, r1, r2⟩, hR⟩ : ∃ r, r = decO l fs := ⟨_, rfl⟩
  rw [← hR]
  unfold decO at hR
  by_cases hc : chk l = 0
  · have k3 := decide56 nl fu s l hnl (all_okO hw (chk_zero hc).1) hl fs
    have hg := giv_range fs l 0 (-1) 0 (by omega) (by omega)
    rw [hc] at k1 hR
    simp only [ne_eq, not_true_eq_false, if_false] at hR
    have hg1 : -1 ≤ giv l fs ∧ giv l fs < 0 + (l.length : Int) := hg
    cases hf : fs.ok with
    | true =>
      rw [hf] at k2 hR
      simp only [if_true] at hR
      generalize giv l fs = g at *
      generalize List.map encO l = L at *
      obtain ⟨fa, fb, fc, fd, fe⟩ := fs
      simp only [Prod.mk.injEq] at hR
      obtain ⟨rfl, rfl, rfl⟩ := hR
      clear hf hnl hw hs hc hg
      by_cases h0 : 0 ≤ g
      · have e1 : max g 0 = g := by omega
        rw [e1, decide_eq_true h0]
        clear e1
        repeat' (first | (refine ac_seq_h fun K hK => ?_) | (refine ac_region_h fun K hK => ?_; simp (disch := omega) [go_sem, *, ilt_false, Tryz.ntmps22 ]) | (apply Hide.out hK; clear hK K; try with_reducible dsimp only [thenA]) | (apply Hide.out hf; clear ht hf Kt Kf) | (with_reducible refine APure.gcall (k1) ?_; try simp (disch := omega) [go_sem, * ]) | (with_reducible refine APure.gcall (k2) ?_; try simp (disch := omega) [go_sem, * ]) | (with_reducible refine APure.gcall (k3) ?_; try simp (disch := omega) [go_sem, * ]) | (refine ac_skip ?_; simp only [thenA]) | (refine ac_cond_h fun Kt Kf ht hf => ?_; simp (disch := omega) [go_sem, * ]; try (refine ⟨fun hc => ?_, fun hc => ?_⟩ <;> try (exfalso; omega))))
        (refine ac_ret ?_; try dsimp only [thenA, blockA]; refine ⟨by simp, _, (by first | rfl | (simp (disch := omega) [go_sem, upd_ne] <;> rfl)), ?_⟩; refine ret_id ⟨fun k hk => (by first | rfl | (repeat rw [upd_ne _ _ _ _ (by omega)])), (by simp [go_sem, below, belowL]), (by simp [go_sem] <;> omega), by simp, by simp⟩)
      · have e1 : g = -1 := by omega
        subst e1
        clear h0 hg1
        repeat' (first | (refine ac_seq_h fun K hK => ?_) | (refine ac_region_h fun K hK => ?_; simp (disch := omega) [go_sem, *, ilt_true, ile_false, Tryz.ntmps22 ]) | (apply Hide.out hK; clear hK K; try with_reducible dsimp only [thenA]) | (apply Hide.out hf; clear ht hf Kt Kf) | (with_reducible refine APure.gcall (k1) ?_; try simp (disch := omega) [go_sem, * ]) | (with_reducible refine APure.gcall (k2) ?_; try simp (disch := omega) [go_sem, * ]) | (with_reducible refine APure.gcall (k3) ?_; try simp (disch := omega) [go_sem, * ]) | (refine ac_skip ?_; simp only [thenA]) | (refine ac_cond_h fun Kt Kf ht hf => ?_; simp (disch := omega) [go_sem, * ]; try (refine ⟨fun hc => ?_, fun hc => ?_⟩ <;> try (exfalso; omega))))
        (refine ac_ret ?_; try dsimp only [thenA, blockA]; refine ⟨by simp, _, (by first | rfl | (simp (disch := omega) [go_sem, upd_ne] <;> rfl)), ?_⟩; refine ret_id ⟨fun k hk => (by first | rfl | (repeat rw [upd_ne _ _ _ _ (by omega)])), (by simp [go_sem, below, belowL]), (by simp [go_sem] <;> omega), by simp, by simp⟩)
    | false =>
      rw [hf] at k2 hR
      simp only [Bool.false_eq_true, if_false] at hR
      generalize List.map encO l = L at *
      obtain ⟨fa, fb, fc, fd, fe⟩ := fs
      simp only [Prod.mk.injEq] at hR
      obtain ⟨rfl, rfl, rfl⟩ := hR
      clear hf hnl hw hs hc hg hg1 k3
      repeat' (first | (refine ac_seq_h fun K hK => ?_) | (refine ac_region_h fun K hK => ?_; simp (disch := omega) [go_sem, *, Tryz.ntmps22 ]) | (apply Hide.out hK; clear hK K; try with_reducible dsimp only [thenA]) | (apply Hide.out ht; clear ht hf Kt Kf) | (apply Hide.out hf; clear ht hf Kt Kf) | (with_reducible refine APure.gcall (k1) ?_; try simp (disch := omega) [go_sem, * ]) | (with_reducible refine APure.gcall (k2) ?_; try simp (disch := omega) [go_sem, * ]) | (refine ac_skip ?_; simp only [thenA]) | (refine ac_cond_h fun Kt Kf ht hf => ?_; simp (disch := omega) [go_sem, * ]; try (refine ⟨fun hc => ?_, fun hc => ?_⟩ <;> try (exfalso; omega))))
      (refine ac_ret ?_; try dsimp only [thenA, blockA]; refine ⟨by simp, _, (by first | rfl | (simp (disch := omega) [go_sem, upd_ne] <;> rfl)), ?_⟩; refine ret_id ⟨fun k hk => (by first | rfl | (repeat rw [upd_ne _ _ _ _ (by omega)])), (by simp [go_sem, below, belowL]), (by simp [go_sem] <;> omega), by simp, by simp⟩)
  · rw [if_pos hc] at hR
    have hne : (chk l != 0) = true := by simpa using hc
    generalize chk l = e at *
    generalize List.map encO l = L at *
    obtain ⟨fa, fb, fc, fd, fe⟩ := fs
    simp only [Prod.mk.injEq] at hR
    obtain ⟨rfl, rfl, rfl⟩ := hR
    clear hnl hw hs hc k2
    repeat' (first | (refine ac_seq_h fun K hK => ?_) | (refine ac_region_h fun K hK => ?_; simp (disch := omega) [go_sem, *, Tryz.ntmps22 ]) | (apply Hide.out hK; clear hK K; try with_reducible dsimp only [thenA]) | (apply Hide.out ht; clear ht hf Kt Kf) | (with_reducible refine APure.gcall (k1) ?_; try simp (disch := omega) [go_sem, * ]) | (refine ac_cond_h fun Kt Kf ht hf => ?_; simp (disch := omega) [go_sem, * ]; try (refine ⟨fun hc => ?_, fun hc => ?_⟩ <;> try (exfalso; omega))))
    (refine ac_ret ?_; try dsimp only [thenA, blockA]; refine ⟨by simp, _, (by first | rfl | (simp (disch := omega) [go_sem, upd_ne] <;> rfl)), ?_⟩; refine ret_id ⟨fun k hk => (by first | rfl | (repeat rw [upd_ne _ _ _ _ (by omega)])), (by simp [go_sem, below, belowL]), (by simp [go_sem] <;> omega), by simp, by simp⟩)
end Go.AM
