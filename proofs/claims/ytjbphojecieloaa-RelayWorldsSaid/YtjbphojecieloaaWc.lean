/- Walks: time, crash. Conditions: as each theorem says. -/
import Derived.Test.YtjbphojecieloaaWb
namespace Go.AM
open Go.Proofs Wl
set_option maxRecDepth 10000
set_option maxHeartbeats 4000000
attribute [-go_sem] aLen
theorem ac_hb {P : Program} {fl : Nat} {c : Code} {Q : Exit → St → Prop} {st : St} (h : HB st.h st.n → ACode P fl c Q st) : ACode P fl c Q st :=
  fun r w0 G a w hr S hf => h (S.inv.HB S.fresh) r w0 G a w hr S hf
theorem timeGo_append (w : Wd) : ∀ (a b : List (Nat × Nat)), timeGo w (a ++ b) = timeGo (timeGo w a) b
  | [], _ => rfl | (x, y) :: r, b => by rw [List.cons_append, timeGo, timeGo, timeGo_append]
theorem timeGo_st : ∀ (l : List (Nat × Nat)) (w : Wd), (timeGo w l).st = w.st
  | [], _ => rfl | (a, b) :: r, w => by rw [timeGo, timeGo_st r, timeP_st]
theorem timeP_sum (w : Wd) (a b : Nat) : (timeP w a b).last - (timeP w a b).mails.length = w.last - w.mails.length := by
  unfold timeP
  split
  · rfl
  · simp only [setT, putW, List.length_append, stamp_length]; omega
theorem timeGo_sum : ∀ (l : List (Nat × Nat)) (w : Wd), (timeGo w l).last - (timeGo w l).mails.length = w.last - w.mails.length
  | [], _ => rfl | (a, b) :: r, w => by rw [timeGo, timeGo_sum r, timeP_sum]
theorem timeP_ck (w : Wd) (a b : Nat) : (timeP w a b).tick = w.tick ∧ (timeP w a b).wait = w.wait := by
  unfold timeP; split <;> exact ⟨rfl, rfl⟩
theorem timeGo_ck : ∀ (l : List (Nat × Nat)) (w : Wd), (timeGo w l).tick = w.tick ∧ (timeGo w l).wait = w.wait
  | [], _ => ⟨rfl, rfl⟩ | (a, b) :: r, w => by
    have h1 := timeGo_ck r (timeP w a b)
    have h2 := timeP_ck w a b
    exact ⟨h1.1.trans h2.1, h1.2.trans h2.2⟩
def rowP (st a b : Nat) : List (Nat × Nat) := (List.range a).flatMap (fun x => (List.range st).map fun y => (x, y)) ++ (List.range b).map fun y => (a, y)
theorem rowP_zero (st : Nat) : rowP st 0 0 = [] := rfl
theorem rowP_next (st a b : Nat) : rowP st a (b + 1) = rowP st a b ++ [(a, b)] := by
  simp [rowP, List.range_succ]
theorem rowP_row (st a : Nat) : rowP st (a + 1) 0 = rowP st a st := by
  simp [rowP, List.range_succ]
theorem rowP_all (st : Nat) : rowP st st 0 = grid st := by simp [rowP, grid]
theorem rowP_mem {st a b : Nat} (ha : a < st) (hb : b ≤ st) : ∀ p ∈ rowP st a b, p.1 < st ∧ p.2 < st := by
  intro p hp
  simp only [rowP, List.mem_append, List.mem_flatMap, List.mem_range, List.mem_map] at hp
  rcases hp with ⟨x, hx, y, hy, rfl⟩ | ⟨y, hy, rfl⟩
  · exact ⟨by simp only; omega, hy⟩
  · exact ⟨ha, by simp only; omega⟩
theorem rowP_mem0 {st a : Nat} (ha : a ≤ st) : ∀ p ∈ rowP st a 0, p.1 < st ∧ p.2 < st := by
  intro p hp
  simp only [rowP, List.mem_append, List.mem_flatMap, List.mem_range, List.mem_map] at hp
  rcases hp with ⟨x, hx, y, hy, rfl⟩ | ⟨y, hy, rfl⟩
  · exact ⟨by simp only; omega, hy⟩
  · omega
theorem flat_cons1 (x : AV) (r : List AV) : flat (x :: r) = cellsOf x ++ flat r := by simp [flat]
theorem elems_mails : ∀ l : List Mail, elems true 6 (l.map encMail).length (flat (l.map encMail)) = l.map encMail
  | [] => rfl
  | m :: r => by
    have h := elems_mails r
    rw [List.map_cons, flat_cons1, List.length_cons]
    show mkElem true [iv .i64 m.id, iv .i64 m.kind, iv .i64 m.fr, iv .i64 m.to, iv .i64 m.num, sv m.text] :: elems true 6 (r.map encMail).length (flat (r.map encMail)) = _
    rw [h]
    rfl
theorem ap_ml_K {nm m : Nat} {L : List AV} {x : Mail} {h : AHeap} {n : Nat} {K : AV → AHeap → Nat → Prop} (hm : h m = acO L) (hL : ∀ x ∈ L, (cellsOf x).length = 6) (hl : L.length ≤ 1000)
    (hk : K (acV 6 nm (L ++ [encMail x])) ((h.upd m none).upd nm (acO (L ++ [encMail x]))) n) : stepK (aAppend Try.prog nm 32 (acV 6 m L) (.fslc false false 6 [encMail x]) h) n K := by
  obtain ⟨e1, e2, e3, e4⟩ := ty32
  rw [ap_ac (nm := nm) e1 e2 e3 e4 (by decide) hm hL (by simp) (by simp; omega)]
  exact hk
theorem resend_len (a b : Nat) (t : Talk) : (resend a b t).length = t.said.length - t.known.toNat := by simp [resend]
theorem resend_at {a b kn k : Nat} {t : Talk} (hk : t.known = kn) (hl : kn + k < t.said.length) : (resend a b t)[k]? = some ⟨0, 1, a, b, ((kn + k : Nat) : Int) + 1, t.said[kn + k]⟩ := by
  have h1 : t.known.toNat = kn := by omega
  simp [resend, h1, hl]
/-- what time has done: a turn of the world, from the frame's start -/
theorem time_spec {w : Wd} {N : Sl → Nat} {V : AV} {h : AHeap} (R : WRep w N V h) (hw : Wok w) (hk1 : w.last ≤ 100000000000) (s : Step) (n : Nat) (hown : ∀ k, own w.st N k → k < n) (K0 : AV → AHeap → Nat → Prop)
    (hK0 : ∀ h' n', WTurn w N h n (timeW w s.n).1 h' n' → K0 (iv .i64 (timeW w s.n).2) h' n') : ACalls Try.prog 50 [.ptr (N .p) 0, encStep s] h n K0 := by
  refine ACalls.entry (by kernel_rfl) fun hb _ => calls_of Try.func50 rfl (by kernel_rfl) (by simp [Try.ntmps50]) ?_
  have hp := R.hd
  have hpn : N .p < n := hown _ ⟨.p, trivial, rfl⟩
  replace hK0 : Hide _ := hK0; replace hown : Hide _ := hown; replace R : Hide _ := R
  have y2 := hw.t1; have y3 := hw.w0; have y4 := hw.w1; have y1 := hw.t0
  cases hc : within s.n w.tick 1048576 with
  | false =>
    have hL : Hide (timeW w s.n = (w, 1)) := by rw [Hide, timeW, if_pos hc]
    replace hw : Hide _ := hw
    repeat' (first | (refine ac_seq_h fun K hK => ?_) | (refine ac_region_h fun K hK => ?_; simp (disch := omega) [go_sem, *, Try.ntmps50 ]) | (refine ac_draw_h mixed (by kernel_rfl) fun K hK => ?_; simp (disch := omega) [go_sem, *, upd_ne ]) | (apply Hide.out hK; clear hK K; try with_reducible dsimp only [thenA]) | (apply Hide.out ht; clear ht hf Kt Kf) | (apply Hide.out hf; clear ht hf Kt Kf) | (clear hK K; apply Hide.out hK; clear hK K; try with_reducible dsimp only [thenA]) | (clear hK K; clear hK K; apply Hide.out hK; clear hK K; try with_reducible dsimp only [thenA]) | (with_reducible refine APure.call (within_spec _ _ _) ?_; try simp (disch := omega) [go_sem, * ]) | (refine ac_block ?_) | (refine ac_skip ?_; simp only [thenA, blockA]) | (refine ac_exit ?_; simp only [thenA, blockA, if_true, if_false, Nat.reduceEqDiff]) | (with_reducible show nextK _ _ _ _ _ _ _; simp (disch := omega) [go_sem, *, wrap64_id, upd_ne, mk3_true, flatten_replicate_one, stepK_if, ilt_true, ilt_false, ile_true, ile_false, Try.ntmps50 ]) | (refine wantK_split (fun hc => ?_) (fun hc => ?_) <;> (try simp only [Bool.not_eq_true', Bool.not_eq_false', Bool.not_eq_eq_eq_not, Bool.not_true, Bool.not_false, decide_eq_true_eq, decide_eq_false_iff_not, Int.not_lt, Int.not_le] at hc) <;> (try (exfalso; omega)) <;> (try simp (disch := omega) [go_sem, *, wrap64_id, upd_ne, mk3_true, flatten_replicate_one, stepK_if, ilt_true, ilt_false, ile_true, ile_false, Try.ntmps50 ])) | (refine ac_cond_h fun Kt Kf ht hf => ?_; simp (disch := omega) [go_sem, * ]; try (refine ⟨fun hc => ?_, fun hc => ?_⟩ <;> try (exfalso; omega))))
    refine ac_ret ?_
    refine ⟨by simp, _, (by simp (disch := omega) [go_sem] <;> rfl), ?_⟩
    refine ret_id ?_
    have := hK0.out
    rw [hL.out] at this
    refine this _ _ (WTurn.refl R.out hown.out ?_ (fun k hk => ?_))
    · simp only; omega
    · simp (disch := omega) only [upd_ne]
  | true =>
    obtain ⟨c1, c2⟩ := Wl.within_iff.1 hc
    have hL : Hide (timeW w s.n = (timeGo { w with tick := s.n } (grid w.st), 0)) := by rw [Hide, timeW, if_neg (by rw [hc]; simp)]
    have hw0 : Hide (Wok { w with tick := s.n }) := hw.clock (by omega) c2
    replace hw : Hide _ := hw
    repeat' (first | (refine ac_seq_h fun K hK => ?_) | (refine ac_region_h fun K hK => ?_; simp (disch := omega) [go_sem, *, upd_ne, Try.ntmps50 ]) | (refine ac_draw_h mixed (by kernel_rfl) fun K hK => ?_; simp (disch := omega) [go_sem, *, upd_ne ]) | (apply Hide.out hK; clear hK K; try with_reducible dsimp only [thenA]) | (apply Hide.out ht; clear ht hf Kt Kf) | (apply Hide.out hf; clear ht hf Kt Kf) | (clear hK K; apply Hide.out hK; clear hK K; try with_reducible dsimp only [thenA]) | (clear hK K; clear hK K; apply Hide.out hK; clear hK K; try with_reducible dsimp only [thenA]) | (with_reducible refine APure.call (within_spec _ _ _) ?_; try simp (disch := omega) [go_sem, * ]) | (refine ac_block ?_) | (refine ac_skip ?_; simp only [thenA]) | (refine ac_exit ?_; simp only [thenA, blockA, if_true, if_false, Nat.reduceEqDiff]) | (with_reducible show nextK _ _ _ _ _ _ _; simp (disch := omega) [go_sem, *, wrap64_id, upd_ne, mk3_true, flatten_replicate_one, stepK_if, ilt_true, ilt_false, ile_true, ile_false, Try.ntmps50 ]) | (refine wantK_split (fun hc => ?_) (fun hc => ?_) <;> (try simp only [Bool.not_eq_true', Bool.not_eq_false', Bool.not_eq_eq_eq_not, Bool.not_true, Bool.not_false, decide_eq_true_eq, decide_eq_false_iff_not, Int.not_lt, Int.not_le] at hc) <;> (try (exfalso; omega)) <;> (try simp (disch := omega) [go_sem, *, wrap64_id, upd_ne, mk3_true, flatten_replicate_one, stepK_if, ilt_true, ilt_false, ile_true, ile_false, Try.ntmps50 ])) | (refine ac_cond_h fun Kt Kf ht hf => ?_; simp (disch := omega) [go_sem, * ]; try (refine ⟨fun hc => ?_, fun hc => ?_⟩ <;> try (exfalso; omega))))
    obtain ⟨w0, hw0e⟩ : ∃ w0 : Wd, Hide (w0 = { w with tick := s.n }) := ⟨_, rfl⟩
    rw [← hw0e.out] at hL hw0
    have t0 : w0.st = w.st := by rw [hw0e.out]
    have t1 : w0.tick = s.n := by rw [hw0e.out]
    have t2 : w0.wait = w.wait := by rw [hw0e.out]
    have hsum : w0.last - w0.mails.length = w.last - w.mails.length := by rw [hw0e.out]
    have hs1 := hw.out.s1
    have hs0 := hw.out.s0
    have hml := hw.out.ml
    have start : WTurn w N h n (timeGo w0 (rowP w.st 0 0)) ((h.upd n (some (cellsStep s))).upd (N .p) (some (.cells [iv .i64 w.st, iv .i64 w.wait, iv .i64 s.n, iv .i64 w.last, .map (N .map), V]))) (n + 2 + 8 + 6 + 5) := by
      have e0 : setq N (N .q) = N := by funext s; cases s <;> rfl
      refine ⟨N, V, ?_, .rfl, fun k hk => ?_, by omega, fun k hk hk2 => ?_⟩
      · have h1 := R.out.row (h' := (h.upd n (some (cellsStep s))).upd (N .p) (some (.cells [iv .i64 w.st, iv .i64 w.wait, iv .i64 s.n, iv .i64 w.last, .map (N .map), V]))) (q' := N .q) (V' := V) (l := w.mails) (k := w.last) (t := s.n) (upd_same _ _ _) ?_ (fun z hz z1 z2 => ?_) (.inl rfl)
        · rw [e0] at h1
          rw [rowP_zero, timeGo, hw0e.out]
          exact h1
        · have j1 : N .q ≠ N .p := fun e => by have := R.out.inj .q .p trivial trivial e; cases this
          have j2 := hown.out _ ⟨.q, trivial, rfl⟩
          exact MailsAt.congr R.out.ml (by simp (disch := omega) only [upd_ne])
        · have j1 : N z ≠ N .p := fun e => z1 (R.out.inj z .p hz trivial e)
          have j2 := hown.out _ ⟨z, hz, rfl⟩
          simp (disch := omega) only [upd_ne]
      · rw [timeGo_st, t0] at hk
        have := hown.out k hk
        exact ⟨.inl hk, by omega⟩
      · have j1 : k ≠ N .p := fun e => hk2 ⟨.p, trivial, e.symm⟩
        simp (disch := omega) only [upd_ne]
    have hu : Hide (∀ (a b : Nat), ∀ u, u = timeGo w0 (rowP w.st a b) → (a < w.st ∧ b ≤ w.st ∨ a ≤ w.st ∧ b = 0) → Wok u ∧ u.st = w.st ∧ u.tick = s.n ∧ u.wait = w.wait ∧ u.last ≤ 1000000000000) := by
      rintro a b u rfl hab
      have h1 : Wok (timeGo w0 (rowP w.st a b)) := Wok.timeGo hw0.out fun p hp => by
        rw [t0]
        rcases hab with ⟨h1, h2⟩ | ⟨h1, rfl⟩
        · exact rowP_mem h1 h2 p hp
        · exact rowP_mem0 h1 p hp
      have h2 := timeGo_sum (rowP w.st a b) w0
      have h3 := timeGo_ck (rowP w.st a b) w0
      have h4 := h1.ml
      exact ⟨h1, by rw [timeGo_st, t0], by rw [h3.1, t1], by rw [h3.2, t2], by omega⟩
    replace t0 : Hide _ := t0; replace t1 : Hide _ := t1; replace t2 : Hide _ := t2; replace hsum : Hide _ := hsum
    clear hp
    refine ac_loop_wk (fun s' => ∃ (a n1 : Nat) (H : AHeap), a ≤ w.st ∧ WTurn w N h n (timeGo w0 (rowP w.st a 0)) H n1 ∧ s' = ⟨108, [(0, .ptr (N .p) 0), (26, iv .i64 w.st), (27, iv .i64 a)], H, n1⟩) (fun z => w.st - (intAt z 27).toNat) ?_ ?_
    · exact loop_start (by simp [go_sem]) (Sub.refl _) ⟨0, _, _, by omega, start, rfl⟩
    clear start
    rintro s' ⟨a, n1, H, ha, T, rfl⟩
    obtain ⟨N1, V1, R1, p1x, o1, l1, f1⟩ := T
    obtain ⟨u, hue⟩ : ∃ u : Wd, Hide (u = timeGo w0 (rowP w.st a 0)) := ⟨_, rfl⟩
    obtain ⟨v1, v2, v3, v4, v5⟩ := hu.out a 0 u hue.out (.inr ⟨ha, rfl⟩)
    rw [← hue.out] at R1 o1
    have hp1 := R1.hd
    rw [p1x.1, v2] at hp1
    replace v1 : Hide _ := v1; replace v2 : Hide _ := v2; replace v3 : Hide _ := v3; replace v4 : Hide _ := v4; replace o1 : Hide _ := o1; replace f1 : Hide _ := f1; replace p1x : Hide _ := p1x; replace R1 : Hide _ := R1
    by_cases hlt : a < w.st
    · skip
      repeat' (first | (refine ac_seq_h fun K hK => ?_) | (refine ac_region_h fun K hK => ?_; simp (disch := omega) [go_sem, *, ilt_true]) | (refine ac_draw_h mixed (by kernel_rfl) fun K hK => ?_; simp (disch := omega) [go_sem, *, wrap64_id, upd_ne, mk3_true, flatten_replicate_one, stepK_if, ilt_true, ilt_false, ile_true, ile_false]) | (apply Hide.out hK; clear hK K; try with_reducible dsimp only [thenA]) | (apply Hide.out ht; clear ht hf Kt Kf) | (apply Hide.out hf; clear ht hf Kt Kf) | (clear hK K; apply Hide.out hK; clear hK K; try with_reducible dsimp only [thenA]) | (clear hK K; clear hK K; apply Hide.out hK; clear hK K; try with_reducible dsimp only [thenA]) | (refine ac_block ?_) | (refine ac_skip ?_; simp only [thenA]) | (refine ac_exit ?_; simp only [thenA, blockA, if_true, if_false, Nat.reduceEqDiff]) | (with_reducible show nextK _ _ _ _ _ _ _; simp (disch := omega) [go_sem, *, wrap64_id, upd_ne, mk3_true, flatten_replicate_one, stepK_if, ilt_true, ilt_false, ile_true, ile_false]) | (refine wantK_split (fun hc => ?_) (fun hc => ?_) <;> (try simp only [Bool.not_eq_true', Bool.not_eq_false', Bool.not_eq_eq_eq_not, Bool.not_true, Bool.not_false, decide_eq_true_eq, decide_eq_false_iff_not, Int.not_lt, Int.not_le] at hc) <;> (try (exfalso; omega)) <;> (try simp (disch := omega) [go_sem, *, wrap64_id, upd_ne, mk3_true, flatten_replicate_one, stepK_if, ilt_true, ilt_false, ile_true, ile_false])) | (refine ac_cond_h fun Kt Kf ht hf => ?_; simp (disch := omega) [go_sem, *]; try (refine ⟨fun hc => ?_, fun hc => ?_⟩ <;> try (exfalso; omega))))
      refine ac_loop_wk (fun s' => ∃ (b n2 : Nat) (H2 : AHeap), b ≤ w.st ∧ WTurn w N h n (timeGo w0 (rowP w.st a b)) H2 n2 ∧ s' = ⟨108, [(0, .ptr (N .p) 0), (26, iv .i64 w.st), (27, iv .i64 a), (33, iv .i64 w.st), (34, iv .i64 b), (5, iv .i64 a)], H2, n2⟩) (fun z => w.st - (intAt z 34).toNat) ?_ ?_
      · refine loop_start (by simp [go_sem]) (Sub.refl _) ⟨0, _, _, by omega, ?_, rfl⟩
        refine WTurn.grow (n2 := n1) ⟨N1, V1, ?_, p1x.out, ?_, l1, f1.out⟩ (by omega)
        · rw [← hue.out]; exact R1.out
        · rw [← hue.out]; exact o1.out
      clear hp1 v1 v2 v3 v4 v5 o1 f1 p1x R1 hue u N1 V1 l1
      rintro s' ⟨b, n2, H, hb2, T, rfl⟩
      obtain ⟨N1, V1, R1, p1x, o1, l1, f1⟩ := T
      obtain ⟨u, hue⟩ : ∃ u : Wd, Hide (u = timeGo w0 (rowP w.st a b)) := ⟨_, rfl⟩
      obtain ⟨v1, v2, v3, v4, v5⟩ := hu.out a b u hue.out (.inl ⟨hlt, hb2⟩)
      rw [← hue.out] at R1 o1
      have hp1 := R1.hd
      have hmp1 := R1.mp
      rw [p1x.1, v2] at hp1
      replace v1 : Hide _ := v1; replace v2 : Hide _ := v2; replace o1 : Hide _ := o1; replace f1 : Hide _ := f1; replace p1x : Hide _ := p1x; replace R1 : Hide _ := R1; replace hmp1 : Hide _ := hmp1
      by_cases hltb : b < w.st
      · skip
        repeat' (first | (refine ac_seq_h fun K hK => ?_) | (refine ac_region_h fun K hK => ?_; simp (disch := omega) [go_sem, *, ilt_true]) | (refine ac_draw_h mixed (by kernel_rfl) fun K hK => ?_; simp (disch := omega) [go_sem, *, wrap64_id, upd_ne, mk3_true, flatten_replicate_one, stepK_if, ilt_true, ilt_false, ile_true, ile_false]) | (apply Hide.out hK; clear hK K; try with_reducible dsimp only [thenA]) | (apply Hide.out ht; clear ht hf Kt Kf) | (apply Hide.out hf; clear ht hf Kt Kf) | (clear hK K; apply Hide.out hK; clear hK K; try with_reducible dsimp only [thenA]) | (clear hK K; clear hK K; apply Hide.out hK; clear hK K; try with_reducible dsimp only [thenA]) | (refine ac_block ?_) | (refine ac_skip ?_; simp only [thenA]) | (refine ac_exit ?_; simp only [thenA, blockA, if_true, if_false, Nat.reduceEqDiff]) | (with_reducible show nextK _ _ _ _ _ _ _; simp (disch := omega) [go_sem, *, wrap64_id, upd_ne, mk3_true, flatten_replicate_one, stepK_if, ilt_true, ilt_false, ile_true, ile_false]) | (refine wantK_split (fun hc => ?_) (fun hc => ?_) <;> (try simp only [Bool.not_eq_true', Bool.not_eq_false', Bool.not_eq_eq_eq_not, Bool.not_true, Bool.not_false, decide_eq_true_eq, decide_eq_false_iff_not, Int.not_lt, Int.not_le] at hc) <;> (try (exfalso; omega)) <;> (try simp (disch := omega) [go_sem, *, wrap64_id, upd_ne, mk3_true, flatten_replicate_one, stepK_if, ilt_true, ilt_false, ile_true, ile_false])) | (refine ac_cond_h fun Kt Kf ht hf => ?_; simp (disch := omega) [go_sem, *]; try (refine ⟨fun hc => ?_, fun hc => ?_⟩ <;> try (exfalso; omega))))
        have next : Hide (∀ (H' : AHeap) (n' : Nat), WTurn u N1 H n2 (timeP u a b) H' n' → WTurn w N h n (timeGo w0 (rowP w.st a (b + 1))) H' n') := fun H' n' T => by
          rw [rowP_next, timeGo_append, ← hue.out]
          exact WTurn.trans (w1 := u) p1x.out (fun k hk => ((o1.out k hk).1)) l1 f1.out T
        by_cases hab : a = b
        · have hP : isPair u a b = false := by
            cases e : isPair u a b
            · rfl
            · obtain ⟨x, y, _, _, q, e1, e2⟩ := pair_iff.1 e
              exact absurd (by omega) q
          have hT : Hide (timeP u a b = u) := by rw [Hide, timeP, if_pos (.inl hab)]
          replace hab : Hide _ := hab
          refine look_K (look_none (w := u) hmp1.out hP) ?_
          repeat' (first | (refine ac_seq_h fun K hK => ?_) | (refine ac_region_h fun K hK => ?_; simp (disch := omega) [go_sem, *, wrap64_id]) | (refine ac_draw_h mixed (by kernel_rfl) fun K hK => ?_; simp (disch := omega) [go_sem, *]) | (apply Hide.out hK; clear hK K; try with_reducible dsimp only [thenA]) | (apply Hide.out ht; clear ht hf Kt Kf) | (apply Hide.out hf; clear ht hf Kt Kf) | (clear hK K; apply Hide.out hK; clear hK K; try with_reducible dsimp only [thenA]) | (clear hK K; clear hK K; apply Hide.out hK; clear hK K; try with_reducible dsimp only [thenA]) | (refine ac_block ?_) | (refine ac_skip ?_; simp only [thenA, blockA]) | (refine ac_exit ?_; simp only [thenA, blockA, if_true, if_false, Nat.reduceEqDiff]) | (with_reducible show nextK _ _ _ _ _ _ _; simp (disch := omega) [go_sem, *]) | (refine wantK_split (fun hc => ?_) (fun hc => ?_) <;> (try simp only [Bool.not_eq_true', Bool.not_eq_false', Bool.not_eq_eq_eq_not, Bool.not_true, Bool.not_false, decide_eq_true_eq, decide_eq_false_iff_not, Int.not_lt, Int.not_le] at hc) <;> (try (exfalso; omega)) <;> (try simp (disch := omega) [go_sem, *, wrap64_id, upd_ne, mk3_true, flatten_replicate_one, stepK_if, ilt_true, ilt_false, ile_true, ile_false])) | (refine ac_cond_h fun Kt Kf ht hf => ?_; simp (disch := omega) [go_sem, *]; try (refine ⟨fun hc => ?_, fun hc => ?_⟩ <;> try (exfalso; omega))))
          refine round_end (by simp [go_sem]) (Sub.refl _) ⟨b + 1, _, _, by omega, next.out _ _ ?_, rfl⟩ (by simp [intAt, go_sem]; omega)
          rw [hT.out]
          exact WTurn.refl R1.out (fun k hk => (o1.out k hk).2) (by omega) (fun _ _ => rfl)
        · have okm : (Sl.nm a b).ok u.st := ⟨by rw [v2.out]; exact hlt, by rw [v2.out]; exact hltb, hab⟩
          have oks : (Sl.sm a b).ok u.st := okm
          have hmm := R1.out.tks a b okm.1 okm.2.1 hab
          have hss := R1.out.sds a b okm.1 okm.2.1 hab
          have q0 := (o1.out _ ⟨.p, trivial, rfl⟩).2
          rw [p1x.out.1] at q0
          have q2 := (o1.out _ ⟨.nm a b, okm, rfl⟩).2
          have q3 := (o1.out _ ⟨.sm a b, oks, rfl⟩).2
          have i1 : N .p ≠ N1 (.nm a b) := fun e => by rw [← p1x.out.1] at e; have := R1.out.inj .p (.nm a b) trivial okm e; cases this
          have i2 : N1 (.nm a b) ≠ N1 (.sm a b) := fun e => by have := R1.out.inj (.nm a b) (.sm a b) okm oks e; cases this
          have hTt := v1.out.tk a b
          have z1 := hTt.k0; have z2 := hTt.kh; have z3 := hTt.hs; have z4 := hTt.sl; have z5 := hTt.d0; have z6 := hTt.d1
          have z7 := v1.out.t0; have z8 := v1.out.t1; have z9 := v1.out.w0; have z10 := v1.out.w1
          obtain ⟨t, hte⟩ : ∃ t, Hide (t = u.tk a b) := ⟨_, rfl⟩
          have hT1 : Hide (a = b ∨ opn t = 0 ∨ t.due > u.tick → timeP u a b = u) := fun hc => by rw [hte.out] at hc; rw [timeP, if_pos hc]
          have hT2 : Hide (¬(a = b ∨ opn t = 0 ∨ t.due > u.tick) → timeP u a b = setT (putW u (resend a b t)) a b { t with due := u.tick + u.wait }) := fun hc => by rw [hte.out] at hc ⊢; rw [timeP, if_neg hc]
          rw [← hte.out] at hmm hss hTt z1 z2 z3 z4 z5 z6
          have hopn := fun (H : AHeap) x (hH : H (N1 (.nm a b)) = _) => open_at (h := H) (t := t) (m := N1 (.nm a b)) (sm := N1 (.sm a b)) hH (by omega) (by omega) (by omega) x
          have oo1 : opn t ≤ 1000 := by unfold opn; omega
          have oo2 : -1000 ≤ opn t := by unfold opn; omega
          obtain ⟨O, hO⟩ : ∃ O, Hide (O = opn t) := ⟨_, rfl⟩
          rw [← hO.out] at hopn oo1 oo2
          replace hT1 : Hide (a = b ∨ O = 0 ∨ t.due > u.tick → timeP u a b = u) := by rw [hO.out]; exact hT1
          replace hT2 : Hide (¬(a = b ∨ O = 0 ∨ t.due > u.tick) → timeP u a b = setT (putW u (resend a b t)) a b { t with due := u.tick + u.wait }) := by rw [hO.out]; exact hT2
          obtain ⟨L, hLL⟩ : ∃ L, Hide (L = t.said.map sv) := ⟨_, rfl⟩
          have hLl : L.length = t.said.length := by rw [hLL.out, List.length_map]
          have hmm' := hmm
          simp only [cellsTalk, ← hLL.out] at hmm
          rw [← hLL.out] at hss
          replace hmm' : Hide _ := hmm'
          replace hopn : Hide _ := hopn; replace hss : Hide _ := hss; replace v3 : Hide _ := v3; replace v4 : Hide _ := v4; replace hab : Hide _ := hab; replace okm : Hide _ := okm; replace oks : Hide _ := oks; replace hTt : Hide _ := hTt
          refine look_K (look_pair hmp1.out okm.out.1 okm.out.2.1 hab.out) ?_
          repeat' (first | (refine ac_seq_h fun K hK => ?_) | (refine ac_region_h fun K hK => ?_; simp (disch := omega) [go_sem, *, wrap64_id, upd_ne, mk3_true, flatten_replicate_one, stepK_if, ilt_true, ilt_false, ile_true, ile_false]) | (refine ac_draw_h mixed (by kernel_rfl) fun K hK => ?_; simp (disch := omega) [go_sem, *]) | (apply Hide.out hK; clear hK K; try with_reducible dsimp only [thenA]) | (apply Hide.out ht; clear ht hf Kt Kf) | (apply Hide.out hf; clear ht hf Kt Kf) | (clear hK K; apply Hide.out hK; clear hK K; try with_reducible dsimp only [thenA]) | (clear hK K; clear hK K; apply Hide.out hK; clear hK K; try with_reducible dsimp only [thenA]) | (refine ac_block ?_) | (refine ac_skip ?_; simp only [thenA, blockA]) | (refine ac_exit ?_; simp only [thenA, blockA, if_true, if_false, Nat.reduceEqDiff]) | (with_reducible show nextK _ _ _ _ _ _ _; simp (disch := omega) [go_sem, *]) | (refine wantK_split (fun hc => ?_) (fun hc => ?_) <;> (try simp only [Bool.not_eq_true', Bool.not_eq_false', Bool.not_eq_eq_eq_not, Bool.not_true, Bool.not_false, decide_eq_true_eq, decide_eq_false_iff_not, Int.not_lt, Int.not_le] at hc) <;> (try (exfalso; omega)) <;> (try simp (disch := omega) [go_sem, *, wrap64_id, upd_ne, mk3_true, flatten_replicate_one, stepK_if, ilt_true, ilt_false, ile_true, ile_false])) | (refine ac_cond_h fun Kt Kf ht hf => ?_; simp (disch := omega) [go_sem, *, wrap64_id, upd_ne, mk3_true, flatten_replicate_one, stepK_if, ilt_true, ilt_false, ile_true, ile_false]; try (refine ⟨fun hc => ?_, fun hc => ?_⟩ <;> try (exfalso; omega))))
          refine APureAt.call (hopn.out _ _ hmm'.out) ?_
          by_cases c1 : O = 0
          · have hT := hT1.out (.inr (.inl c1))
            replace hT : Hide _ := hT
            repeat' (first | (refine ac_seq_h fun K hK => ?_) | (refine ac_region_h fun K hK => ?_; simp (disch := omega) [go_sem, *, wrap64_id]) | (refine ac_draw_h mixed (by kernel_rfl) fun K hK => ?_; simp (disch := omega) [go_sem, *, wrap64_id, upd_ne, mk3_true, flatten_replicate_one, stepK_if, ilt_true, ilt_false, ile_true, ile_false]) | (apply Hide.out hK; clear hK K; try with_reducible dsimp only [thenA]) | (apply Hide.out ht; clear ht hf Kt Kf) | (apply Hide.out hf; clear ht hf Kt Kf) | (clear hK K; apply Hide.out hK; clear hK K; try with_reducible dsimp only [thenA]) | (clear hK K; clear hK K; apply Hide.out hK; clear hK K; try with_reducible dsimp only [thenA]) | (refine ac_block ?_) | (refine ac_skip ?_; simp only [thenA, blockA]) | (refine ac_exit ?_; simp only [thenA, blockA, if_true, if_false, Nat.reduceEqDiff]) | (with_reducible show nextK _ _ _ _ _ _ _; simp (disch := omega) [go_sem, *]) | (refine wantK_split (fun hc => ?_) (fun hc => ?_) <;> (try simp only [Bool.not_eq_true', Bool.not_eq_false', Bool.not_eq_eq_eq_not, Bool.not_true, Bool.not_false, decide_eq_true_eq, decide_eq_false_iff_not, Int.not_lt, Int.not_le] at hc) <;> (try (exfalso; omega)) <;> (try simp (disch := omega) [go_sem, *, wrap64_id, upd_ne, mk3_true, flatten_replicate_one, stepK_if, ilt_true, ilt_false, ile_true, ile_false])) | (refine ac_cond_h fun Kt Kf ht hf => ?_; simp (disch := omega) [go_sem, *]; try (refine ⟨fun hc => ?_, fun hc => ?_⟩ <;> try (exfalso; omega))))
            refine round_end (by simp [go_sem]) (Sub.refl _) ⟨b + 1, _, _, by omega, next.out _ _ ?_, rfl⟩ (by simp [intAt, go_sem]; omega)
            rw [hT.out]
            exact WTurn.refl R1.out (fun k hk => (o1.out k hk).2) (by omega) (fun _ _ => rfl)
          have cO : (O == 0) = false := by simp [c1]
          by_cases c2 : t.due > u.tick
          · have hT := hT1.out (.inr (.inr c2))
            replace hT : Hide _ := hT
            repeat' (first | (refine ac_seq_h fun K hK => ?_) | (refine ac_region_h fun K hK => ?_; simp (disch := omega) [go_sem, *, wrap64_id]) | (refine ac_draw_h mixed (by kernel_rfl) fun K hK => ?_; simp (disch := omega) [go_sem, *, wrap64_id, upd_ne, mk3_true, flatten_replicate_one, stepK_if, ilt_true, ilt_false, ile_true, ile_false]) | (apply Hide.out hK; clear hK K; try with_reducible dsimp only [thenA]) | (apply Hide.out ht; clear ht hf Kt Kf) | (apply Hide.out hf; clear ht hf Kt Kf) | (clear hK K; apply Hide.out hK; clear hK K; try with_reducible dsimp only [thenA]) | (clear hK K; clear hK K; apply Hide.out hK; clear hK K; try with_reducible dsimp only [thenA]) | (refine ac_block ?_) | (refine ac_skip ?_; simp only [thenA, blockA]) | (refine ac_exit ?_; simp only [thenA, blockA, if_true, if_false, Nat.reduceEqDiff]) | (with_reducible show nextK _ _ _ _ _ _ _; simp (disch := omega) [go_sem, *]) | (refine wantK_split (fun hc => ?_) (fun hc => ?_) <;> (try simp only [Bool.not_eq_true', Bool.not_eq_false', Bool.not_eq_eq_eq_not, Bool.not_true, Bool.not_false, decide_eq_true_eq, decide_eq_false_iff_not, Int.not_lt, Int.not_le] at hc) <;> (try (exfalso; omega)) <;> (try simp (disch := omega) [go_sem, *, wrap64_id, upd_ne, mk3_true, flatten_replicate_one, stepK_if, ilt_true, ilt_false, ile_true, ile_false])) | (refine ac_cond_h fun Kt Kf ht hf => ?_; simp (disch := omega) [go_sem, *]; try (refine ⟨fun hc => ?_, fun hc => ?_⟩ <;> try (exfalso; omega))))
            refine round_end (by simp [go_sem]) (Sub.refl _) ⟨b + 1, _, _, by omega, next.out _ _ ?_, rfl⟩ (by simp [intAt, go_sem]; omega)
            rw [hT.out]
            exact WTurn.refl R1.out (fun k hk => (o1.out k hk).2) (by omega) (fun _ _ => rfl)
          have hT := hT2.out (fun h1 => h1.elim hab.out fun h1 => h1.elim c1 c2)
          replace hT : Hide _ := hT
          repeat' (first | (refine ac_seq_h fun K hK => ?_) | (refine ac_region_h fun K hK => ?_; simp (disch := omega) [go_sem, *]) | (refine ac_draw_h mixed (by kernel_rfl) fun K hK => ?_; simp (disch := omega) [go_sem, *, wrap64_id, upd_ne, mk3_true, flatten_replicate_one, stepK_if, ilt_true, ilt_false, ile_true, ile_false]) | (apply Hide.out hK; clear hK K; try with_reducible dsimp only [thenA]) | (apply Hide.out ht; clear ht hf Kt Kf) | (apply Hide.out hf; clear ht hf Kt Kf) | (clear hK K; apply Hide.out hK; clear hK K; try with_reducible dsimp only [thenA]) | (clear hK K; clear hK K; apply Hide.out hK; clear hK K; try with_reducible dsimp only [thenA]) | (refine ac_block ?_) | (refine ac_skip ?_; simp only [thenA]) | (refine ac_exit ?_; simp only [thenA, blockA, if_true, if_false, Nat.reduceEqDiff]) | (with_reducible show nextK _ _ _ _ _ _ _; simp (disch := omega) [go_sem, *]) | (refine wantK_split (fun hc => ?_) (fun hc => ?_) <;> (try simp only [Bool.not_eq_true', Bool.not_eq_false', Bool.not_eq_eq_eq_not, Bool.not_true, Bool.not_false, decide_eq_true_eq, decide_eq_false_iff_not, Int.not_lt, Int.not_le] at hc) <;> (try (exfalso; omega)) <;> (try simp (disch := omega) [go_sem, *, wrap64_id, upd_ne, mk3_true, flatten_replicate_one, stepK_if, ilt_true, ilt_false, ile_true, ile_false])) | (refine ac_cond_h fun Kt Kf ht hf => ?_; simp (disch := omega) [go_sem, *]; try (refine ⟨fun hc => ?_, fun hc => ?_⟩ <;> try (exfalso; omega))))
          obtain ⟨kn, hkn⟩ : ∃ kn : Nat, t.known = kn := ⟨t.known.toNat, by omega⟩
          obtain ⟨RS, hRS⟩ : ∃ RS, Hide (RS = resend a b t) := ⟨_, rfl⟩
          have hRl : RS.length = t.said.length - kn := by rw [hRS.out, resend_len]; omega
          rw [← hRS.out] at hT
          have hRat : Hide (∀ k (hl : kn + k < t.said.length), RS[k]? = some ⟨0, 1, a, b, ((kn + k : Nat) : Int) + 1, t.said[kn + k]⟩) := fun k hl => by rw [hRS.out]; exact resend_at hkn hl
          have hopos : 0 < t.said.length - kn := by
            have := c1; rw [hO.out] at this; unfold opn at this; omega
          replace cO : Hide _ := cO
          refine ac_hb fun hb2 => ?_
          have hMn := hb2.none (Nat.le_refl _)
          dsimp only at hMn
          obtain ⟨M0, hM0, hM1⟩ : ∃ M0, n2 ≤ M0 ∧ H M0 = none := ⟨_, by omega, hMn⟩
          clear hb2 hMn
          refine ac_loop_wk (fun s' => ∃ (j M n3 : Nat) (H2 : AHeap), kn ≤ j ∧ j ≤ t.said.length ∧ n2 ≤ n3 ∧ n2 ≤ M ∧ (∀ z, z < n2 → H2 z = H z) ∧ H2 M = acO ((RS.take (j - kn)).map encMail) ∧ s' = ⟨108, [(0, .ptr (N .p) 0), (26, iv .i64 w.st), (27, iv .i64 a), (33, iv .i64 w.st), (34, iv .i64 b), (5, iv .i64 a), (6, iv .i64 b), (7, .ptr (N1 (.nm a b)) 0), (8, acV 6 M ((RS.take (j - kn)).map encMail)), (9, iv .i64 j)], H2, n3⟩) (fun z => t.said.length - (intAt z 9).toNat) ?_ ?_
          · have e0 : (RS.take (kn - kn)).map encMail = [] := by rw [Nat.sub_self]; rfl
            refine loop_start (by rw [e0]; simp [go_sem, hkn, ac_nil]) (Sub.refl _) ⟨kn, M0, _, _, by omega, by omega, ?_, by omega, fun z hz => rfl, ?_, rfl⟩
            · omega
            · rw [e0]; exact hM1
          rintro s' ⟨j, M, n3, H2, hj0, hj, l3, l4, hH2, hM, rfl⟩
          clear hM0 hM1 M0
          obtain ⟨ML, hML⟩ : ∃ ML, Hide (ML = (RS.take (j - kn)).map encMail) := ⟨_, rfl⟩
          rw [← hML.out] at hM ⊢
          replace hH2 : Hide _ := hH2
          have hp2 := hp1
          rw [← hH2.out _ q0] at hp2
          have hne : L ≠ [] := by intro e; rw [e] at hLl; simp only [List.length_nil] at hLl; omega
          have hmm2 := hmm
          rw [← hH2.out _ q2, acV_ne hne, hLl] at hmm2
          have hss2 := hss.out
          rw [← hH2.out _ q3, acO_ne hne] at hss2
          clear hp1 hmm
          obtain ⟨C, hC⟩ : ∃ C, Hide (C = flat L) := ⟨_, rfl⟩
          rw [← hC.out] at hss2
          have hCf : C = t.said.map sv := by
            rw [hC.out, hLL.out]
            have : ∀ l : List ByteArray, flat (l.map sv) = l.map sv := fun l => by
              induction l with
              | nil => rfl
              | cons x r ih => rw [List.map_cons, flat_cons1, ih]; rfl
            exact this _
          have hCl : C.length = t.said.length := by rw [hCf, List.length_map]
          replace hCf : Hide _ := hCf; replace hne : Hide _ := hne; replace hM : Hide _ := hM
          have hMLl : ML.length ≤ 1000 := by rw [hML.out, List.length_map, List.length_take]; omega
          have hML6 : Hide (∀ x ∈ ML, (cellsOf x).length = 6) := fun x hx => by
            rw [hML.out] at hx; obtain ⟨q, _, rfl⟩ := List.mem_map.1 hx; rfl
          by_cases hlk : j < t.said.length
          · obtain ⟨x, hx⟩ : ∃ x, x = t.said[j] := ⟨_, rfl⟩
            have hCj : C[j]? = some (sv x) := by rw [hCf.out, List.getElem?_map, List.getElem?_eq_getElem hlk, hx]; rfl
            have hCj2 : ∀ h, C[j]'h = sv x := fun h => by rw [List.getElem?_eq_getElem h] at hCj; exact Option.some.inj hCj
            have hnext : Hide ((RS.take (j + 1 - kn)).map encMail = ML ++ [encMail ⟨0, 1, a, b, (j : Int) + 1, x⟩]) := by
              have h1 := hRat.out (j - kn) (by omega)
              have h2 : kn + (j - kn) = j := by omega
              simp only [h2] at h1
              have h3 : j + 1 - kn = (j - kn) + 1 := by omega
              rw [Hide, h3, hML.out, List.take_add_one, h1, ← hx]
              simp
            replace hx : Hide _ := hx
            repeat' (first | (refine ac_seq_h fun K hK => ?_) | (refine ac_region_h fun K hK => ?_; simp (disch := omega) [go_sem, *, wrap64_id, ilt_true, ile_true]) | (refine ac_draw_h mixed (by kernel_rfl) fun K hK => ?_; simp (disch := omega) [go_sem, *, wrap64_id, upd_ne, mk3_true, flatten_replicate_one, stepK_if, ilt_true, ilt_false, ile_true, ile_false]) | (apply Hide.out hK; clear hK K; try with_reducible dsimp only [thenA]) | (apply Hide.out ht; clear ht hf Kt Kf) | (apply Hide.out hf; clear ht hf Kt Kf) | (clear hK K; apply Hide.out hK; clear hK K; try with_reducible dsimp only [thenA]) | (clear hK K; clear hK K; apply Hide.out hK; clear hK K; try with_reducible dsimp only [thenA]) | (refine ac_block ?_) | (refine ac_skip ?_; simp only [thenA]) | (refine ac_exit ?_; simp only [thenA, blockA, if_true, if_false, Nat.reduceEqDiff]) | (with_reducible show nextK _ _ _ _ _ _ _; simp (disch := omega) [go_sem, *, wrap64_id, upd_ne, mk3_true, flatten_replicate_one, stepK_if, ilt_true, ilt_false, ile_true, ile_false]) | (refine wantK_split (fun hc => ?_) (fun hc => ?_) <;> (try simp only [Bool.not_eq_true', Bool.not_eq_false', Bool.not_eq_eq_eq_not, Bool.not_true, Bool.not_false, decide_eq_true_eq, decide_eq_false_iff_not, Int.not_lt, Int.not_le] at hc) <;> (try (exfalso; omega)) <;> (try simp (disch := omega) [go_sem, *, wrap64_id, upd_ne, mk3_true, flatten_replicate_one, stepK_if, ilt_true, ilt_false, ile_true, ile_false])) | (refine ac_cond_h fun Kt Kf ht hf => ?_; simp (disch := omega) [go_sem, *]; try (refine ⟨fun hc => ?_, fun hc => ?_⟩ <;> try (exfalso; omega))))
            refine ap_ml_K (x := ⟨0, 1, a, b, (j : Int) + 1, x⟩) hM.out hML6.out (by omega) ?_
            repeat' (first | (refine ac_seq_h fun K hK => ?_) | (refine ac_region_h fun K hK => ?_; simp (disch := omega) [go_sem, *, wrap64_id]) | (refine ac_draw_h mixed (by kernel_rfl) fun K hK => ?_; simp (disch := omega) [go_sem, *, wrap64_id, upd_ne, mk3_true, flatten_replicate_one, stepK_if, ilt_true, ilt_false, ile_true, ile_false]) | (apply Hide.out hK; clear hK K; try with_reducible dsimp only [thenA]) | (apply Hide.out ht; clear ht hf Kt Kf) | (apply Hide.out hf; clear ht hf Kt Kf) | (clear hK K; apply Hide.out hK; clear hK K; try with_reducible dsimp only [thenA]) | (clear hK K; clear hK K; apply Hide.out hK; clear hK K; try with_reducible dsimp only [thenA]) | (refine ac_block ?_) | (refine ac_skip ?_; simp only [thenA, blockA]) | (refine ac_exit ?_; simp only [thenA, blockA, if_true, if_false, Nat.reduceEqDiff]) | (with_reducible show nextK _ _ _ _ _ _ _; simp (disch := omega) [go_sem, *]) | (refine wantK_split (fun hc => ?_) (fun hc => ?_) <;> (try simp only [Bool.not_eq_true', Bool.not_eq_false', Bool.not_eq_eq_eq_not, Bool.not_true, Bool.not_false, decide_eq_true_eq, decide_eq_false_iff_not, Int.not_lt, Int.not_le] at hc) <;> (try (exfalso; omega)) <;> (try simp (disch := omega) [go_sem, *, wrap64_id, upd_ne, mk3_true, flatten_replicate_one, stepK_if, ilt_true, ilt_false, ile_true, ile_false])) | (refine ac_cond_h fun Kt Kf ht hf => ?_; simp (disch := omega) [go_sem, *, wrap64_id, upd_ne, mk3_true, flatten_replicate_one, stepK_if, ilt_true, ilt_false, ile_true, ile_false]; try (refine ⟨fun hc => ?_, fun hc => ?_⟩ <;> try (exfalso; omega))))
            refine round_end (by rw [hnext.out]; simp [go_sem]) (Sub.refl _) ⟨j + 1, n3 + 7 + 14, _, _, by omega, by omega, ?_, by omega, fun z hz => ?_, ?_, rfl⟩ (by simp [intAt, go_sem]; omega)
            · omega
            · rw [upd_ne _ _ _ _ (by omega), upd_ne _ _ _ _ (by omega)]; exact hH2.out z hz
            · rw [upd_same, hnext.out]
          · refine ac_fzac (t := 8) (m := M) (s := 6) (L := ML) true (by simp) hM.out (by simp [go_sem]) hML6.out (by rw [hML.out]; exact elems_mails _) ?_
            repeat' (first | (refine ac_seq_h fun K hK => ?_) | (refine ac_region_h fun K hK => ?_; simp (disch := omega) [go_sem, *, upd_ne, ilt_false]) | (refine ac_draw_h mixed (by kernel_rfl) fun K hK => ?_; simp (disch := omega) [go_sem, *, wrap64_id, upd_ne, mk3_true, flatten_replicate_one, stepK_if, ilt_true, ilt_false, ile_true, ile_false]) | (apply Hide.out hK; clear hK K; try with_reducible dsimp only [thenA]) | (apply Hide.out ht; clear ht hf Kt Kf) | (apply Hide.out hf; clear ht hf Kt Kf) | (clear hK K; apply Hide.out hK; clear hK K; try with_reducible dsimp only [thenA]) | (clear hK K; clear hK K; apply Hide.out hK; clear hK K; try with_reducible dsimp only [thenA]) | (refine ac_block ?_) | (refine ac_skip ?_; simp only [thenA, blockA]) | (refine ac_exit ?_; simp only [thenA, blockA, if_true, if_false, Nat.reduceEqDiff]) | (with_reducible show nextK _ _ _ _ _ _ _; simp (disch := omega) [go_sem, *, wrap64_id, upd_ne, mk3_true, flatten_replicate_one, stepK_if, ilt_true, ilt_false, ile_true, ile_false]) | (refine wantK_split (fun hc => ?_) (fun hc => ?_) <;> (try simp only [Bool.not_eq_true', Bool.not_eq_false', Bool.not_eq_eq_eq_not, Bool.not_true, Bool.not_false, decide_eq_true_eq, decide_eq_false_iff_not, Int.not_lt, Int.not_le] at hc) <;> (try (exfalso; omega)) <;> (try simp (disch := omega) [go_sem, *, wrap64_id, upd_ne, mk3_true, flatten_replicate_one, stepK_if, ilt_true, ilt_false, ile_true, ile_false])) | (refine ac_cond_h fun Kt Kf ht hf => ?_; simp (disch := omega) [go_sem, *]; try (refine ⟨fun hc => ?_, fun hc => ?_⟩ <;> try (exfalso; omega))))
            have hMR : ML = RS.map encMail := by rw [hML.out, List.take_of_length_le (by omega)]
            rw [hMR, ← p1x.out.1]
            have q4 : ∀ k, own u.st N1 k → k < n2 := fun k hk => (o1.out k hk).2
            replace q4 : Hide _ := q4
            refine put_spec (w := u) (N := N1) (V := V1) (R1.out.congr fun k hk => ?_) v1.out.ml v1.out.l0 v5 RS (by omega) _ _ 6 (fun _ => rfl) _ (fun k hk => ?_) _ (fun h' n' T => ?_)
            · have := q4.out k hk
              rw [upd_ne _ _ _ _ (by omega)]; exact hH2.out k this
            · have := q4.out k hk
              omega
            obtain ⟨N2, V2, R2, p2, o2, l6, f2⟩ := T
            have p3 := p2.1
            have p4 := p2.2.2 a b
            have hp3 := R2.hd
            rw [p3] at hp3
            have hm3 := R2.tks a b okm.out.1 okm.out.2.1 hab.out
            have hs3 := R2.sds a b okm.out.1 okm.out.2.1 hab.out
            have e1 : (putW u RS).tk = u.tk := rfl
            have e2 : (putW u RS).tick = u.tick := rfl
            have e3 : (putW u RS).wait = u.wait := rfl
            have e4 : (putW u RS).st = u.st := rfl
            rw [p4, e1, ← hte.out] at hm3
            rw [e1, ← hte.out] at hs3
            rw [e2, e3, e4] at hp3
            have i3 : N1 .p ≠ N1 (.nm a b) := by rw [p1x.out.1]; exact i1
            obtain ⟨VV, hVV⟩ : ∃ VV, VV = acV 1 (N2 (.sm a b)) (t.said.map sv) := ⟨_, rfl⟩
            simp only [cellsTalk, ← hVV] at hm3
            have o3 : ∀ z : Sl, z.ok u.st → N2 z < n' := fun z hz => (o2 _ ⟨z, hz, rfl⟩).2
            replace hVV : Hide _ := hVV; replace o3 : Hide _ := o3; replace p2 : Hide _ := p2; replace p3 : Hide _ := p3; replace p4 : Hide _ := p4; replace o2 : Hide _ := o2; replace f2 : Hide _ := f2; replace R2 : Hide _ := R2; replace hs3 : Hide _ := hs3
            clear hp2 hmm2 hss2
            repeat' (first | (refine ac_seq_h fun K hK => ?_) | (refine ac_region_h fun K hK => ?_; simp (disch := omega) [go_sem, *, wrap64_id]) | (refine ac_draw_h mixed (by kernel_rfl) fun K hK => ?_; simp (disch := omega) [go_sem, *, wrap64_id]) | (apply Hide.out hK; clear hK K; try with_reducible dsimp only [thenA]) | (apply Hide.out ht; clear ht hf Kt Kf) | (apply Hide.out hf; clear ht hf Kt Kf) | (clear hK K; apply Hide.out hK; clear hK K; try with_reducible dsimp only [thenA]) | (clear hK K; clear hK K; apply Hide.out hK; clear hK K; try with_reducible dsimp only [thenA]) | (refine ac_block ?_) | (refine ac_skip ?_; simp only [thenA, blockA]) | (refine ac_exit ?_; simp only [thenA, blockA, if_true, if_false, Nat.reduceEqDiff]) | (with_reducible show nextK _ _ _ _ _ _ _; simp (disch := omega) [go_sem, *, wrap64_id, upd_ne, mk3_true, flatten_replicate_one, stepK_if, ilt_true, ilt_false, ile_true, ile_false]) | (refine wantK_split (fun hc => ?_) (fun hc => ?_) <;> (try simp only [Bool.not_eq_true', Bool.not_eq_false', Bool.not_eq_eq_eq_not, Bool.not_true, Bool.not_false, decide_eq_true_eq, decide_eq_false_iff_not, Int.not_lt, Int.not_le] at hc) <;> (try (exfalso; omega)) <;> (try simp (disch := omega) [go_sem, *, wrap64_id, upd_ne, mk3_true, flatten_replicate_one, stepK_if, ilt_true, ilt_false, ile_true, ile_false])) | (refine ac_cond_h fun Kt Kf ht hf => ?_; simp (disch := omega) [go_sem, *, wrap64_id, upd_ne, mk3_true, flatten_replicate_one, stepK_if, ilt_true, ilt_false, ile_true, ile_false]; try (refine ⟨fun hc => ?_, fun hc => ?_⟩ <;> try (exfalso; omega))))
            rw [p1x.out.1]
            refine round_end (by simp [go_sem]) (Sub.refl _) ⟨b + 1, _, _, by omega, next.out _ _ ?_, rfl⟩ (by simp [intAt, go_sem]; omega)
            rw [hT.out]
            have nmn : ∀ z : Sl, z.ok u.st → z ≠ .nm a b → N2 z ≠ N1 (.nm a b) := fun z hz hz2 e => by
              rw [← p4.out] at e
              exact hz2 (R2.out.inj z (.nm a b) hz okm.out e)
            refine ⟨setsm N2 a b (N2 (.sm a b)), V2, WRep.setT R2.out okm.out.1 okm.out.2.1 hab.out ?_ ?_ (fun z hz z1 z2 => ?_) (.inl rfl), p2.out, fun k hk => ?_, by omega, fun k hk hk2 => ?_⟩
            · rw [p4.out, upd_same, hVV.out, ← hkn]
            · rw [upd_ne _ _ _ _ (nmn (.sm a b) oks.out (by simp))]; exact hs3.out
            · rw [upd_ne _ _ _ _ (nmn z hz z1)]
            · rw [setsm_id] at hk
              obtain ⟨k1, k2⟩ := o2.out k hk
              exact ⟨k1.imp id (by omega), by omega⟩
            · have j1 : k ≠ N1 (.nm a b) := fun e => hk2 ⟨.nm a b, okm.out, e.symm⟩
              rw [upd_ne _ _ _ _ j1, f2.out k (by omega) hk2, upd_ne _ _ _ _ (by omega)]
              exact hH2.out k hk
      · skip
        repeat' (first | (refine ac_seq_h fun K hK => ?_) | (refine ac_region_h fun K hK => ?_; simp (disch := omega) [go_sem, *, wrap64_id, ilt_false]) | (refine ac_draw_h mixed (by kernel_rfl) fun K hK => ?_; simp (disch := omega) [go_sem, *, wrap64_id, upd_ne, mk3_true, flatten_replicate_one, stepK_if, ilt_true, ilt_false, ile_true, ile_false]) | (apply Hide.out hK; clear hK K; try with_reducible dsimp only [thenA]) | (apply Hide.out ht; clear ht hf Kt Kf) | (apply Hide.out hf; clear ht hf Kt Kf) | (clear hK K; apply Hide.out hK; clear hK K; try with_reducible dsimp only [thenA]) | (clear hK K; clear hK K; apply Hide.out hK; clear hK K; try with_reducible dsimp only [thenA]) | (refine ac_block ?_) | (refine ac_skip ?_; simp only [thenA, blockA]) | (refine ac_exit ?_; simp only [thenA, blockA, if_true, if_false, Nat.reduceEqDiff]) | (with_reducible show nextK _ _ _ _ _ _ _; simp (disch := omega) [go_sem, *, wrap64_id, upd_ne, mk3_true, flatten_replicate_one, stepK_if, ilt_true, ilt_false, ile_true, ile_false]) | (refine wantK_split (fun hc => ?_) (fun hc => ?_) <;> (try simp only [Bool.not_eq_true', Bool.not_eq_false', Bool.not_eq_eq_eq_not, Bool.not_true, Bool.not_false, decide_eq_true_eq, decide_eq_false_iff_not, Int.not_lt, Int.not_le] at hc) <;> (try (exfalso; omega)) <;> (try simp (disch := omega) [go_sem, *, wrap64_id, upd_ne, mk3_true, flatten_replicate_one, stepK_if, ilt_true, ilt_false, ile_true, ile_false])) | (refine ac_cond_h fun Kt Kf ht hf => ?_; simp (disch := omega) [go_sem, *]; try (refine ⟨fun hc => ?_, fun hc => ?_⟩ <;> try (exfalso; omega))))
        have hbe : b = w.st := by omega
        have eb : timeGo w0 (rowP w.st (a + 1) 0) = u := by rw [rowP_row, hue.out, hbe]
        clear hbe
        refine round_end (by simp [go_sem]) (Sub.refl _) ⟨a + 1, _, _, by omega, ?_, rfl⟩ (by simp [intAt, go_sem]; omega)
        refine WTurn.grow (n2 := n2) ⟨N1, V1, ?_, p1x.out, ?_, l1, f1.out⟩ (by omega)
        · rw [eb]; exact R1.out
        · rw [eb]; exact o1.out
    · have hae : a = w.st := by omega
      have eg : timeGo w0 (grid w.st) = u := by rw [← rowP_all, hue.out, hae]
      replace eg : Hide _ := eg
      repeat' (first | (refine ac_seq_h fun K hK => ?_) | (refine ac_region_h fun K hK => ?_; simp (disch := omega) [go_sem, *]) | (refine ac_draw_h mixed (by kernel_rfl) fun K hK => ?_; simp (disch := omega) [go_sem, *, wrap64_id, upd_ne, mk3_true, flatten_replicate_one, stepK_if, ilt_true, ilt_false, ile_true, ile_false]) | (apply Hide.out hK; clear hK K; try with_reducible dsimp only [thenA]) | (apply Hide.out ht; clear ht hf Kt Kf) | (apply Hide.out hf; clear ht hf Kt Kf) | (clear hK K; apply Hide.out hK; clear hK K; try with_reducible dsimp only [thenA]) | (clear hK K; clear hK K; apply Hide.out hK; clear hK K; try with_reducible dsimp only [thenA]) | (refine ac_block ?_) | (refine ac_skip ?_; simp only [thenA, blockA]) | (refine ac_exit ?_; simp only [thenA, blockA, if_true]) | (with_reducible show nextK _ _ _ _ _ _ _; simp (disch := omega) [go_sem, *, wrap64_id, upd_ne, mk3_true, flatten_replicate_one, stepK_if, ilt_true, ilt_false, ile_true, ile_false]) | (refine wantK_split (fun hc => ?_) (fun hc => ?_) <;> (try simp only [Bool.not_eq_true', Bool.not_eq_false', Bool.not_eq_eq_eq_not, Bool.not_true, Bool.not_false, decide_eq_true_eq, decide_eq_false_iff_not, Int.not_lt, Int.not_le] at hc) <;> (try (exfalso; omega)) <;> (try simp (disch := omega) [go_sem, *, wrap64_id, upd_ne, mk3_true, flatten_replicate_one, stepK_if, ilt_true, ilt_false, ile_true, ile_false])) | (refine ac_cond_h fun Kt Kf ht hf => ?_; simp (disch := omega) [go_sem, *]; try (refine ⟨fun hc => ?_, fun hc => ?_⟩ <;> try (exfalso; omega))))
      refine ac_ret ?_
      refine ⟨by simp, _, (by simp (disch := omega) [go_sem] <;> rfl), ?_⟩
      refine ret_id ?_
      have := hK0.out
      rw [hL.out] at this
      refine this _ _ (WTurn.grow (n2 := n1) ⟨N1, V1, ?_, p1x.out, ?_, l1, f1.out⟩ (by simp only; omega))
      · show WRep (timeGo w0 (grid w.st)) _ _ _; rw [eg.out]; exact R1.out
      · show ∀ k, own (timeGo w0 (grid w.st)).st _ _ → _; rw [eg.out]; exact o1.out
end Go.AM

namespace Go.AM
open Go.Proofs Wl
set_option maxRecDepth 10000
set_option maxHeartbeats 4000000
def crashS (w : Wd) (a : Nat) (l : List (Nat × Nat)) : Wd := { w with tk := fun x y => if x = a ∧ (x, y) ∈ l then { w.tk x y with known := 0, due := w.tick } else w.tk x y }
theorem crashS_nil (w : Wd) (a : Nat) : crashS w a [] = w := by simp [crashS]
theorem crashS_other (w : Wd) {a x y : Nat} (l : List (Nat × Nat)) (h : x ≠ a) : crashS w a (l ++ [(x, y)]) = crashS w a l := by
  simp only [crashS]
  congr 1
  funext p q
  by_cases h1 : p = a
  · have : ¬ (p, q) = (x, y) := fun e => h (by cases e; exact h1)
    simp [h1, List.mem_append, show ¬ (a, q) = (x, y) from fun e => h (by cases e; rfl)]
  · simp [h1]
theorem crashS_at (w : Wd) {a y : Nat} (l : List (Nat × Nat)) : crashS w a (l ++ [(a, y)]) = setT (crashS w a l) a y ⟨((crashS w a l).tk a y).said, ((crashS w a l).tk a y).heard, 0, w.tick⟩ := by
  simp only [crashS, setT]
  congr 1
  funext p q
  by_cases h1 : p = a
  · subst h1
    by_cases h2 : q = y
    · subst h2
      by_cases h3 : (p, q) ∈ l <;> simp [h3]
    · have : ¬ (p, q) = (p, y) := fun e => h2 (by cases e; rfl)
      simp [h2]
  · simp [h1]
theorem WRep.same {w w' : Wd} {N : Sl → Nat} {V : AV} {h : AHeap} (R : WRep w N V h) (e1 : w'.st = w.st) (e2 : w'.wait = w.wait) (e3 : w'.tick = w.tick) (e4 : w'.last = w.last) (e5 : w'.mails = w.mails) (e6 : ∀ x y, x < w.st → y < w.st → x ≠ y → w'.tk x y = w.tk x y) : WRep w' N V h := by
  refine ⟨by rw [e1, e2, e3, e4]; exact R.hd, by rw [e5]; exact R.ml, by rw [e1]; exact R.mp, fun a b h1 h2 h3 => ?_, fun a b h1 h2 h3 => ?_, by rw [e1]; exact R.inj⟩
  · rw [e1] at h1 h2; rw [e6 a b h1 h2 h3]; exact R.tks a b h1 h2 h3
  · rw [e1] at h1 h2; rw [e6 a b h1 h2 h3]; exact R.sds a b h1 h2 h3
theorem left_lt {len j : Nat} {seen : List Nat} (hj : j < len) (hs : j ∉ seen) : ((List.range len).filter fun k => decide (k ∉ seen ++ [j])).length < ((List.range len).filter fun k => decide (k ∉ seen)).length := by
  have e : ((List.range len).filter fun k => decide (k ∉ seen ++ [j])) = ((List.range len).filter fun k => decide (k ∉ seen)).filter fun k => decide (k ≠ j) := by
    rw [List.filter_filter]
    congr 1
    funext k
    simp [List.mem_append, and_comm]
  rw [e]
  refine List.length_filter_lt_length_iff_exists.2 ⟨j, ?_, by simp⟩
  simp [hj, hs]
theorem entry_K {it m s0 j : Nat} {seen : List Nat} {es : List (Value × AV)} {k : Value} {v : AV} {H : AHeap} {n : Nat} {K : AV → AHeap → Nat → Prop} (h1 : H it = some (.iter m s0 es.length seen)) (h2 : H m = some (.map es)) (h3 : seen.getLast? = some j) (h4 : es[j]? = some (k, v)) (hk : K (.tup [ofVal k, v]) H n) : stepK (Option.map (fun x => (x, H)) (aEntry (.ptr it 0) H)) n K := by
  have : aEntry (.ptr it 0) H = some (.tup [ofVal k, v]) := by
    simp [aEntry, h1, h2, h3, h4]
  rw [this]; exact hk
theorem crash_spec {w : Wd} {N : Sl → Nat} {V : AV} {h : AHeap} (R : WRep w N V h) (hw : Wok w) (s : Step) (n : Nat) (hown : ∀ k, own w.st N k → k < n) (K0 : AV → AHeap → Nat → Prop)
    (hK0 : ∀ h' n', WTurn w N h n (crashW w s.a).1 h' n' → K0 (iv .i64 (crashW w s.a).2) h' n') : ACalls Try.prog 54 [.ptr (N .p) 0, encStep s] h n K0 := by
  refine ACalls.entry (by kernel_rfl) fun hb _ => calls_of Try.func54 rfl (by kernel_rfl) (by simp [Try.ntmps54]) ?_
  have hp := R.hd
  have hpn : N .p < n := hown _ ⟨.p, trivial, rfl⟩
  have hmn : N .map < n := hown _ ⟨.map, trivial, rfl⟩
  replace hK0 : Hide _ := hK0; replace hown : Hide _ := hown; replace R : Hide _ := R
  have s0 := hw.s0; have s1 := hw.s1
  have y1 := hw.t0; have y2 := hw.t1
  replace hw : Hide _ := hw
  cases hc : within s.a 0 (w.st - 1) with
  | false =>
    have hL : Hide (crashW w s.a = (w, 1)) := by rw [Hide, crashW, if_pos hc]
    repeat' (first | (refine ac_seq_h fun K hK => ?_) | (refine ac_region_h fun K hK => ?_; simp (disch := omega) [go_sem, *, Try.ntmps54 ]) | (refine ac_draw_h mixed (by kernel_rfl) fun K hK => ?_; simp (disch := omega) [go_sem, *, wrap64_id, upd_ne ]) | (apply Hide.out hK; clear hK K; try with_reducible dsimp only [thenA]) | (apply Hide.out ht; clear ht hf Kt Kf) | (apply Hide.out hf; clear ht hf Kt Kf) | (clear hK K; apply Hide.out hK; clear hK K; try with_reducible dsimp only [thenA]) | (clear hK K; clear hK K; apply Hide.out hK; clear hK K; try with_reducible dsimp only [thenA]) | (with_reducible refine APure.call (within_spec _ _ _) ?_; try simp (disch := omega) [go_sem, * ]) | (refine ac_block ?_) | (refine ac_skip ?_; simp only [thenA, blockA]) | (refine ac_exit ?_; simp only [thenA, blockA, if_true, if_false, Nat.reduceEqDiff]) | (with_reducible show nextK _ _ _ _ _ _ _; simp (disch := omega) [go_sem, *, wrap64_id, upd_ne, mk3_true, flatten_replicate_one, stepK_if, ilt_true, ilt_false, ile_true, ile_false, Try.ntmps54 ]) | (refine wantK_split (fun hc => ?_) (fun hc => ?_) <;> (try simp only [Bool.not_eq_true', Bool.not_eq_false', Bool.not_eq_eq_eq_not, Bool.not_true, Bool.not_false, decide_eq_true_eq, decide_eq_false_iff_not, Int.not_lt, Int.not_le] at hc) <;> (try (exfalso; omega)) <;> (try simp (disch := omega) [go_sem, *, wrap64_id, upd_ne, mk3_true, flatten_replicate_one, stepK_if, ilt_true, ilt_false, ile_true, ile_false, Try.ntmps54 ])) | (refine ac_cond_h fun Kt Kf ht hf => ?_; simp (disch := omega) [go_sem, * ]; try (refine ⟨fun hc => ?_, fun hc => ?_⟩ <;> try (exfalso; omega))))
    refine ac_ret ?_
    refine ⟨by simp, _, (by simp (disch := omega) [go_sem] <;> rfl), ?_⟩
    refine ret_id ?_
    have := hK0.out
    rw [hL.out] at this
    refine this _ _ (WTurn.refl R.out hown.out ?_ (fun k hk => ?_))
    · simp only; omega
    · simp (disch := omega) only [upd_ne]
  | true =>
    obtain ⟨c1, c2⟩ := Wl.within_iff.1 hc
    obtain ⟨sk, sa, sb, sn, tx⟩ := s
    simp only at c1 c2 hc
    obtain ⟨a, rfl⟩ : ∃ a : Nat, sa = a := ⟨sa.toNat, by omega⟩
    have ha : a < w.st := by omega
    have hL : Hide (crashW w a = ({ w with tk := fun x y => if x = a then { w.tk x y with known := 0, due := w.tick } else w.tk x y }, 0)) := by
      rw [Hide, crashW, if_neg (by rw [hc]; simp)]; simp
    have hmp := R.out.mp
    obtain ⟨E, hE⟩ : ∃ E, Hide (E = mapEs N w.st) := ⟨_, rfl⟩
    rw [← hE.out] at hmp
    repeat' (first | (refine ac_seq_h fun K hK => ?_) | (refine ac_region_h fun K hK => ?_; simp (disch := omega) [go_sem, *, upd_ne, Try.ntmps54, aRange, mapTys56 ]) | (refine ac_draw_h mixed (by kernel_rfl) fun K hK => ?_; simp (disch := omega) [go_sem, *, wrap64_id, upd_ne ]) | (apply Hide.out hK; clear hK K; try with_reducible dsimp only [thenA]) | (apply Hide.out ht; clear ht hf Kt Kf) | (apply Hide.out hf; clear ht hf Kt Kf) | (clear hK K; apply Hide.out hK; clear hK K; try with_reducible dsimp only [thenA]) | (clear hK K; clear hK K; apply Hide.out hK; clear hK K; try with_reducible dsimp only [thenA]) | (with_reducible refine APure.call (within_spec _ _ _) ?_; try simp (disch := omega) [go_sem, * ]) | (refine ac_block ?_) | (refine ac_skip ?_; simp only [thenA]) | (refine ac_exit ?_; simp only [thenA, blockA, if_true, if_false, Nat.reduceEqDiff]) | (with_reducible show nextK _ _ _ _ _ _ _; simp (disch := omega) [go_sem, *, wrap64_id, upd_ne, mk3_true, flatten_replicate_one, stepK_if, ilt_true, ilt_false, ile_true, ile_false, Try.ntmps54, aRange, mapTys56 ]) | (refine wantK_split (fun hc => ?_) (fun hc => ?_) <;> (try simp only [Bool.not_eq_true', Bool.not_eq_false', Bool.not_eq_eq_eq_not, Bool.not_true, Bool.not_false, decide_eq_true_eq, decide_eq_false_iff_not, Int.not_lt, Int.not_le] at hc) <;> (try (exfalso; omega)) <;> (try simp (disch := omega) [go_sem, *, wrap64_id, upd_ne, mk3_true, flatten_replicate_one, stepK_if, ilt_true, ilt_false, ile_true, ile_false, Try.ntmps54, aRange, mapTys56 ])) | (refine ac_cond_h fun Kt Kf ht hf => ?_; simp (disch := omega) [go_sem, * ]; try (refine ⟨fun hc => ?_, fun hc => ?_⟩ <;> try (exfalso; omega))))
    obtain ⟨it, hit⟩ : ∃ it, Hide (it = n + 2 + 9 + 4) := ⟨_, rfl⟩
    rw [← hit.out]
    have hit1 : n < it := by rw [hit.out]; omega
    have hit2 : it < n + 2 + 9 + 5 := by rw [hit.out]; omega
    have hEl : E = (pairs w.st).map fun ab => (keyV ab.1 ab.2, AV.ptr (N (.nm ab.1 ab.2)) 0) := hE.out
    have hElen : E.length = (pairs w.st).length := by rw [hEl, List.length_map]
    replace hEl : Hide _ := hEl; replace hElen : Hide _ := hElen
    clear hp hmp
    refine ac_loop_wk (fun s' => ∃ (l : List (Nat × Nat)) (seen : List Nat) (H : AHeap) (n1 : Nat), n + 2 + 9 + 5 ≤ n1 ∧ (∀ j, j ∈ seen → ∃ p, p ∈ l ∧ (pairs w.st)[j]? = some p) ∧ WRep (crashS w a l) N V H ∧ H it = some (.iter (N .map) E.length E.length seen) ∧ H n = some (cellsStep ⟨sk, a, sb, sn, tx⟩) ∧ (∀ k, k < n → ¬ own w.st N k → H k = h k) ∧ s' = ⟨41, [(0, .ptr (N .p) 0), (3, .ptr n 0), (20, .ptr it 0)], H, n1⟩) (fun z => match z.h it with | some (.iter _ _ _ seen) => ((List.range E.length).filter fun k => decide (k ∉ seen)).length | _ => 0) ?_ ?_
    · refine loop_start (by simp [go_sem]) (Sub.refl _) ⟨[], [], _, _, by omega, fun j hj => by simp at hj, ?_, by simp (disch := omega) only [upd_same], by simp (disch := omega) only [upd_ne, upd_same], fun k hk hk2 => by simp (disch := omega) only [upd_ne], rfl⟩
      rw [crashS_nil]
      refine R.out.congr fun k hk => ?_
      have := hown.out k hk
      simp (disch := omega) only [upd_ne]
    rintro s' ⟨l, seen, H, n1, l1, hseen, RH, hitH, hbox, hfr, rfl⟩
    have hp1 : H (N .p) = some (.cells [iv .i64 w.st, iv .i64 w.wait, iv .i64 w.tick, iv .i64 w.last, .map (N .map), V]) := RH.hd
    have hmp1 : H (N .map) = some (.map E) := by rw [hE.out]; exact RH.mp
    replace hseen : Hide _ := hseen; replace hfr : Hide _ := hfr; replace RH : Hide _ := RH
    refine ac_seq_h fun K hK => ?_
    refine ac_next_h it (N .map) seen E rfl rfl rfl rfl (by simp [go_sem]) hitH hmp1 (fun hall K3 hK3 => ?_) (fun j k v hj hns K3 hK3 => ?_)
    · replace hall : Hide _ := hall
      simp (disch := omega) [go_sem, *]
      repeat' (first | (refine ac_seq_h fun K hK => ?_) | (refine ac_region_h fun K hK => ?_; simp (disch := omega) [go_sem, *, wrap64_id, upd_ne, mk3_true, flatten_replicate_one, stepK_if, ilt_true, ilt_false, ile_true, ile_false]) | (refine ac_draw_h mixed (by kernel_rfl) fun K hK => ?_; simp (disch := omega) [go_sem, *, wrap64_id, upd_ne, mk3_true, flatten_replicate_one, stepK_if, ilt_true, ilt_false, ile_true, ile_false]) | (apply Hide.out hK; clear hK K; try with_reducible dsimp only [thenA]) | (apply Hide.out ht; clear ht hf Kt Kf) | (apply Hide.out hf; clear ht hf Kt Kf) | (clear hK K; apply Hide.out hK; clear hK K; try with_reducible dsimp only [thenA]) | (clear hK K; clear hK K; apply Hide.out hK; clear hK K; try with_reducible dsimp only [thenA]) | (refine ac_block ?_) | (refine ac_skip ?_; simp only [thenA, blockA]) | (refine ac_exit ?_; simp only [thenA, blockA, if_true, if_false, Nat.reduceEqDiff]) | (with_reducible show nextK _ _ _ _ _ _ _; simp (disch := omega) [go_sem, *, wrap64_id, upd_ne, mk3_true, flatten_replicate_one, stepK_if, ilt_true, ilt_false, ile_true, ile_false]) | (refine wantK_split (fun hc => ?_) (fun hc => ?_) <;> (try simp only [Bool.not_eq_true', Bool.not_eq_false', Bool.not_eq_eq_eq_not, Bool.not_true, Bool.not_false, decide_eq_true_eq, decide_eq_false_iff_not, Int.not_lt, Int.not_le] at hc) <;> (try (exfalso; omega)) <;> (try simp (disch := omega) [go_sem, *, wrap64_id, upd_ne, mk3_true, flatten_replicate_one, stepK_if, ilt_true, ilt_false, ile_true, ile_false])) | (refine ac_cond_h fun Kt Kf ht hf => ?_; simp (disch := omega) [go_sem, *, wrap64_id, upd_ne, mk3_true, flatten_replicate_one, stepK_if, ilt_true, ilt_false, ile_true, ile_false]; try (refine ⟨fun hc => ?_, fun hc => ?_⟩ <;> try (exfalso; omega))))
      refine hK3.out _ ?_
      clear hK3 K3
      dsimp only [thenA]
      refine hK.out _ ?_
      clear hK K
      repeat' (first | (refine ac_seq_h fun K hK => ?_) | (refine ac_region_h fun K hK => ?_; simp (disch := omega) [go_sem, *]) | (refine ac_draw_h mixed (by kernel_rfl) fun K hK => ?_; simp (disch := omega) [go_sem, *, wrap64_id, upd_ne, mk3_true, flatten_replicate_one, stepK_if, ilt_true, ilt_false, ile_true, ile_false]) | (apply Hide.out hK; clear hK K; try with_reducible dsimp only [thenA]) | (apply Hide.out ht; clear ht hf Kt Kf) | (apply Hide.out hf; clear ht hf Kt Kf) | (clear hK K; apply Hide.out hK; clear hK K; try with_reducible dsimp only [thenA]) | (clear hK K; clear hK K; apply Hide.out hK; clear hK K; try with_reducible dsimp only [thenA]) | (refine ac_block ?_) | (refine ac_skip ?_; simp only [thenA, blockA]) | (refine ac_exit ?_; simp only [thenA, blockA, if_true]) | (with_reducible show nextK _ _ _ _ _ _ _; simp (disch := omega) [go_sem, *, wrap64_id, upd_ne, mk3_true, flatten_replicate_one, stepK_if, ilt_true, ilt_false, ile_true, ile_false]) | (refine wantK_split (fun hc => ?_) (fun hc => ?_) <;> (try simp only [Bool.not_eq_true', Bool.not_eq_false', Bool.not_eq_eq_eq_not, Bool.not_true, Bool.not_false, decide_eq_true_eq, decide_eq_false_iff_not, Int.not_lt, Int.not_le] at hc) <;> (try (exfalso; omega)) <;> (try simp (disch := omega) [go_sem, *, wrap64_id, upd_ne, mk3_true, flatten_replicate_one, stepK_if, ilt_true, ilt_false, ile_true, ile_false])) | (refine ac_cond_h fun Kt Kf ht hf => ?_; simp (disch := omega) [go_sem, *]; try (refine ⟨fun hc => ?_, fun hc => ?_⟩ <;> try (exfalso; omega))))
      refine ac_ret ?_
      refine ⟨by simp, _, (by simp (disch := omega) [go_sem] <;> rfl), ?_⟩
      refine ret_id ?_
      have := hK0.out
      rw [hL.out] at this
      refine this _ _ ⟨N, V, ?_, .rfl, fun k hk => ⟨.inl hk, ?_⟩, by simp only; omega, hfr.out⟩
      · refine RH.out.same rfl rfl rfl rfl rfl fun x y hx hy hxy => ?_
        simp only [crashS]
        by_cases e : x = a
        · subst e
          obtain ⟨j, hjl, hj⟩ := List.mem_iff_getElem.1 (mem_pairs.2 ⟨hx, hy, hxy⟩)
          replace hjl : j < (pairs w.st).length := hjl
          replace hj : (pairs w.st)[j] = (x, y) := hj
          obtain ⟨p, hp1, hp2⟩ := hseen.out j (hall.out j (by rw [hElen.out]; exact hjl))
          rw [List.getElem?_eq_getElem hjl, hj] at hp2
          cases hp2
          simp [hp1]
        · simp [e]
      · have := hown.out k hk; simp only; omega
    · replace hns : Hide _ := hns
      obtain ⟨p, hp0, hpe⟩ : ∃ p, (pairs w.st)[j]? = some p ∧ (keyV p.1 p.2, AV.ptr (N (.nm p.1 p.2)) 0) = (k, v) := by
        rw [hEl.out, List.getElem?_map] at hj
        cases hq : (pairs w.st)[j]? with
        | none => rw [hq] at hj; cases hj
        | some p => rw [hq] at hj; exact ⟨p, rfl, by simpa using hj⟩
      obtain ⟨x, y⟩ := p
      cases hpe
      obtain ⟨hx, hy, hxy⟩ := mem_pairs.1 (List.mem_of_getElem? hp0)
      have hjl : j < E.length := by
        rw [hElen.out]; exact (List.getElem?_eq_some_iff.1 hp0).1
      have hmes : Hide (((List.range E.length).filter fun k => decide (k ∉ seen ++ [j])).length < ((List.range E.length).filter fun k => decide (k ∉ seen)).length) := left_lt hjl hns.out
      have hseen2 : Hide (∀ k, k ∈ seen ++ [j] → ∃ p, p ∈ l ++ [(x, y)] ∧ (pairs w.st)[k]? = some p) := fun k hk => by
        rcases List.mem_append.1 hk with hk | hk
        · obtain ⟨p, h1, h2⟩ := hseen.out k hk
          exact ⟨p, by simp [h1], h2⟩
        · rw [List.mem_singleton.1 hk]; exact ⟨(x, y), by simp, hp0⟩
      have okm : Hide ((Sl.nm x y).ok w.st) := ⟨hx, hy, hxy⟩
      have oks : Hide ((Sl.sm x y).ok w.st) := ⟨hx, hy, hxy⟩
      have q1 := hown.out _ ⟨.nm x y, okm.out, rfl⟩
      have hmm := RH.out.tks x y hx hy hxy
      have hss := RH.out.sds x y hx hy hxy
      have i1 : N .p ≠ N (.nm x y) := fun e => by have := RH.out.inj .p (.nm x y) trivial okm.out e; cases this
      obtain ⟨t, hte⟩ : ∃ t, Hide (t = (crashS w a l).tk x y) := ⟨_, rfl⟩
      rw [← hte.out] at hmm hss
      obtain ⟨VV, hVV⟩ : ∃ VV, Hide (VV = acV 1 (N (.sm x y)) (t.said.map sv)) := ⟨_, rfl⟩
      simp only [cellsTalk, ← hVV.out] at hmm
      have hsc : AV.scalar VV = true := by rw [hVV.out, scalar_ac]
      have hce : cellsOf VV = [VV] := by rw [hVV.out, cells_ac0]
      replace hss : Hide _ := hss; replace hj : Hide _ := hj; replace hp0 : Hide _ := hp0
      simp (disch := omega) [go_sem, *]
      repeat' (first | (refine ac_seq_h fun K hK => ?_) | (refine ac_region_h fun K hK => ?_; simp (disch := omega) [go_sem, *, wrap64_id, upd_ne, mk3_true, flatten_replicate_one, stepK_if, ilt_true, ilt_false, ile_true, ile_false]) | (refine ac_draw_h mixed (by kernel_rfl) fun K hK => ?_; simp (disch := omega) [go_sem, *, wrap64_id, upd_ne, mk3_true, flatten_replicate_one, stepK_if, ilt_true, ilt_false, ile_true, ile_false]) | (apply Hide.out hK; clear hK K; try with_reducible dsimp only [thenA]) | (apply Hide.out ht; clear ht hf Kt Kf) | (apply Hide.out hf; clear ht hf Kt Kf) | (clear hK K; apply Hide.out hK; clear hK K; try with_reducible dsimp only [thenA]) | (clear hK K; clear hK K; apply Hide.out hK; clear hK K; try with_reducible dsimp only [thenA]) | (refine ac_block ?_) | (refine ac_skip ?_; simp only [thenA, blockA]) | (refine ac_exit ?_; simp only [thenA, blockA, if_true, if_false, Nat.reduceEqDiff]) | (with_reducible show nextK _ _ _ _ _ _ _; simp (disch := omega) [go_sem, *, wrap64_id, upd_ne, mk3_true, flatten_replicate_one, stepK_if, ilt_true, ilt_false, ile_true, ile_false]) | (refine wantK_split (fun hc => ?_) (fun hc => ?_) <;> (try simp only [Bool.not_eq_true', Bool.not_eq_false', Bool.not_eq_eq_eq_not, Bool.not_true, Bool.not_false, decide_eq_true_eq, decide_eq_false_iff_not, Int.not_lt, Int.not_le] at hc) <;> (try (exfalso; omega)) <;> (try simp (disch := omega) [go_sem, *, wrap64_id, upd_ne, mk3_true, flatten_replicate_one, stepK_if, ilt_true, ilt_false, ile_true, ile_false])) | (refine ac_cond_h fun Kt Kf ht hf => ?_; simp (disch := omega) [go_sem, *, wrap64_id, upd_ne, mk3_true, flatten_replicate_one, stepK_if, ilt_true, ilt_false, ile_true, ile_false]; try (refine ⟨fun hc => ?_, fun hc => ?_⟩ <;> try (exfalso; omega))))
      refine hK3.out _ ?_
      clear hK3 K3
      dsimp only [thenA]
      refine hK.out _ ?_
      clear hK K
      repeat' (first | (refine ac_seq_h fun K hK => ?_) | (refine ac_region_h fun K hK => ?_; simp (disch := omega) [go_sem, *]) | (refine ac_draw_h mixed (by kernel_rfl) fun K hK => ?_; simp (disch := omega) [go_sem, *, wrap64_id, upd_ne, mk3_true, flatten_replicate_one, stepK_if, ilt_true, ilt_false, ile_true, ile_false]) | (apply Hide.out hK; clear hK K; try with_reducible dsimp only [thenA]) | (apply Hide.out ht; clear ht hf Kt Kf) | (apply Hide.out hf; clear ht hf Kt Kf) | (clear hK K; apply Hide.out hK; clear hK K; try with_reducible dsimp only [thenA]) | (clear hK K; clear hK K; apply Hide.out hK; clear hK K; try with_reducible dsimp only [thenA]) | (refine ac_block ?_) | (refine ac_skip ?_; simp only [thenA]) | (refine ac_exit ?_; simp only [thenA, blockA, if_true, if_false, Nat.reduceEqDiff]) | (with_reducible show nextK _ _ _ _ _ _ _; simp (disch := omega) [go_sem, *, wrap64_id, upd_ne, mk3_true, flatten_replicate_one, stepK_if, ilt_true, ilt_false, ile_true, ile_false]) | (refine wantK_split (fun hc => ?_) (fun hc => ?_) <;> (try simp only [Bool.not_eq_true', Bool.not_eq_false', Bool.not_eq_eq_eq_not, Bool.not_true, Bool.not_false, decide_eq_true_eq, decide_eq_false_iff_not, Int.not_lt, Int.not_le] at hc) <;> (try (exfalso; omega)) <;> (try simp (disch := omega) [go_sem, *, wrap64_id, upd_ne, mk3_true, flatten_replicate_one, stepK_if, ilt_true, ilt_false, ile_true, ile_false])) | (refine ac_cond_h fun Kt Kf ht hf => ?_; simp (disch := omega) [go_sem, *]; try (refine ⟨fun hc => ?_, fun hc => ?_⟩ <;> try (exfalso; omega))))
      refine entry_K (m := N .map) (s0 := E.length) (seen := seen ++ [j]) (j := j) (es := E) (k := keyV x y) (v := .ptr (N (.nm x y)) 0) (by simp only [upd_same]) (by simp (disch := omega) only [upd_ne]; exact hmp1) (by simp) hj.out ?_
      dsimp only [keyV, ofVal, ofVals]
      by_cases hxa : x = a
      · subst hxa
        repeat' (first | (refine ac_seq_h fun K hK => ?_) | (refine ac_region_h fun K hK => ?_; simp (disch := omega) [go_sem, *, upd_ne]) | (refine ac_draw_h mixed (by kernel_rfl) fun K hK => ?_; simp (disch := omega) [go_sem, *, wrap64_id, upd_ne, mk3_true, flatten_replicate_one, stepK_if, ilt_true, ilt_false, ile_true, ile_false]) | (apply Hide.out hK; clear hK K; try with_reducible dsimp only [thenA]) | (apply Hide.out ht; clear ht hf Kt Kf) | (apply Hide.out hf; clear ht hf Kt Kf) | (clear hK K; apply Hide.out hK; clear hK K; try with_reducible dsimp only [thenA]) | (clear hK K; clear hK K; apply Hide.out hK; clear hK K; try with_reducible dsimp only [thenA]) | (refine ac_block ?_) | (refine ac_skip ?_; simp only [thenA, blockA]) | (refine ac_exit ?_; simp only [thenA, blockA, if_true, if_false, Nat.reduceEqDiff]) | (with_reducible show nextK _ _ _ _ _ _ _; simp (disch := omega) [go_sem, *]) | (refine wantK_split (fun hc => ?_) (fun hc => ?_) <;> (try simp only [Bool.not_eq_true', Bool.not_eq_false', Bool.not_eq_eq_eq_not, Bool.not_true, Bool.not_false, decide_eq_true_eq, decide_eq_false_iff_not, Int.not_lt, Int.not_le] at hc) <;> (try (exfalso; omega)) <;> (try simp (disch := omega) [go_sem, *, wrap64_id, upd_ne, mk3_true, flatten_replicate_one, stepK_if, ilt_true, ilt_false, ile_true, ile_false])) | (refine ac_cond_h fun Kt Kf ht hf => ?_; simp (disch := omega) [go_sem, *]; try (refine ⟨fun hc => ?_, fun hc => ?_⟩ <;> try (exfalso; omega))))
        dsimp only [blockA, thenA]
        refine round_end (by simp [go_sem]) (Sub.refl _) ⟨l ++ [(x, y)], seen ++ [j], _, _, ?_, hseen2.out, ?_, ?_, ?_, fun k hk hk2 => ?_, rfl⟩ ?_
        · omega
        · rw [crashS_at, ← hte.out]
          have h1 := WRep.setT (h' := ((((H.upd it (some (.iter (N .map) E.length E.length (seen ++ [j])))).upd (n1 + 2 + 3) (some (.cells [iv .i64 0, iv .i64 0]))).upd (n1 + 2 + 3) (some (.cells [iv .i64 x, iv .i64 y]))).upd (N (.nm x y)) (some (.cells [VV, iv .i64 t.heard, iv .i64 0, iv .i64 t.due]))).upd (N (.nm x y)) (some (.cells [VV, iv .i64 t.heard, iv .i64 0, iv .i64 w.tick]))) (t := ⟨t.said, t.heard, 0, w.tick⟩) (m := N (.sm x y)) RH.out hx hy hxy ?_ ?_ (fun z hz z1 z2 => ?_) (.inl rfl)
          · rw [setsm_id] at h1
            exact h1
          · rw [upd_same, hVV.out]
          · have j1 : N (.sm x y) ≠ N (.nm x y) := fun e => by have := RH.out.inj (.sm x y) (.nm x y) oks.out okm.out e; cases this
            have j2 := hown.out _ ⟨.sm x y, oks.out, rfl⟩
            simp (disch := omega) only [upd_ne]
            exact hss.out
          · have j1 : N z ≠ N (.nm x y) := fun e => z1 (RH.out.inj z (.nm x y) hz okm.out e)
            have j2 := hown.out _ ⟨z, hz, rfl⟩
            simp (disch := omega) only [upd_ne]
        · simp (disch := omega) only [upd_ne, upd_same]
        · simp (disch := omega) only [upd_ne]; exact hbox
        · have j1 : k ≠ N (.nm x y) := fun e => hk2 ⟨.nm x y, okm.out, e.symm⟩
          simp (disch := omega) only [upd_ne]
          exact hfr.out k hk hk2
        · simp (disch := omega) only [upd_ne, upd_same, hitH]
          exact hmes.out
      · have hxa2 : ((x : Int) == (a : Int)) = false := by simp; omega
        repeat' (first | (refine ac_seq_h fun K hK => ?_) | (refine ac_region_h fun K hK => ?_; simp (disch := omega) [go_sem, *, upd_ne]) | (refine ac_draw_h mixed (by kernel_rfl) fun K hK => ?_; simp (disch := omega) [go_sem, *, wrap64_id, upd_ne, mk3_true, flatten_replicate_one, stepK_if, ilt_true, ilt_false, ile_true, ile_false]) | (apply Hide.out hK; clear hK K; try with_reducible dsimp only [thenA]) | (apply Hide.out ht; clear ht hf Kt Kf) | (apply Hide.out hf; clear ht hf Kt Kf) | (clear hK K; apply Hide.out hK; clear hK K; try with_reducible dsimp only [thenA]) | (clear hK K; clear hK K; apply Hide.out hK; clear hK K; try with_reducible dsimp only [thenA]) | (refine ac_block ?_) | (refine ac_skip ?_; simp only [thenA, blockA]) | (refine ac_exit ?_; simp only [thenA, blockA, if_true, if_false, Nat.reduceEqDiff]) | (with_reducible show nextK _ _ _ _ _ _ _; simp (disch := omega) [go_sem, *]) | (refine wantK_split (fun hc => ?_) (fun hc => ?_) <;> (try simp only [Bool.not_eq_true', Bool.not_eq_false', Bool.not_eq_eq_eq_not, Bool.not_true, Bool.not_false, decide_eq_true_eq, decide_eq_false_iff_not, Int.not_lt, Int.not_le] at hc) <;> (try (exfalso; omega)) <;> (try simp (disch := omega) [go_sem, *, wrap64_id, upd_ne, mk3_true, flatten_replicate_one, stepK_if, ilt_true, ilt_false, ile_true, ile_false])) | (refine ac_cond_h fun Kt Kf ht hf => ?_; simp (disch := omega) [go_sem, *]; try (refine ⟨fun hc => ?_, fun hc => ?_⟩ <;> try (exfalso; omega))))
        refine round_end (by simp [go_sem]) (Sub.refl _) ⟨l ++ [(x, y)], seen ++ [j], _, _, ?_, hseen2.out, ?_, ?_, ?_, fun k hk hk2 => ?_, rfl⟩ ?_
        · omega
        · rw [crashS_other _ _ hxa]
          refine RH.out.congr fun k hk => ?_
          have := hown.out k hk
          simp (disch := omega) only [upd_ne]
        · simp (disch := omega) only [upd_ne, upd_same]
        · simp (disch := omega) only [upd_ne]; exact hbox
        · simp (disch := omega) only [upd_ne]
          exact hfr.out k hk hk2
        · simp (disch := omega) only [upd_ne, upd_same, hitH]
          exact hmes.out
end Go.AM
