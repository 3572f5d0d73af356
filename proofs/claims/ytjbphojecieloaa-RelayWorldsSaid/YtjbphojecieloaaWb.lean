/- Walks: lose, double, say, deliver. Conditions: as each theorem says. -/
import Derived.Test.YtjbphojecieloaaWa
namespace Go.AM
open Go.Proofs Wl
set_option maxRecDepth 10000
set_option maxHeartbeats 4000000
theorem FixN.trans {N N1 N2 : Sl → Nat} (h : FixN N2 N1) (h' : FixN N1 N) : FixN N2 N := ⟨h.1.trans h'.1, h.2.1.trans h'.2.1, fun a b => (h.2.2 a b).trans (h'.2.2 a b)⟩
theorem WTurn.trans {w w1 w2 : Wd} {N N1 : Sl → Nat} {h h1 h2 : AHeap} {n n1 n2 : Nat} (hp : FixN N1 N) (ho : ∀ k, own w1.st N1 k → own w.st N k ∨ n ≤ k) (hn : n ≤ n1) (hf : ∀ k, k < n → ¬ own w.st N k → h1 k = h k) (T : WTurn w1 N1 h1 n1 w2 h2 n2) : WTurn w N h n w2 h2 n2 := by
  obtain ⟨N2, V2, R2, p2, o2, l2, f2⟩ := T
  refine ⟨N2, V2, R2, p2.trans hp, fun k hk => ?_, by omega, fun k hk hk2 => ?_⟩
  · obtain ⟨h3, h4⟩ := o2 k hk
    refine ⟨?_, h4⟩
    rcases h3 with h3 | h3
    · exact ho k h3
    · exact .inr (by omega)
  · rw [f2 k (by omega) (fun h3 => (ho k h3).elim hk2 (by omega)), hf k hk hk2]
/-- a world's turn, in a frame that made new things ahead and behind -/
theorem WTurn.wrap {w w2 : Wd} {N : Sl → Nat} {h h1 h2 h3 : AHeap} {n n1 n2 n3 : Nat} (hn : n ≤ n1) (hf : ∀ k, k < n → h1 k = h k) (T : WTurn w N h1 n1 w2 h2 n2) (hown : ∀ k, own w.st N k → k < n) (hn3 : n2 ≤ n3) (hf3 : ∀ k, k < n2 → (k < n ∨ n1 ≤ k) → h3 k = h2 k) : WTurn w N h n w2 h3 n3 := by
  obtain ⟨N2, V2, R2, p2, o2, l2, f2⟩ := T
  refine ⟨N2, V2, R2.congr fun k hk => hf3 k (o2 k hk).2 ((o2 k hk).1.elim (fun h => .inl (hown k h)) .inr), p2, fun k hk => ?_, by omega, fun k hk hk2 => ?_⟩
  · obtain ⟨h3, h4⟩ := o2 k hk
    refine ⟨?_, by omega⟩
    rcases h3 with h3 | h3
    · exact .inl h3
    · exact .inr (by omega)
  · rw [hf3 k (by omega) (.inl hk), f2 k (by omega) hk2, hf k hk]
theorem WTurn.refl {w : Wd} {N : Sl → Nat} {V : AV} {h h1 : AHeap} {n n1 : Nat} (R : WRep w N V h) (hown : ∀ k, own w.st N k → k < n) (hn : n ≤ n1) (hf : ∀ k, k < n → h1 k = h k) : WTurn w N h n w h1 n1 :=
  ⟨N, V, R.congr fun k hk => hf k (hown k hk), .rfl, fun k hk => ⟨.inl hk, by have := hown k hk; omega⟩, hn, fun k hk _ => hf k hk⟩
theorem WTurn.le {w w2 : Wd} {N : Sl → Nat} {h h2 : AHeap} {n n2 : Nat} (T : WTurn w N h n w2 h2 n2) : n ≤ n2 := by obtain ⟨_, _, _, _, _, l, _⟩ := T; exact l
theorem lose_spec {w : Wd} {N : Sl → Nat} {V : AV} {h : AHeap} (R : WRep w N V h) (hl : w.mails.length ≤ 200) (s : Step) (n : Nat) (hown : ∀ k, own w.st N k → k < n) (K0 : AV → AHeap → Nat → Prop)
    (hK0 : ∀ h' n', WTurn w N h n (loseW w s.n).1 h' n' → K0 (iv .i64 (loseW w s.n).2) h' n') : ACalls Try.prog 52 [.ptr (N .p) 0, encStep s] h n K0 := by
  refine ACalls.entry (by kernel_rfl) fun hb _ => calls_of Try.func52 rfl (by kernel_rfl) (by simp [Try.ntmps52]) ?_
  have hR1 : Hide (WRep w N V (h.upd n (some (cellsStep s)))) := R.congr fun k hk => by have := hown k hk; rw [upd_ne _ _ _ _ (by omega)]
  have hown1 : Hide (∀ k, own w.st N k → k < n + 1) := fun k hk => by have := hown k hk; omega
  replace hK0 : Hide _ := hK0; replace hown : Hide _ := hown; replace R : Hide _ := R
  repeat' (first | (refine ac_seq_h fun K hK => ?_) | (refine ac_region_h fun K hK => ?_; simp (disch := omega) [go_sem, *, Try.ntmps52]) | (refine ac_draw_h mixed (by kernel_rfl) fun K hK => ?_; simp (disch := omega) [go_sem, *, wrap64_id, upd_ne, mk3_true, flatten_replicate_one, stepK_if, ilt_true, ilt_false, ile_true, ile_false, Try.ntmps52]) | (apply Hide.out hK; clear hK K; try with_reducible dsimp only [thenA]) | (apply Hide.out ht; clear ht hf Kt Kf) | (apply Hide.out hf; clear ht hf Kt Kf) | (clear hK K; apply Hide.out hK; clear hK K; try with_reducible dsimp only [thenA]) | (clear hK K; clear hK K; apply Hide.out hK; clear hK K; try with_reducible dsimp only [thenA]) | (refine ac_block ?_) | (refine ac_skip ?_; simp only [thenA, blockA]) | (refine ac_exit ?_; simp only [thenA, blockA, if_true, if_false, Nat.reduceEqDiff]) | (with_reducible show nextK _ _ _ _ _ _ _; simp (disch := omega) [go_sem, *, wrap64_id, upd_ne, mk3_true, flatten_replicate_one, stepK_if, ilt_true, ilt_false, ile_true, ile_false, Try.ntmps52]) | (refine wantK_split (fun hc => ?_) (fun hc => ?_) <;> (try simp only [Bool.not_eq_true', Bool.not_eq_false', Bool.not_eq_eq_eq_not, Bool.not_true, Bool.not_false, decide_eq_true_eq, decide_eq_false_iff_not, Int.not_lt, Int.not_le] at hc) <;> (try (exfalso; omega)) <;> (try simp (disch := omega) [go_sem, *, wrap64_id, upd_ne, mk3_true, flatten_replicate_one, stepK_if, ilt_true, ilt_false, ile_true, ile_false, Try.ntmps52])) | (refine ac_cond_h fun Kt Kf ht hf => ?_; simp (disch := omega) [go_sem, *, wrap64_id, upd_ne, mk3_true, flatten_replicate_one, stepK_if, ilt_true, ilt_false, ile_true, ile_false, Try.ntmps52]; try (refine ⟨fun hc => ?_, fun hc => ?_⟩ <;> try (exfalso; omega))))
  refine take_spec (hR1.out.congr fun k hk => ?_) hl s.n _ (fun k hk => ?_) _ (fun hn0 h' n' T => ?_) (fun i m hi hm h' n' T => ?_)
  · rfl
  · have := hown.out k hk; omega
  · have hl1 := T.le
    have hL : Hide (loseW w s.n = (w, 5)) := by rw [Hide, loseW, hn0]
    replace T : Hide _ := T
    repeat' (first | (refine ac_seq_h fun K hK => ?_) | (refine ac_region_h fun K hK => ?_; simp (disch := omega) [go_sem, *]) | (refine ac_draw_h mixed (by kernel_rfl) fun K hK => ?_; simp (disch := omega) [go_sem, *, wrap64_id, upd_ne, mk3_true, flatten_replicate_one, stepK_if, ilt_true, ilt_false, ile_true, ile_false, Try.ntmps52]) | (apply Hide.out hK; clear hK K; try with_reducible dsimp only [thenA]) | (apply Hide.out ht; clear ht hf Kt Kf) | (apply Hide.out hf; clear ht hf Kt Kf) | (clear hK K; apply Hide.out hK; clear hK K; try with_reducible dsimp only [thenA]) | (clear hK K; clear hK K; apply Hide.out hK; clear hK K; try with_reducible dsimp only [thenA]) | (refine ac_block ?_) | (refine ac_skip ?_; simp only [thenA, blockA]) | (refine ac_exit ?_; simp only [thenA, blockA, if_true, if_false, Nat.reduceEqDiff]) | (with_reducible show nextK _ _ _ _ _ _ _; simp (disch := omega) [go_sem, *]) | (refine wantK_split (fun hc => ?_) (fun hc => ?_) <;> (try simp only [Bool.not_eq_true', Bool.not_eq_false', Bool.not_eq_eq_eq_not, Bool.not_true, Bool.not_false, decide_eq_true_eq, decide_eq_false_iff_not, Int.not_lt, Int.not_le] at hc) <;> (try (exfalso; omega)) <;> (try simp (disch := omega) [go_sem, *, wrap64_id, upd_ne, mk3_true, flatten_replicate_one, stepK_if, ilt_true, ilt_false, ile_true, ile_false, Try.ntmps52])) | (refine ac_cond_h fun Kt Kf ht hf => ?_; simp (disch := omega) [go_sem, *]; try (refine ⟨fun hc => ?_, fun hc => ?_⟩ <;> try (exfalso; omega))))
    refine ac_ret ?_
    refine ⟨by simp, _, (by simp (disch := omega) [go_sem] <;> rfl), ?_⟩
    refine ret_id ?_
    have := hK0.out
    rw [hL.out] at this
    refine this _ _ (WTurn.wrap (by omega) (fun k hk => ?_) T.out hown.out ?_ (fun k hk hk2 => ?_))
    · rw [upd_ne _ _ _ _ (by omega)]
    · simp only; omega
    · simp (disch := omega) only [upd_ne]
  · have hl1 := T.le
    have hL : Hide (loseW w s.n = ({ w with mails := w.mails.eraseIdx i }, 0)) := by rw [Hide, loseW, hi]
    replace T : Hide _ := T; replace hi : Hide _ := hi; replace hm : Hide _ := hm
    repeat' (first | (refine ac_seq_h fun K hK => ?_) | (refine ac_region_h fun K hK => ?_; simp (disch := omega) [go_sem, *]) | (refine ac_draw_h mixed (by kernel_rfl) fun K hK => ?_; simp (disch := omega) [go_sem, *, wrap64_id, upd_ne, mk3_true, flatten_replicate_one, stepK_if, ilt_true, ilt_false, ile_true, ile_false, Try.ntmps52]) | (apply Hide.out hK; clear hK K; try with_reducible dsimp only [thenA]) | (apply Hide.out ht; clear ht hf Kt Kf) | (apply Hide.out hf; clear ht hf Kt Kf) | (clear hK K; apply Hide.out hK; clear hK K; try with_reducible dsimp only [thenA]) | (clear hK K; clear hK K; apply Hide.out hK; clear hK K; try with_reducible dsimp only [thenA]) | (refine ac_block ?_) | (refine ac_skip ?_; simp only [thenA]) | (refine ac_exit ?_; simp only [thenA, blockA, if_true, if_false, Nat.reduceEqDiff]) | (with_reducible show nextK _ _ _ _ _ _ _; simp (disch := omega) [go_sem, *]) | (refine wantK_split (fun hc => ?_) (fun hc => ?_) <;> (try simp only [Bool.not_eq_true', Bool.not_eq_false', Bool.not_eq_eq_eq_not, Bool.not_true, Bool.not_false, decide_eq_true_eq, decide_eq_false_iff_not, Int.not_lt, Int.not_le] at hc) <;> (try (exfalso; omega)) <;> (try simp (disch := omega) [go_sem, *, wrap64_id, upd_ne, mk3_true, flatten_replicate_one, stepK_if, ilt_true, ilt_false, ile_true, ile_false, Try.ntmps52])) | (refine ac_cond_h fun Kt Kf ht hf => ?_; simp (disch := omega) [go_sem, *]; try (refine ⟨fun hc => ?_, fun hc => ?_⟩ <;> try (exfalso; omega))))
    refine ac_ret ?_
    refine ⟨by simp, _, (by simp (disch := omega) [go_sem] <;> rfl), ?_⟩
    refine ret_id ?_
    have := hK0.out
    rw [hL.out] at this
    refine this _ _ (WTurn.wrap (by omega) (fun k hk => ?_) T.out hown.out ?_ (fun k hk hk2 => ?_))
    · rw [upd_ne _ _ _ _ (by omega)]
    · simp only; omega
    · simp (disch := omega) only [upd_ne]
theorem double_spec {w : Wd} {N : Sl → Nat} {V : AV} {h : AHeap} (R : WRep w N V h) (hl : w.mails.length ≤ 200) (hk0 : 0 ≤ w.last) (hk1 : w.last ≤ 1000000000000) (s : Step) (n : Nat) (hown : ∀ k, own w.st N k → k < n) (K0 : AV → AHeap → Nat → Prop)
    (hK0 : ∀ h' n', WTurn w N h n (doubleW w s.n).1 h' n' → K0 (iv .i64 (doubleW w s.n).2) h' n') : ACalls Try.prog 53 [.ptr (N .p) 0, encStep s] h n K0 := by
  refine ACalls.entry (by kernel_rfl) fun hb _ => calls_of Try.func53 rfl (by kernel_rfl) (by simp [Try.ntmps53]) ?_
  have hp := R.hd
  have hpn : N .p < n := hown _ ⟨.p, trivial, rfl⟩
  have hqn : N .q < n := hown _ ⟨.q, trivial, rfl⟩
  have hidx := fun H b (hV : MailsAt (N .q) w.mails V H) (hbb : H n = some (cellsStep s)) => index_at hV (by omega) (fun m => m.id == s.n) 62 [.ptr n 0] (fun m n' => clo_double m s hbb n') b
  have hR1 : Hide (∀ H : AHeap, (∀ k, k < n → H k = h k) → WRep w N V H) := fun H hH => R.congr fun k hk => hH k (hown k hk)
  have hmq : Hide (MailsAt (N .q) w.mails V h) := R.ml
  replace hK0 : Hide _ := hK0; replace hown : Hide _ := hown; replace hidx : Hide _ := hidx; replace R : Hide _ := R
  repeat' (first | (refine ac_seq_h fun K hK => ?_) | (refine ac_region_h fun K hK => ?_; simp (disch := omega) [go_sem, *, upd_ne, Try.ntmps53]) | (refine ac_draw_h mixed (by kernel_rfl) fun K hK => ?_; simp (disch := omega) [go_sem, *, wrap64_id, upd_ne, mk3_true, flatten_replicate_one, stepK_if, ilt_true, ilt_false, ile_true, ile_false, Try.ntmps53]) | (apply Hide.out hK; clear hK K; try with_reducible dsimp only [thenA]) | (apply Hide.out ht; clear ht hf Kt Kf) | (apply Hide.out hf; clear ht hf Kt Kf) | (clear hK K; apply Hide.out hK; clear hK K; try with_reducible dsimp only [thenA]) | (clear hK K; clear hK K; apply Hide.out hK; clear hK K; try with_reducible dsimp only [thenA]) | (refine ac_block ?_) | (refine ac_skip ?_; simp only [thenA, blockA]) | (refine ac_exit ?_; simp only [thenA, blockA, if_true, if_false, Nat.reduceEqDiff]) | (with_reducible show nextK _ _ _ _ _ _ _; simp (disch := omega) [go_sem, *, wrap64_id, upd_ne, mk3_true, flatten_replicate_one, stepK_if, ilt_true, ilt_false, ile_true, ile_false, Try.ntmps53]) | (refine wantK_split (fun hc => ?_) (fun hc => ?_) <;> (try simp only [Bool.not_eq_true', Bool.not_eq_false', Bool.not_eq_eq_eq_not, Bool.not_true, Bool.not_false, decide_eq_true_eq, decide_eq_false_iff_not, Int.not_lt, Int.not_le] at hc) <;> (try (exfalso; omega)) <;> (try simp (disch := omega) [go_sem, *, wrap64_id, upd_ne, mk3_true, flatten_replicate_one, stepK_if, ilt_true, ilt_false, ile_true, ile_false, Try.ntmps53])) | (refine ac_cond_h fun Kt Kf ht hf => ?_; simp (disch := omega) [go_sem, *, wrap64_id, upd_ne, mk3_true, flatten_replicate_one, stepK_if, ilt_true, ilt_false, ile_true, ile_false, Try.ntmps53]; try (refine ⟨fun hc => ?_, fun hc => ?_⟩ <;> try (exfalso; omega))))
  refine APureAt.call (hidx.out _ _ (MailsAt.congr hmq.out (by simp (disch := omega) only [upd_ne])) (by simp (disch := omega) only [upd_same])) ?_
  rw [idxI_find]
  cases hf : findM w s.n with
  | none =>
    simp only
    have hL : Hide (doubleW w s.n = (w, 5)) := by rw [Hide, doubleW, hf]
    replace hf : Hide _ := hf
    repeat' (first | (refine ac_seq_h fun K hK => ?_) | (refine ac_region_h fun K hK => ?_; simp (disch := omega) [go_sem, *, ilt_true]) | (refine ac_draw_h mixed (by kernel_rfl) fun K hK => ?_; simp (disch := omega) [go_sem, *, wrap64_id, upd_ne, mk3_true, flatten_replicate_one, stepK_if, ilt_true, ilt_false, ile_true, ile_false, Try.ntmps53]) | (apply Hide.out hK; clear hK K; try with_reducible dsimp only [thenA]) | (apply Hide.out ht; clear ht hf Kt Kf) | (apply Hide.out hf; clear ht hf Kt Kf) | (clear hK K; apply Hide.out hK; clear hK K; try with_reducible dsimp only [thenA]) | (clear hK K; clear hK K; apply Hide.out hK; clear hK K; try with_reducible dsimp only [thenA]) | (refine ac_block ?_) | (refine ac_skip ?_; simp only [thenA, blockA]) | (refine ac_exit ?_; simp only [thenA, blockA, if_true, if_false, Nat.reduceEqDiff]) | (with_reducible show nextK _ _ _ _ _ _ _; simp (disch := omega) [go_sem, *]) | (refine wantK_split (fun hc => ?_) (fun hc => ?_) <;> (try simp only [Bool.not_eq_true', Bool.not_eq_false', Bool.not_eq_eq_eq_not, Bool.not_true, Bool.not_false, decide_eq_true_eq, decide_eq_false_iff_not, Int.not_lt, Int.not_le] at hc) <;> (try (exfalso; omega)) <;> (try simp (disch := omega) [go_sem, *, wrap64_id, upd_ne, mk3_true, flatten_replicate_one, stepK_if, ilt_true, ilt_false, ile_true, ile_false, Try.ntmps53])) | (refine ac_cond_h fun Kt Kf ht hf => ?_; simp (disch := omega) [go_sem, *]; try (refine ⟨fun hc => ?_, fun hc => ?_⟩ <;> try (exfalso; omega))))
    refine ac_ret ?_
    refine ⟨by simp, _, (by simp (disch := omega) [go_sem] <;> rfl), ?_⟩
    refine ret_id ?_
    have := hK0.out
    rw [hL.out] at this
    refine this _ _ (WTurn.refl R.out hown.out ?_ (fun k hk => ?_))
    · simp only; omega
    · simp (disch := omega) only [upd_ne]
  | some i =>
    simp only
    have hi := find_lt hf
    obtain ⟨m, hm1, hm2, _⟩ := at_k hi
    have hD : Hide (doubleW w s.n = if room w = 0 then (w, 2) else (putW w [m], 0)) := by
      rw [Hide, doubleW, hf]; simp only [hm2]
    rcases hmq.out with ⟨_, e2, _⟩ | ⟨x, rfl, e2, e3⟩
    · rw [e2] at hi; simp at hi
    obtain ⟨C, hC⟩ : ∃ C, Hide (C = flat (w.mails.map encMail) ++ x) := ⟨_, rfl⟩
    have e2' := e2
    rw [← hC.out] at e2
    have hCl : C.length = w.mails.length * 6 + x.length := by rw [hC.out, List.length_append, mails_len]
    have hC6 : 6 ≤ C.length - i * 6 := by omega
    have hT : List.take 6 (List.drop (i * 6) C) = [iv .i64 m.id, iv .i64 m.kind, iv .i64 m.fr, iv .i64 m.to, iv .i64 m.num, sv m.text] := by
      rw [hC.out, drop_mail x hm2]; rfl
    have hrm := fun H (hH : ∀ k, k < n → H k = h k) b => room_at (hR1.out H hH) hl b
    replace hrm : Hide _ := hrm
    replace e2' : Hide _ := e2'
    replace hCl : Hide _ := hCl; replace hf : Hide _ := hf
    repeat' (first | (refine ac_seq_h fun K hK => ?_) | (refine ac_region_h fun K hK => ?_; simp (disch := omega) [go_sem, *, ilt_false]) | (refine ac_draw_h mixed (by kernel_rfl) fun K hK => ?_; simp (disch := omega) [go_sem, *, wrap64_id, upd_ne, mk3_true, flatten_replicate_one, stepK_if, ilt_true, ilt_false, ile_true, ile_false, Try.ntmps53]) | (apply Hide.out hK; clear hK K; try with_reducible dsimp only [thenA]) | (apply Hide.out ht; clear ht hf Kt Kf) | (apply Hide.out hf; clear ht hf Kt Kf) | (clear hK K; apply Hide.out hK; clear hK K; try with_reducible dsimp only [thenA]) | (clear hK K; clear hK K; apply Hide.out hK; clear hK K; try with_reducible dsimp only [thenA]) | (refine ac_block ?_) | (refine ac_skip ?_; simp only [thenA, blockA]) | (refine ac_exit ?_; simp only [thenA, blockA, if_true, if_false, Nat.reduceEqDiff]) | (with_reducible show nextK _ _ _ _ _ _ _; simp (disch := omega) [go_sem, *]) | (refine wantK_split (fun hc => ?_) (fun hc => ?_) <;> (try simp only [Bool.not_eq_true', Bool.not_eq_false', Bool.not_eq_eq_eq_not, Bool.not_true, Bool.not_false, decide_eq_true_eq, decide_eq_false_iff_not, Int.not_lt, Int.not_le] at hc) <;> (try (exfalso; omega)) <;> (try simp (disch := omega) [go_sem, *, wrap64_id, upd_ne, mk3_true, flatten_replicate_one, stepK_if, ilt_true, ilt_false, ile_true, ile_false, Try.ntmps53])) | (refine ac_cond_h fun Kt Kf ht hf => ?_; simp (disch := omega) [go_sem, *]; try (refine ⟨fun hc => ?_, fun hc => ?_⟩ <;> try (exfalso; omega))))
    refine APureAt.call (hrm.out _ (fun k hk => by simp (disch := omega) only [upd_ne]) _) ?_
    have hr2 : (room w : Int) ≤ 1000000 := by simp only [room]; omega
    obtain ⟨r, hr⟩ : ∃ r, Hide (r = room w) := ⟨_, rfl⟩
    rw [← hr.out] at hr2 ⊢
    rw [← hr.out] at hD
    by_cases hr0 : r = 0
    · rw [if_pos hr0] at hD
      repeat' (first | (refine ac_seq_h fun K hK => ?_) | (refine ac_region_h fun K hK => ?_; simp (disch := omega) [go_sem, *]) | (refine ac_draw_h mixed (by kernel_rfl) fun K hK => ?_; simp (disch := omega) [go_sem, *, wrap64_id, upd_ne, mk3_true, flatten_replicate_one, stepK_if, ilt_true, ilt_false, ile_true, ile_false, Try.ntmps53]) | (apply Hide.out hK; clear hK K; try with_reducible dsimp only [thenA]) | (apply Hide.out ht; clear ht hf Kt Kf) | (apply Hide.out hf; clear ht hf Kt Kf) | (clear hK K; apply Hide.out hK; clear hK K; try with_reducible dsimp only [thenA]) | (clear hK K; clear hK K; apply Hide.out hK; clear hK K; try with_reducible dsimp only [thenA]) | (refine ac_block ?_) | (refine ac_skip ?_; simp only [thenA, blockA]) | (refine ac_exit ?_; simp only [thenA, blockA, if_true, if_false, Nat.reduceEqDiff]) | (with_reducible show nextK _ _ _ _ _ _ _; simp (disch := omega) [go_sem, *]) | (refine wantK_split (fun hc => ?_) (fun hc => ?_) <;> (try simp only [Bool.not_eq_true', Bool.not_eq_false', Bool.not_eq_eq_eq_not, Bool.not_true, Bool.not_false, decide_eq_true_eq, decide_eq_false_iff_not, Int.not_lt, Int.not_le] at hc) <;> (try (exfalso; omega)) <;> (try simp (disch := omega) [go_sem, *, wrap64_id, upd_ne, mk3_true, flatten_replicate_one, stepK_if, ilt_true, ilt_false, ile_true, ile_false, Try.ntmps53])) | (refine ac_cond_h fun Kt Kf ht hf => ?_; simp (disch := omega) [go_sem, *]; try (refine ⟨fun hc => ?_, fun hc => ?_⟩ <;> try (exfalso; omega))))
      refine ac_ret ?_
      refine ⟨by simp, _, (by simp (disch := omega) [go_sem] <;> rfl), ?_⟩
      refine ret_id ?_
      have := hK0.out
      rw [hD.out] at this
      refine this _ _ (WTurn.refl R.out hown.out ?_ (fun k hk => ?_))
      · simp only; omega
      · simp (disch := omega) only [upd_ne]
    · rw [if_neg hr0] at hD
      repeat' (first | (refine ac_seq_h fun K hK => ?_) | (refine ac_region_h fun K hK => ?_; simp (disch := omega) [go_sem, *, upd_ne, ilt_true, ile_true]) | (refine ac_draw_h mixed (by kernel_rfl) fun K hK => ?_; simp (disch := omega) [go_sem, *, wrap64_id, upd_ne, mk3_true, flatten_replicate_one, stepK_if, ilt_true, ilt_false, ile_true, ile_false, Try.ntmps53]) | (apply Hide.out hK; clear hK K; try with_reducible dsimp only [thenA]) | (apply Hide.out ht; clear ht hf Kt Kf) | (apply Hide.out hf; clear ht hf Kt Kf) | (clear hK K; apply Hide.out hK; clear hK K; try with_reducible dsimp only [thenA]) | (clear hK K; clear hK K; apply Hide.out hK; clear hK K; try with_reducible dsimp only [thenA]) | (refine ac_block ?_) | (refine ac_skip ?_; simp only [thenA, blockA]) | (refine ac_exit ?_; simp only [thenA, blockA, if_true, if_false, Nat.reduceEqDiff]) | (with_reducible show nextK _ _ _ _ _ _ _; simp (disch := omega) [go_sem, *]) | (refine wantK_split (fun hc => ?_) (fun hc => ?_) <;> (try simp only [Bool.not_eq_true', Bool.not_eq_false', Bool.not_eq_eq_eq_not, Bool.not_true, Bool.not_false, decide_eq_true_eq, decide_eq_false_iff_not, Int.not_lt, Int.not_le] at hc) <;> (try (exfalso; omega)) <;> (try simp (disch := omega) [go_sem, *, wrap64_id, upd_ne, mk3_true, flatten_replicate_one, stepK_if, ilt_true, ilt_false, ile_true, ile_false, Try.ntmps53])) | (refine ac_cond_h fun Kt Kf ht hf => ?_; simp (disch := omega) [go_sem, *]; try (refine ⟨fun hc => ?_, fun hc => ?_⟩ <;> try (exfalso; omega))))
      refine put_spec (hR1.out _ fun k hk => ?_) hl hk0 hk1 [m] (by simp) _ _ 6 (fun _ => rfl) _ (fun k hk => ?_) _ (fun h' n' T => ?_)
      · simp (disch := omega) only [upd_ne]
      · have := hown.out k hk; omega
      have hl1 := T.le
      replace T : Hide _ := T
      repeat' (first | (refine ac_seq_h fun K hK => ?_) | (refine ac_region_h fun K hK => ?_; simp (disch := omega) [go_sem, *]) | (refine ac_draw_h mixed (by kernel_rfl) fun K hK => ?_; simp (disch := omega) [go_sem, *, wrap64_id, upd_ne, mk3_true, flatten_replicate_one, stepK_if, ilt_true, ilt_false, ile_true, ile_false, Try.ntmps53]) | (apply Hide.out hK; clear hK K; try with_reducible dsimp only [thenA]) | (apply Hide.out ht; clear ht hf Kt Kf) | (apply Hide.out hf; clear ht hf Kt Kf) | (clear hK K; apply Hide.out hK; clear hK K; try with_reducible dsimp only [thenA]) | (clear hK K; clear hK K; apply Hide.out hK; clear hK K; try with_reducible dsimp only [thenA]) | (refine ac_block ?_) | (refine ac_skip ?_; simp only [thenA, blockA]) | (refine ac_exit ?_; simp only [thenA, blockA, if_true, if_false, Nat.reduceEqDiff]) | (with_reducible show nextK _ _ _ _ _ _ _; simp (disch := omega) [go_sem, *, wrap64_id, upd_ne, mk3_true, flatten_replicate_one, stepK_if, ilt_true, ilt_false, ile_true, ile_false, Try.ntmps53]) | (refine wantK_split (fun hc => ?_) (fun hc => ?_) <;> (try simp only [Bool.not_eq_true', Bool.not_eq_false', Bool.not_eq_eq_eq_not, Bool.not_true, Bool.not_false, decide_eq_true_eq, decide_eq_false_iff_not, Int.not_lt, Int.not_le] at hc) <;> (try (exfalso; omega)) <;> (try simp (disch := omega) [go_sem, *, wrap64_id, upd_ne, mk3_true, flatten_replicate_one, stepK_if, ilt_true, ilt_false, ile_true, ile_false, Try.ntmps53])) | (refine ac_cond_h fun Kt Kf ht hf => ?_; simp (disch := omega) [go_sem, *, wrap64_id, upd_ne, mk3_true, flatten_replicate_one, stepK_if, ilt_true, ilt_false, ile_true, ile_false, Try.ntmps53]; try (refine ⟨fun hc => ?_, fun hc => ?_⟩ <;> try (exfalso; omega))))
      refine ac_ret ?_
      refine ⟨by simp, _, (by simp (disch := omega) [go_sem] <;> rfl), ?_⟩
      refine ret_id ?_
      have := hK0.out
      rw [hD.out] at this
      refine this _ _ (WTurn.wrap (by omega) (fun k hk => ?_) T.out hown.out ?_ (fun k hk hk2 => ?_))
      · simp (disch := omega) only [upd_ne]
      · simp only; omega
      · simp (disch := omega) only []
end Go.AM

namespace Wl
structure TOk (t : Talk) : Prop where
  sl : t.said.length ≤ 60
  k0 : 0 ≤ t.known
  kh : t.known ≤ t.heard
  hs : t.heard ≤ t.said.length
  d0 : 0 ≤ t.due
  d1 : t.due ≤ 1100000
/-- a mail of a world: between two stations, with a number that there is -/
def MOk (w : Wd) (m : Mail) : Prop :=
  isPair w m.fr m.to = true ∧ ((m.kind = 1 ∧ 1 ≤ m.num ∧ m.num ≤ (w.tk m.fr.toNat m.to.toNat).said.length) ∨ (m.kind = 2 ∧ 1 ≤ m.num ∧ m.num - 1 ≤ (w.tk m.to.toNat m.fr.toNat).heard))
structure Wok (w : Wd) : Prop where
  s0 : 1 ≤ w.st
  s1 : w.st ≤ 10
  w0 : 1 ≤ w.wait
  w1 : w.wait ≤ 1440
  t0 : 0 ≤ w.tick
  t1 : w.tick ≤ 1048576
  l0 : 0 ≤ w.last
  ml : w.mails.length ≤ 200
  tk : ∀ a b, TOk (w.tk a b)
  ms : ∀ m ∈ w.mails, MOk w m
theorem pair_iff {w : Wd} {a b : Int} : isPair w a b = true ↔ ∃ x y : Nat, x < w.st ∧ y < w.st ∧ x ≠ y ∧ a = x ∧ b = y := by
  simp only [isPair, Bool.and_eq_true, decide_eq_true_eq]
  constructor
  · rintro ⟨⟨⟨⟨h1, h2⟩, h3⟩, h4⟩, h5⟩
    exact ⟨a.toNat, b.toNat, by omega, by omega, by omega, by omega, by omega⟩
  · rintro ⟨x, y, h1, h2, h3, rfl, rfl⟩
    refine ⟨⟨⟨⟨by omega, by omega⟩, by omega⟩, by omega⟩, by omega⟩
theorem stamp_mem {k : Int} {l : List Mail} {m : Mail} (h : m ∈ stamp k l) : ∃ m0 ∈ l, ∃ i, m = { m0 with id := i } := by
  induction l generalizing k with
  | nil => cases h
  | cons x r ih =>
    simp only [stamp, List.mem_cons] at h
    rcases h with rfl | h
    · exact ⟨x, by simp, _, rfl⟩
    · obtain ⟨m0, h1, h2⟩ := ih h
      exact ⟨m0, by simp [h1], h2⟩
theorem MOk.mono {w w' : Wd} {m : Mail} (h : MOk w m) (hst : w'.st = w.st) (hs : ∀ a b, (w.tk a b).said.length ≤ (w'.tk a b).said.length) (hh : ∀ a b, (w.tk a b).heard ≤ (w'.tk a b).heard) : MOk w' m := by
  obtain ⟨h1, h2⟩ := h
  refine ⟨by simpa [isPair, hst] using h1, ?_⟩
  rcases h2 with ⟨a, b, c⟩ | ⟨a, b, c⟩
  · refine .inl ⟨a, b, ?_⟩
    have := hs m.fr.toNat m.to.toNat
    omega
  · refine .inr ⟨a, b, ?_⟩
    have := hh m.to.toNat m.fr.toNat
    omega
theorem MOk.id {w : Wd} {m : Mail} (h : MOk w m) (i : Int) : MOk w { m with id := i } := h
theorem stampLen : ∀ (k : Int) (l : List Mail), (stamp k l).length = l.length
  | _, [] => rfl
  | k, m :: r => by simp [stamp, stampLen]
theorem Wok.put {w : Wd} (h : Wok w) {l : List Mail} (hl : ∀ m ∈ l, MOk w m) : Wok (putW w l) := by
  refine ⟨h.s0, h.s1, h.w0, h.w1, h.t0, h.t1, ?_, ?_, h.tk, fun m hm => ?_⟩
  · have := h.l0; simp only [putW]; omega
  · have := h.ml
    simp only [putW, List.length_append, stampLen, List.length_take, room]
    omega
  · simp only [putW, List.mem_append] at hm
    rcases hm with hm | hm
    · exact (h.ms m hm).mono rfl (fun _ _ => Nat.le_refl _) (fun _ _ => Int.le_refl _)
    · obtain ⟨m0, h1, i, rfl⟩ := stamp_mem hm
      exact ((hl m0 (List.mem_of_mem_take h1)).id i).mono rfl (fun _ _ => Nat.le_refl _) (fun _ _ => Int.le_refl _)
theorem Wok.setT {w : Wd} (h : Wok w) (a b : Nat) {t : Talk} (ht : TOk t) (hs : (w.tk a b).said.length ≤ t.said.length) (hh : (w.tk a b).heard ≤ t.heard) : Wok (setT w a b t) := by
  refine ⟨h.s0, h.s1, h.w0, h.w1, h.t0, h.t1, h.l0, h.ml, fun x y => ?_, fun m hm => (h.ms m hm).mono rfl (fun x y => ?_) (fun x y => ?_)⟩
  · simp only [Wl.setT]; split
    · exact ht
    · exact h.tk x y
  · simp only [Wl.setT]; split
    · rename_i e; rw [e.1, e.2]; exact hs
    · exact Nat.le_refl _
  · simp only [Wl.setT]; split
    · rename_i e; rw [e.1, e.2]; exact hh
    · exact Int.le_refl _
theorem Wok.drop {w : Wd} (h : Wok w) (i : Nat) : Wok { w with mails := w.mails.eraseIdx i } := by
  refine ⟨h.s0, h.s1, h.w0, h.w1, h.t0, h.t1, h.l0, ?_, h.tk, fun m hm => h.ms m (List.mem_of_mem_eraseIdx hm)⟩
  have := h.ml
  have := List.length_eraseIdx_le w.mails i
  simp only; omega
theorem Wok.clock {w : Wd} (h : Wok w) {n : Int} (h0 : 0 ≤ n) (h1 : n ≤ 1048576) : Wok { w with tick := n } :=
  ⟨h.s0, h.s1, h.w0, h.w1, h0, h1, h.l0, h.ml, h.tk, h.ms⟩
theorem setT_tk {w : Wd} {a b : Nat} {t : Talk} : (setT w a b t).tk a b = t := by simp [Wl.setT]
theorem within_iff {a lo hi : Int} : within a lo hi = true ↔ lo ≤ a ∧ a ≤ hi := by simp [within]
theorem Wok.new {st : Nat} {wait : Int} (h0 : 1 ≤ st) (h1 : st ≤ 10) (h2 : 1 ≤ wait) (h3 : wait ≤ 1440) : Wok (newW st wait) :=
  ⟨h0, h1, h2, h3, by simp [newW], by simp [newW], by simp [newW], by simp [newW], fun _ _ => ⟨by simp [newW, noTalk], by simp [newW, noTalk], by simp [newW, noTalk], by simp [newW, noTalk], by simp [newW, noTalk], by simp [newW, noTalk]⟩, by simp [newW]⟩
theorem Wok.say {w : Wd} (h : Wok w) (s : Step) : Wok (sayW w s).1 := by
  unfold sayW
  split
  · exact h
  split
  · exact h
  · rename_i h1 h2
    have hp : isPair w s.a s.b = true := by
      cases e : isPair w s.a s.b
      · exact absurd (.inl e) h1
      · rfl
    have ht := h.tk s.a.toNat s.b.toNat
    have h60 : ¬ 60 ≤ (w.tk s.a.toNat s.b.toNat).said.length := fun e => h2 (.inl e)
    have hd : TOk { w.tk s.a.toNat s.b.toNat with said := (w.tk s.a.toNat s.b.toNat).said ++ [s.text], due := if opn (w.tk s.a.toNat s.b.toNat) = 0 then w.tick + w.wait else (w.tk s.a.toNat s.b.toNat).due } := by
      have := h.t0; have := h.t1; have := h.w0; have := h.w1
      refine ⟨by simp; omega, ht.k0, ht.kh, by have := ht.hs; simp; omega, ?_, ?_⟩
      · simp only; split
        · omega
        · exact ht.d0
      · simp only; split
        · omega
        · exact ht.d1
    refine (h.setT _ _ hd (by simp) (by simp)).put fun m hm => ?_
    simp only [List.mem_singleton] at hm
    subst hm
    refine ⟨hp, .inl ⟨rfl, ?_, ?_⟩⟩
    · show 1 ≤ ((w.tk s.a.toNat s.b.toNat).said.length : Int) + 1; omega
    · rw [setT_tk]; simp
theorem Wok.lose {w : Wd} (h : Wok w) (n : Int) : Wok (loseW w n).1 := by
  unfold loseW; split
  · exact h
  · exact h.drop _
theorem Wok.double {w : Wd} (h : Wok w) (n : Int) : Wok (doubleW w n).1 := by
  unfold doubleW; split
  · exact h
  split
  · exact h
  split
  · exact h
  · rename_i m hm
    exact h.put fun m' hm' => by
      simp only [List.mem_singleton] at hm'; subst hm'
      exact h.ms _ (List.mem_of_getElem? hm)
theorem Wok.crash {w : Wd} (h : Wok w) (a : Int) : Wok (crashW w a).1 := by
  unfold crashW; split
  · exact h
  · refine ⟨h.s0, h.s1, h.w0, h.w1, h.t0, h.t1, h.l0, h.ml, fun x y => ?_, fun m hm => (h.ms m hm).mono rfl (fun x y => ?_) (fun x y => ?_)⟩
    · have ht := h.tk x y
      have := h.t0; have := h.t1
      simp only; split
      · exact ⟨ht.sl, by simp, by have := ht.k0; have := ht.kh; simp only; omega, ht.hs, by simp only; omega, by simp only; omega⟩
      · exact ht
    · simp only; split <;> exact Nat.le_refl _
    · simp only; split <;> exact Int.le_refl _
theorem arrive_ok {w : Wd} (h : Wok w) {m : Mail} (hm : MOk w m) : Wok (arrive w m) := by
  obtain ⟨h1, h2⟩ := hm
  obtain ⟨x, y, hx, hy, hxy, e1, e2⟩ := pair_iff.1 h1
  have back : ∀ w' : Wd, w'.st = w.st → isPair w' m.to m.fr = true := fun w' hw => pair_iff.2 ⟨y, x, by omega, by omega, Ne.symm hxy, e2, e1⟩
  have hx1 : m.fr.toNat = x := by omega
  have hy1 : m.to.toNat = y := by omega
  unfold arrive
  rcases h2 with ⟨k, n1, n2⟩ | ⟨k, n1, n2⟩
  · rw [if_pos k, hx1, hy1]
    rw [hx1, hy1] at n2
    have ht := h.tk x y
    by_cases e : m.num = (w.tk x y).heard + 1
    · rw [if_pos e, if_pos e]
      refine (h.setT x y (t := { w.tk x y with heard := (w.tk x y).heard + 1 }) ⟨ht.sl, ht.k0, by have := ht.kh; simp only; omega, by simp only; omega, ht.d0, ht.d1⟩ (by simp) (by simp only; omega)).put fun m' hm' => ?_
      simp only [List.mem_singleton] at hm'; subst hm'
      refine ⟨back _ rfl, .inr ⟨rfl, ?_, ?_⟩⟩
      · have := ht.k0; have := ht.kh; simp only; omega
      · simp only [hx1, hy1, setT_tk]; omega
    · rw [if_neg e, if_neg e]
      refine h.put fun m' hm' => ?_
      simp only [List.mem_singleton] at hm'; subst hm'
      refine ⟨back _ rfl, .inr ⟨rfl, ?_, ?_⟩⟩
      · have := ht.k0; have := ht.kh; simp only; omega
      · simp only [hx1, hy1]; omega
  · rw [if_neg (by omega), hx1, hy1]
    rw [hx1, hy1] at n2
    have ht := h.tk y x
    split
    · have := h.t0; have := h.t1; have := h.w0; have := h.w1
      exact h.setT y x (t := { w.tk y x with known := m.num - 1, due := w.tick + w.wait }) ⟨ht.sl, by simp only; omega, by simp only; omega, ht.hs, by simp only; omega, by simp only; omega⟩ (by simp) (by simp)
    · exact h
theorem Wok.deliver {w : Wd} (h : Wok w) (n : Int) : Wok (deliverW w n).1 := by
  unfold deliverW; split
  · exact h
  split
  · exact h
  · rename_i m hm
    exact arrive_ok (h.drop _) (m := m) ((h.ms m (List.mem_of_getElem? hm)).mono rfl (fun _ _ => Nat.le_refl _) (fun _ _ => Int.le_refl _))
theorem resend_ok {w : Wd} (_ : Wok w) {a b : Nat} (ha : a < w.st) (hb : b < w.st) (hab : a ≠ b) : ∀ m ∈ resend a b (w.tk a b), MOk w m := by
  intro m hm
  simp only [resend, List.mem_map] at hm
  obtain ⟨k, hk, rfl⟩ := hm
  have := List.mem_range.1 (List.mem_of_mem_drop hk)
  refine ⟨pair_iff.2 ⟨a, b, ha, hb, hab, rfl, rfl⟩, .inl ⟨rfl, by simp only; omega, ?_⟩⟩
  simp only [Int.toNat_natCast]; omega
theorem Wok.timeP {w : Wd} (h : Wok w) {a b : Nat} (ha : a < w.st) (hb : b < w.st) : Wok (timeP w a b) := by
  unfold Wl.timeP
  split
  · exact h
  · rename_i hc
    have hab : a ≠ b := fun e => hc (.inl e)
    have ht := h.tk a b
    have := h.t0; have := h.t1; have := h.w0; have := h.w1
    exact (h.put (resend_ok h ha hb hab)).setT a b (t := { w.tk a b with due := w.tick + w.wait }) ⟨ht.sl, ht.k0, ht.kh, ht.hs, by simp only; omega, by simp only; omega⟩ (by simp [putW]) (by simp [putW])
theorem timeP_st (w : Wd) (a b : Nat) : (timeP w a b).st = w.st := by unfold Wl.timeP; split <;> rfl
theorem Wok.timeGo : ∀ {l : List (Nat × Nat)} {w : Wd}, Wok w → (∀ p ∈ l, p.1 < w.st ∧ p.2 < w.st) → Wok (timeGo w l)
  | [], _, h, _ => h | (a, b) :: r, w, h, hl => by
    have h1 := hl (a, b) (by simp)
    exact Wok.timeGo (l := r) (h.timeP h1.1 h1.2) fun p hp => by rw [timeP_st]; exact hl p (by simp [hp])
theorem Wok.time {w : Wd} (h : Wok w) (n : Int) : Wok (timeW w n).1 := by
  unfold timeW; split
  · exact h
  · rename_i hc
    have := within_iff.1 ((Bool.not_eq_false _).mp hc)
    have := h.t0
    refine Wok.timeGo (h.clock (by omega) (by omega)) fun p hp => ?_
    exact Go.AM.mem_grid.1 hp
theorem Wok.step {w : Wd} (h : Wok w) (s : Step) : Wok (doW w s).1 := by
  unfold doW
  split
  · exact h
  split
  · exact h.say s
  split
  · exact h.time s.n
  split
  · exact h.deliver s.n
  split
  · exact h.lose s.n
  split
  · exact h.double s.n
  · exact h.crash s.a
end Wl

namespace Go.AM
open Go.Proofs Wl
set_option maxRecDepth 10000
set_option maxHeartbeats 4000000
def setsm (N : Sl → Nat) (a b m : Nat) : Sl → Nat
  | .sm x y => if x = a ∧ y = b then m else N (.sm x y)
  | s => N s
theorem setsm_ne {N : Sl → Nat} {a b m : Nat} {s : Sl} (h : s ≠ .sm a b) : setsm N a b m s = N s := by
  cases s with
  | sm x y => simp only [setsm]; rw [if_neg]; rintro ⟨rfl, rfl⟩; exact h rfl
  | _ => rfl
theorem setsm_eq {N : Sl → Nat} {a b m : Nat} : setsm N a b m (.sm a b) = m := by simp [setsm]
theorem setsm_id (N : Sl → Nat) (a b : Nat) : setsm N a b (N (.sm a b)) = N := by
  funext s
  by_cases h : s = .sm a b
  · subst h; rw [setsm_eq]
  · rw [setsm_ne h]
theorem WRep.setT {w : Wd} {N : Sl → Nat} {V : AV} {h h' : AHeap} (R : WRep w N V h) {a b : Nat} (ha : a < w.st) (hb : b < w.st) (hab : a ≠ b) {t : Talk} {m : Nat}
    (htk : h' (N (.nm a b)) = some (cellsTalk m t)) (hsd : h' m = acO (t.said.map sv)) (hk : ∀ s : Sl, s.ok w.st → s ≠ .nm a b → s ≠ .sm a b → h' (N s) = h (N s)) (hq : m = N (.sm a b) ∨ ∀ s : Sl, s.ok w.st → N s ≠ m) :
    WRep (setT w a b t) (setsm N a b m) V h' := by
  have hq2 : ∀ s : Sl, s.ok w.st → s ≠ .sm a b → N s ≠ m := fun s hs hsq e => by
    rcases hq with rfl | hq
    · exact hsq (R.inj s (.sm a b) hs ⟨ha, hb, hab⟩ e)
    · exact hq s hs e
  refine ⟨?_, ?_, ?_, fun x y h1 h2 h3 => ?_, fun x y h1 h2 h3 => ?_, fun s s' hs hs' e => ?_⟩
  · show h' (N .p) = _
    rw [hk .p trivial (by simp) (by simp)]; exact R.hd
  · exact MailsAt.congr R.ml (hk .q trivial (by simp) (by simp))
  · show h' (N .map) = _
    rw [hk .map trivial (by simp) (by simp), R.mp]
    simp only [mapEs]
    congr 3
  · show h' (N (.nm x y)) = _
    by_cases e : x = a ∧ y = b
    · obtain ⟨rfl, rfl⟩ := e
      rw [setsm_eq, setT_tk]; exact htk
    · rw [setsm_ne (by simpa using e), hk (.nm x y) ⟨h1, h2, h3⟩ (by simpa using e) (by simp)]
      simp only [Wl.setT, if_neg e]
      exact R.tks x y h1 h2 h3
  · by_cases e : x = a ∧ y = b
    · obtain ⟨rfl, rfl⟩ := e
      rw [setsm_eq, setT_tk]; exact hsd
    · rw [setsm_ne (by simpa using e), hk (.sm x y) ⟨h1, h2, h3⟩ (by simp) (by simpa using e)]
      simp only [Wl.setT, if_neg e]
      exact R.sds x y h1 h2 h3
  · by_cases h1 : s = .sm a b <;> by_cases h2 : s' = .sm a b
    · rw [h1, h2]
    · subst h1
      rw [setsm_eq, setsm_ne h2] at e
      exact absurd e.symm (hq2 s' hs' h2)
    · subst h2
      rw [setsm_eq, setsm_ne h1] at e
      exact absurd e (hq2 s hs h1)
    · rw [setsm_ne h1, setsm_ne h2] at e
      exact R.inj s s' hs hs' e
theorem ap_sv {nm m : Nat} {L : List AV} {x : ByteArray} {h : AHeap} (hm : h m = acO (L)) (hL : ∀ x ∈ L, (cellsOf x).length = 1) (hl : L.length ≤ 1000) :
    aAppend Try.prog nm 40 (acV 1 m L) (.fslc false false 1 [sv x]) h = some (acV 1 nm (L ++ [sv x]), (h.upd m none).upd nm (acO (L ++ [sv x]))) :=
  ap_ac (e := 9) (s := 1) (by_ := 16) (z := sv ByteArray.empty) (by kernel_rfl) (by kernel_rfl) (by kernel_rfl) (by kernel_rfl) (by decide) hm hL (by simp) (by simp; omega)
theorem look_pair {N : Sl → Nat} {st : Nat} {H : AHeap} (hm : H (N .map) = some (.map (mapEs N st))) {x y : Nat} (hx : x < st) (hy : y < st) (hxy : x ≠ y) : aLookup Try.prog 56 (.map (N .map)) (.agg [iv .i64 (x : Int), iv .i64 (y : Int)]) false H = some (.ptr (N (.nm x y)) 0) := by
  rcases look_talk hm (x : Int) (y : Int) with ⟨x', y', _, _, _, e1, e2, e⟩ | ⟨hno, _⟩
  · have e1' : x = x' := by omega
    have e2' : y = y' := by omega
    subst e1' e2'
    exact e
  · exact absurd ⟨rfl, rfl⟩ (hno x y hx hy hxy)
theorem look_none {N : Sl → Nat} {w : Wd} {H : AHeap} (hm : H (N .map) = some (.map (mapEs N w.st))) {a b : Int} (hno : isPair w a b = false) : aLookup Try.prog 56 (.map (N .map)) (.agg [iv .i64 a, iv .i64 b]) false H = some (.c (.pointer none)) := by
  rcases look_talk hm a b with ⟨x', y', h1, h2, h3, e1, e2, e⟩ | ⟨_, e⟩
  · rw [pair_iff.2 ⟨x', y', h1, h2, h3, e1, e2⟩] at hno; cases hno
  · exact e
theorem look_K {P : Program} {t : TypeId} {m k v : AV} {c : Bool} {H : AHeap} {n : Nat} {K : AV → AHeap → Nat → Prop} (hl : aLookup P t m k c H = some v) (h : K v H n) : stepK (Option.map (fun x => (x, H)) (aLookup P t m k c H)) n K := by rw [hl]; exact h
theorem len_ac0 (m : Nat) (L : List AV) (h : AHeap) : aLen Try.prog 40 (acV 1 m L) h = some (iv .i64 L.length) := by
  by_cases h0 : L = []
  · subst h0; simp [ac_nil, go_sem]
  · rw [acV_ne h0]; simp [go_sem]
theorem len_f220 (a b : Bool) (k : Nat) (L : List AV) (h : AHeap) : aLen Try.prog 22 (.fslc a b k L) h = some (iv .i64 L.length) := by simp [go_sem]
theorem len_s220 (a b c d : Nat) (h : AHeap) : aLen Try.prog 22 (.slc a b c d) h = some (iv .i64 c) := by simp [go_sem]
theorem len_f320 (a b : Bool) (k : Nat) (L : List AV) (h : AHeap) : aLen Try.prog 32 (.fslc a b k L) h = some (iv .i64 L.length) := by simp [go_sem]
theorem len_s320 (a b c d : Nat) (h : AHeap) : aLen Try.prog 32 (.slc a b c d) h = some (iv .i64 c) := by simp [go_sem]
theorem len_f400 (a b : Bool) (k : Nat) (L : List AV) (h : AHeap) : aLen Try.prog 40 (.fslc a b k L) h = some (iv .i64 L.length) := by simp [go_sem]
theorem len_s400 (a b c d : Nat) (h : AHeap) : aLen Try.prog 40 (.slc a b c d) h = some (iv .i64 c) := by simp [go_sem]
theorem len_f510 (a b : Bool) (k : Nat) (L : List AV) (h : AHeap) : aLen Try.prog 51 (.fslc a b k L) h = some (iv .i64 L.length) := by simp [go_sem]
theorem len_s510 (a b c d : Nat) (h : AHeap) : aLen Try.prog 51 (.slc a b c d) h = some (iv .i64 c) := by simp [go_sem]
theorem len_f750 (a b : Bool) (k : Nat) (L : List AV) (h : AHeap) : aLen Try.prog 75 (.fslc a b k L) h = some (iv .i64 L.length) := by simp [go_sem]
theorem len_s750 (a b c d : Nat) (h : AHeap) : aLen Try.prog 75 (.slc a b c d) h = some (iv .i64 c) := by simp [go_sem]
theorem len_t90 (x : ByteArray) (h : AHeap) : aLen Try.prog 9 (sv x) h = some (iv .i64 x.size) := by simp [go_sem]
theorem len_t100 (x : ByteArray) (h : AHeap) : aLen Try.prog 10 (sv x) h = some (iv .i64 x.size) := by simp [go_sem]
theorem len_t110 (x : ByteArray) (h : AHeap) : aLen Try.prog 11 (sv x) h = some (iv .i64 x.size) := by simp [go_sem]
attribute [-go_sem] aLen
attribute [go_sem] len_ac0 len_f220 len_s220 len_f320 len_s320 len_f400 len_s400 len_f510 len_s510 len_f750 len_s750 len_t90 len_t100 len_t110
@[go_sem] theorem scalar_ac (s m : Nat) (L : List AV) : AV.scalar (acV s m L) = true := by
  by_cases h0 : L = []
  · subst h0; rfl
  · rw [acV_ne h0]; rfl
theorem cells_ac0 (s m : Nat) (L : List AV) : cellsOf (acV s m L) = [acV s m L] := by
  by_cases h0 : L = []
  · subst h0; rfl
  · rw [acV_ne h0]; rfl
attribute [go_sem] List.length_map
theorem WTurn.grow {w w2 : Wd} {N : Sl → Nat} {h h2 : AHeap} {n n2 n3 : Nat} (T : WTurn w N h n w2 h2 n2) (hn : n2 ≤ n3) : WTurn w N h n w2 h2 n3 := by
  obtain ⟨N2, V2, R2, p2, o2, l2, f2⟩ := T
  exact ⟨N2, V2, R2, p2, fun k hk => ⟨(o2 k hk).1, by have := (o2 k hk).2; omega⟩, by omega, f2⟩
theorem own_setsm {st : Nat} {N : Sl → Nat} {a b m k : Nat} (hk : own st (setsm N a b m) k) : own st N k ∨ k = m := by
  obtain ⟨s, hs, rfl⟩ := hk
  by_cases e : s = .sm a b
  · subst e; exact .inr setsm_eq
  · exact .inl ⟨s, hs, (setsm_ne e).symm⟩
theorem ap_sv_K {nm m : Nat} {L : List AV} {x : ByteArray} {h : AHeap} {n : Nat} {K : AV → AHeap → Nat → Prop} (hm : h m = acO (L)) (hL : ∀ x ∈ L, (cellsOf x).length = 1) (hl : L.length ≤ 1000)
    (hk : K (.slc nm 0 (L.length + 1) 1) ((h.upd m none).upd nm (acO (L ++ [sv x]))) n) : stepK (aAppend Try.prog nm 40 (acV 1 m L) (.fslc false false 1 [sv x]) h) n K := by
  have h1 := ap_sv (nm := nm) (x := x) hm hL hl
  rw [acV_ne (L := L ++ [sv x]) (by simp)] at h1
  rw [h1]
  have h2 : (L ++ [sv x]).length = L.length + 1 := by simp
  rw [h2]
  exact hk
theorem sayW_go {w : Wd} {x y : Nat} {sk sn : Int} {tx : ByteArray} (g1 : ¬(isPair w x y = false ∨ tx.size > 40)) (c2 : ¬60 ≤ (w.tk x y).said.length) (c3 : ¬room w = 0) :
    sayW w ⟨sk, x, y, sn, tx⟩ = (putW (setT w x y ⟨(w.tk x y).said ++ [tx], (w.tk x y).heard, (w.tk x y).known, if opn (w.tk x y) = 0 then w.tick + w.wait else (w.tk x y).due⟩) [⟨0, 1, x, y, (w.tk x y).said.length + 1, tx⟩], 0) := by
  unfold sayW
  rw [if_neg g1, if_neg]
  · rfl
  · rintro (h | h)
    · exact c2 h
    · exact c3 h
theorem say_spec {w : Wd} {N : Sl → Nat} {V : AV} {h : AHeap} (R : WRep w N V h) (hw : Wok w) (hk1 : w.last ≤ 1000000000000) (s : Step) (n : Nat) (hown : ∀ k, own w.st N k → k < n) (K0 : AV → AHeap → Nat → Prop)
    (hK0 : ∀ h' n', WTurn w N h n (sayW w s).1 h' n' → K0 (iv .i64 (sayW w s).2) h' n') : ACalls Try.prog 48 [.ptr (N .p) 0, encStep s] h n K0 := by
  refine ACalls.entry (by kernel_rfl) fun hb _ => calls_of Try.func48 rfl (by kernel_rfl) (by simp [Try.ntmps48]) ?_
  obtain ⟨sk, sa, sb, sn, tx⟩ := s
  have hp := R.hd
  have hpn : N .p < n := hown _ ⟨.p, trivial, rfl⟩
  have hmn : N .map < n := hown _ ⟨.map, trivial, rfl⟩
  have hl := hw.ml
  have hR1 : Hide (∀ H : AHeap, (∀ k, k < n → H k = h k) → WRep w N V H) := fun H hH => R.congr fun k hk => hH k (hown k hk)
  replace hK0 : Hide _ := hK0; replace hown : Hide _ := hown
  have hmp := R.mp
  cases hP : isPair w sa sb with
  | false =>
    have hL : Hide (sayW w ⟨sk, sa, sb, sn, tx⟩ = (w, 1)) := by rw [Hide, sayW, if_pos (.inl hP)]
    replace R : Hide _ := R; replace hmp : Hide _ := hmp
    repeat' (first | (refine ac_seq_h fun K hK => ?_) | (refine ac_region_h fun K hK => ?_; simp (disch := omega) [go_sem, *, Try.ntmps48]) | (refine ac_draw_h mixed (by kernel_rfl) fun K hK => ?_; simp (disch := omega) [go_sem, *, upd_ne]) | (apply Hide.out hK; clear hK K; try with_reducible dsimp only [thenA]) | (apply Hide.out ht; clear ht hf Kt Kf) | (apply Hide.out hf; clear ht hf Kt Kf) | (clear hK K; apply Hide.out hK; clear hK K; try with_reducible dsimp only [thenA]) | (clear hK K; clear hK K; apply Hide.out hK; clear hK K; try with_reducible dsimp only [thenA]) | (refine ac_block ?_) | (refine ac_skip ?_; simp only [thenA, blockA]) | (refine ac_exit ?_; simp only [thenA, blockA, if_true, if_false, Nat.reduceEqDiff]) | (with_reducible show nextK _ _ _ _ _ _ _; simp (disch := omega) [go_sem, *, wrap64_id, upd_ne, mk3_true, flatten_replicate_one, stepK_if, ilt_true, ilt_false, ile_true, ile_false, Try.ntmps48]) | (refine wantK_split (fun hc => ?_) (fun hc => ?_) <;> (try simp only [Bool.not_eq_true', Bool.not_eq_false', Bool.not_eq_eq_eq_not, Bool.not_true, Bool.not_false, decide_eq_true_eq, decide_eq_false_iff_not, Int.not_lt, Int.not_le] at hc) <;> (try (exfalso; omega)) <;> (try simp (disch := omega) [go_sem, *, wrap64_id, upd_ne, mk3_true, flatten_replicate_one, stepK_if, ilt_true, ilt_false, ile_true, ile_false, Try.ntmps48])) | (refine ac_cond_h fun Kt Kf ht hf => ?_; simp (disch := omega) [go_sem, *, wrap64_id, upd_ne, mk3_true, flatten_replicate_one, stepK_if, ilt_true, ilt_false, ile_true, ile_false, Try.ntmps48]; try (refine ⟨fun hc => ?_, fun hc => ?_⟩ <;> try (exfalso; omega))))
    refine look_K (look_none (w := w) (by simp (disch := omega) only [upd_ne]; exact hmp.out) hP) ?_
    repeat' (first | (refine ac_seq_h fun K hK => ?_) | (refine ac_region_h fun K hK => ?_; simp (disch := omega) [go_sem, *]) | (refine ac_draw_h mixed (by kernel_rfl) fun K hK => ?_; simp (disch := omega) [go_sem, *, wrap64_id, upd_ne, mk3_true, flatten_replicate_one, stepK_if, ilt_true, ilt_false, ile_true, ile_false, Try.ntmps48]) | (apply Hide.out hK; clear hK K; try with_reducible dsimp only [thenA]) | (apply Hide.out ht; clear ht hf Kt Kf) | (apply Hide.out hf; clear ht hf Kt Kf) | (clear hK K; apply Hide.out hK; clear hK K; try with_reducible dsimp only [thenA]) | (clear hK K; clear hK K; apply Hide.out hK; clear hK K; try with_reducible dsimp only [thenA]) | (refine ac_block ?_) | (refine ac_skip ?_; simp only [thenA, blockA]) | (refine ac_exit ?_; simp only [thenA, blockA, if_true, if_false, Nat.reduceEqDiff]) | (with_reducible show nextK _ _ _ _ _ _ _; simp (disch := omega) [go_sem, *]) | (refine wantK_split (fun hc => ?_) (fun hc => ?_) <;> (try simp only [Bool.not_eq_true', Bool.not_eq_false', Bool.not_eq_eq_eq_not, Bool.not_true, Bool.not_false, decide_eq_true_eq, decide_eq_false_iff_not, Int.not_lt, Int.not_le] at hc) <;> (try (exfalso; omega)) <;> (try simp (disch := omega) [go_sem, *, wrap64_id, upd_ne, mk3_true, flatten_replicate_one, stepK_if, ilt_true, ilt_false, ile_true, ile_false, Try.ntmps48])) | (refine ac_cond_h fun Kt Kf ht hf => ?_; simp (disch := omega) [go_sem, *]; try (refine ⟨fun hc => ?_, fun hc => ?_⟩ <;> try (exfalso; omega))))
    refine ac_ret ?_
    refine ⟨by simp, _, (by simp (disch := omega) [go_sem] <;> rfl), ?_⟩
    refine ret_id ?_
    have := hK0.out
    rw [hL.out] at this
    refine this _ _ (WTurn.refl R.out hown.out ?_ (fun k hk => ?_))
    · simp only; omega
    · simp (disch := omega) only [upd_ne]
  | true =>
    obtain ⟨x, y, hx, hy, hxy, rfl, rfl⟩ := pair_iff.1 hP
    have hxyn : N (.nm x y) < n := hown.out _ ⟨.nm x y, ⟨hx, hy, hxy⟩, rfl⟩
    have hxys : N (.sm x y) < n := hown.out _ ⟨.sm x y, ⟨hx, hy, hxy⟩, rfl⟩
    have hmm := R.tks x y hx hy hxy
    have hss := R.sds x y hx hy hxy
    have hT := hw.tk x y
    have i1 : N .p ≠ N (.nm x y) := fun e => by have := R.inj .p (.nm x y) trivial ⟨hx, hy, hxy⟩ e; cases this
    have i2 : N .p ≠ N (.sm x y) := fun e => by have := R.inj .p (.sm x y) trivial ⟨hx, hy, hxy⟩ e; cases this
    have i3 : N (.nm x y) ≠ N (.sm x y) := fun e => by have := R.inj (.nm x y) (.sm x y) ⟨hx, hy, hxy⟩ ⟨hx, hy, hxy⟩ e; cases this
    have hrm := fun H (hH : ∀ k, k < n → H k = h k) b => room_at (hR1.out H hH) hl b
    replace hrm : Hide _ := hrm; replace hmp : Hide _ := hmp; replace hT : Hide _ := hT; replace R : Hide _ := R; replace hw : Hide _ := hw; replace hss : Hide _ := hss
    by_cases c1 : 40 < tx.size
    · have hL : Hide (sayW w ⟨sk, x, y, sn, tx⟩ = (w, 1)) := by rw [Hide, sayW, if_pos (.inr c1)]
      repeat' (first | (refine ac_seq_h fun K hK => ?_) | (refine ac_region_h fun K hK => ?_; simp (disch := omega) [go_sem, *, Try.ntmps48]) | (refine ac_draw_h mixed (by kernel_rfl) fun K hK => ?_; simp (disch := omega) [go_sem, *, upd_ne]) | (apply Hide.out hK; clear hK K; try with_reducible dsimp only [thenA]) | (apply Hide.out ht; clear ht hf Kt Kf) | (apply Hide.out hf; clear ht hf Kt Kf) | (clear hK K; apply Hide.out hK; clear hK K; try with_reducible dsimp only [thenA]) | (clear hK K; clear hK K; apply Hide.out hK; clear hK K; try with_reducible dsimp only [thenA]) | (refine ac_block ?_) | (refine ac_skip ?_; simp only [thenA, blockA]) | (refine ac_exit ?_; simp only [thenA, blockA, if_true, if_false, Nat.reduceEqDiff]) | (with_reducible show nextK _ _ _ _ _ _ _; simp (disch := omega) [go_sem, *, wrap64_id, upd_ne, mk3_true, flatten_replicate_one, stepK_if, ilt_true, ilt_false, ile_true, ile_false, Try.ntmps48]) | (refine wantK_split (fun hc => ?_) (fun hc => ?_) <;> (try simp only [Bool.not_eq_true', Bool.not_eq_false', Bool.not_eq_eq_eq_not, Bool.not_true, Bool.not_false, decide_eq_true_eq, decide_eq_false_iff_not, Int.not_lt, Int.not_le] at hc) <;> (try (exfalso; omega)) <;> (try simp (disch := omega) [go_sem, *, wrap64_id, upd_ne, mk3_true, flatten_replicate_one, stepK_if, ilt_true, ilt_false, ile_true, ile_false, Try.ntmps48])) | (refine ac_cond_h fun Kt Kf ht hf => ?_; simp (disch := omega) [go_sem, *, wrap64_id, upd_ne, mk3_true, flatten_replicate_one, stepK_if, ilt_true, ilt_false, ile_true, ile_false, Try.ntmps48]; try (refine ⟨fun hc => ?_, fun hc => ?_⟩ <;> try (exfalso; omega))))
      refine look_K (look_pair (by simp (disch := omega) only [upd_ne]; exact hmp.out) hx hy hxy) ?_
      repeat' (first | (refine ac_seq_h fun K hK => ?_) | (refine ac_region_h fun K hK => ?_; simp (disch := omega) [go_sem, *, ilt_true]) | (refine ac_draw_h mixed (by kernel_rfl) fun K hK => ?_; simp (disch := omega) [go_sem, *, wrap64_id, upd_ne, mk3_true, flatten_replicate_one, stepK_if, ilt_true, ilt_false, ile_true, ile_false, Try.ntmps48]) | (apply Hide.out hK; clear hK K; try with_reducible dsimp only [thenA]) | (apply Hide.out ht; clear ht hf Kt Kf) | (apply Hide.out hf; clear ht hf Kt Kf) | (clear hK K; apply Hide.out hK; clear hK K; try with_reducible dsimp only [thenA]) | (clear hK K; clear hK K; apply Hide.out hK; clear hK K; try with_reducible dsimp only [thenA]) | (refine ac_block ?_) | (refine ac_skip ?_; simp only [thenA, blockA]) | (refine ac_exit ?_; simp only [thenA, blockA, if_true, if_false, Nat.reduceEqDiff]) | (with_reducible show nextK _ _ _ _ _ _ _; simp (disch := omega) [go_sem, *]) | (refine wantK_split (fun hc => ?_) (fun hc => ?_) <;> (try simp only [Bool.not_eq_true', Bool.not_eq_false', Bool.not_eq_eq_eq_not, Bool.not_true, Bool.not_false, decide_eq_true_eq, decide_eq_false_iff_not, Int.not_lt, Int.not_le] at hc) <;> (try (exfalso; omega)) <;> (try simp (disch := omega) [go_sem, *, wrap64_id, upd_ne, mk3_true, flatten_replicate_one, stepK_if, ilt_true, ilt_false, ile_true, ile_false, Try.ntmps48])) | (refine ac_cond_h fun Kt Kf ht hf => ?_; simp (disch := omega) [go_sem, *]; try (refine ⟨fun hc => ?_, fun hc => ?_⟩ <;> try (exfalso; omega))))
      refine ac_ret ?_
      refine ⟨by simp, _, (by simp (disch := omega) [go_sem] <;> rfl), ?_⟩
      refine ret_id ?_
      have := hK0.out
      rw [hL.out] at this
      refine this _ _ (WTurn.refl R.out hown.out ?_ (fun k hk => ?_))
      · simp only; omega
      · simp (disch := omega) only [upd_ne]
    have g1 : ¬(isPair w x y = false ∨ tx.size > 40) := by rw [hP]; simp; omega
    by_cases c2 : 60 ≤ (w.tk x y).said.length
    · have hL : Hide (sayW w ⟨sk, x, y, sn, tx⟩ = (w, 2)) := by
        rw [Hide, sayW, if_neg g1, if_pos (.inl (by simpa using c2))]
      replace g1 : Hide _ := g1
      repeat' (first | (refine ac_seq_h fun K hK => ?_) | (refine ac_region_h fun K hK => ?_; simp (disch := omega) [go_sem, *, Try.ntmps48]) | (refine ac_draw_h mixed (by kernel_rfl) fun K hK => ?_; simp (disch := omega) [go_sem, *, upd_ne]) | (apply Hide.out hK; clear hK K; try with_reducible dsimp only [thenA]) | (apply Hide.out ht; clear ht hf Kt Kf) | (apply Hide.out hf; clear ht hf Kt Kf) | (clear hK K; apply Hide.out hK; clear hK K; try with_reducible dsimp only [thenA]) | (clear hK K; clear hK K; apply Hide.out hK; clear hK K; try with_reducible dsimp only [thenA]) | (refine ac_block ?_) | (refine ac_skip ?_; simp only [thenA, blockA]) | (refine ac_exit ?_; simp only [thenA, blockA, if_true, if_false, Nat.reduceEqDiff]) | (with_reducible show nextK _ _ _ _ _ _ _; simp (disch := omega) [go_sem, *, wrap64_id, upd_ne, mk3_true, flatten_replicate_one, stepK_if, ilt_true, ilt_false, ile_true, ile_false, Try.ntmps48]) | (refine wantK_split (fun hc => ?_) (fun hc => ?_) <;> (try simp only [Bool.not_eq_true', Bool.not_eq_false', Bool.not_eq_eq_eq_not, Bool.not_true, Bool.not_false, decide_eq_true_eq, decide_eq_false_iff_not, Int.not_lt, Int.not_le] at hc) <;> (try (exfalso; omega)) <;> (try simp (disch := omega) [go_sem, *, wrap64_id, upd_ne, mk3_true, flatten_replicate_one, stepK_if, ilt_true, ilt_false, ile_true, ile_false, Try.ntmps48])) | (refine ac_cond_h fun Kt Kf ht hf => ?_; simp (disch := omega) [go_sem, *, wrap64_id, upd_ne, mk3_true, flatten_replicate_one, stepK_if, ilt_true, ilt_false, ile_true, ile_false, Try.ntmps48]; try (refine ⟨fun hc => ?_, fun hc => ?_⟩ <;> try (exfalso; omega))))
      refine look_K (look_pair (by simp (disch := omega) only [upd_ne]; exact hmp.out) hx hy hxy) ?_
      repeat' (first | (refine ac_seq_h fun K hK => ?_) | (refine ac_region_h fun K hK => ?_; simp (disch := omega) [go_sem, *, upd_ne, ilt_false, ile_true]) | (refine ac_draw_h mixed (by kernel_rfl) fun K hK => ?_; simp (disch := omega) [go_sem, *, wrap64_id, upd_ne, mk3_true, flatten_replicate_one, stepK_if, ilt_true, ilt_false, ile_true, ile_false, Try.ntmps48]) | (apply Hide.out hK; clear hK K; try with_reducible dsimp only [thenA]) | (apply Hide.out ht; clear ht hf Kt Kf) | (apply Hide.out hf; clear ht hf Kt Kf) | (clear hK K; apply Hide.out hK; clear hK K; try with_reducible dsimp only [thenA]) | (clear hK K; clear hK K; apply Hide.out hK; clear hK K; try with_reducible dsimp only [thenA]) | (refine ac_block ?_) | (refine ac_skip ?_; simp only [thenA, blockA]) | (refine ac_exit ?_; simp only [thenA, blockA, if_true, if_false, Nat.reduceEqDiff]) | (with_reducible show nextK _ _ _ _ _ _ _; simp (disch := omega) [go_sem, *]) | (refine wantK_split (fun hc => ?_) (fun hc => ?_) <;> (try simp only [Bool.not_eq_true', Bool.not_eq_false', Bool.not_eq_eq_eq_not, Bool.not_true, Bool.not_false, decide_eq_true_eq, decide_eq_false_iff_not, Int.not_lt, Int.not_le] at hc) <;> (try (exfalso; omega)) <;> (try simp (disch := omega) [go_sem, *, wrap64_id, upd_ne, mk3_true, flatten_replicate_one, stepK_if, ilt_true, ilt_false, ile_true, ile_false, Try.ntmps48])) | (refine ac_cond_h fun Kt Kf ht hf => ?_; simp (disch := omega) [go_sem, *]; try (refine ⟨fun hc => ?_, fun hc => ?_⟩ <;> try (exfalso; omega))))
      refine ac_ret ?_
      refine ⟨by simp, _, (by simp (disch := omega) [go_sem] <;> rfl), ?_⟩
      refine ret_id ?_
      have := hK0.out
      rw [hL.out] at this
      refine this _ _ (WTurn.refl R.out hown.out ?_ (fun k hk => ?_))
      · simp only; omega
      · simp (disch := omega) only [upd_ne]
    obtain ⟨L, hLL⟩ : ∃ L, Hide (L = (w.tk x y).said.map sv) := ⟨_, rfl⟩
    have hLl : L.length = (w.tk x y).said.length := by rw [hLL.out, List.length_map]
    simp only [cellsTalk, ← hLL.out] at hmm
    rw [← hLL.out] at hss
    have hr2 : (room w : Int) ≤ 1000000 := by simp only [room]; omega
    by_cases c3 : room w = 0
    · have hL : Hide (sayW w ⟨sk, x, y, sn, tx⟩ = (w, 2)) := by
        rw [Hide, sayW, if_neg g1, if_pos (.inr c3)]
      replace g1 : Hide _ := g1
      rw [c3] at hrm
      replace c3 : Hide _ := c3
      repeat' (first | (refine ac_seq_h fun K hK => ?_) | (refine ac_region_h fun K hK => ?_; simp (disch := omega) [go_sem, *, Try.ntmps48]) | (refine ac_draw_h mixed (by kernel_rfl) fun K hK => ?_; simp (disch := omega) [go_sem, *, upd_ne]) | (apply Hide.out hK; clear hK K; try with_reducible dsimp only [thenA]) | (apply Hide.out ht; clear ht hf Kt Kf) | (apply Hide.out hf; clear ht hf Kt Kf) | (clear hK K; apply Hide.out hK; clear hK K; try with_reducible dsimp only [thenA]) | (clear hK K; clear hK K; apply Hide.out hK; clear hK K; try with_reducible dsimp only [thenA]) | (refine ac_block ?_) | (refine ac_skip ?_; simp only [thenA, blockA]) | (refine ac_exit ?_; simp only [thenA, blockA, if_true, if_false, Nat.reduceEqDiff]) | (with_reducible show nextK _ _ _ _ _ _ _; simp (disch := omega) [go_sem, *, wrap64_id, upd_ne, mk3_true, flatten_replicate_one, stepK_if, ilt_true, ilt_false, ile_true, ile_false, Try.ntmps48]) | (refine wantK_split (fun hc => ?_) (fun hc => ?_) <;> (try simp only [Bool.not_eq_true', Bool.not_eq_false', Bool.not_eq_eq_eq_not, Bool.not_true, Bool.not_false, decide_eq_true_eq, decide_eq_false_iff_not, Int.not_lt, Int.not_le] at hc) <;> (try (exfalso; omega)) <;> (try simp (disch := omega) [go_sem, *, wrap64_id, upd_ne, mk3_true, flatten_replicate_one, stepK_if, ilt_true, ilt_false, ile_true, ile_false, Try.ntmps48])) | (refine ac_cond_h fun Kt Kf ht hf => ?_; simp (disch := omega) [go_sem, *, wrap64_id, upd_ne, mk3_true, flatten_replicate_one, stepK_if, ilt_true, ilt_false, ile_true, ile_false, Try.ntmps48]; try (refine ⟨fun hc => ?_, fun hc => ?_⟩ <;> try (exfalso; omega))))
      refine look_K (look_pair (by simp (disch := omega) only [upd_ne]; exact hmp.out) hx hy hxy) ?_
      repeat' (first | (refine ac_seq_h fun K hK => ?_) | (refine ac_region_h fun K hK => ?_; simp (disch := omega) [go_sem, *, upd_ne, ilt_false, ile_false]) | (refine ac_draw_h mixed (by kernel_rfl) fun K hK => ?_; simp (disch := omega) [go_sem, *, wrap64_id, upd_ne, mk3_true, flatten_replicate_one, stepK_if, ilt_true, ilt_false, ile_true, ile_false, Try.ntmps48]) | (apply Hide.out hK; clear hK K; try with_reducible dsimp only [thenA]) | (apply Hide.out ht; clear ht hf Kt Kf) | (apply Hide.out hf; clear ht hf Kt Kf) | (clear hK K; apply Hide.out hK; clear hK K; try with_reducible dsimp only [thenA]) | (clear hK K; clear hK K; apply Hide.out hK; clear hK K; try with_reducible dsimp only [thenA]) | (refine ac_block ?_) | (refine ac_skip ?_; simp only [thenA, blockA]) | (refine ac_exit ?_; simp only [thenA, blockA, if_true, if_false, Nat.reduceEqDiff]) | (with_reducible show nextK _ _ _ _ _ _ _; simp (disch := omega) [go_sem, *]) | (refine wantK_split (fun hc => ?_) (fun hc => ?_) <;> (try simp only [Bool.not_eq_true', Bool.not_eq_false', Bool.not_eq_eq_eq_not, Bool.not_true, Bool.not_false, decide_eq_true_eq, decide_eq_false_iff_not, Int.not_lt, Int.not_le] at hc) <;> (try (exfalso; omega)) <;> (try simp (disch := omega) [go_sem, *, wrap64_id, upd_ne, mk3_true, flatten_replicate_one, stepK_if, ilt_true, ilt_false, ile_true, ile_false, Try.ntmps48])) | (refine ac_cond_h fun Kt Kf ht hf => ?_; simp (disch := omega) [go_sem, *]; try (refine ⟨fun hc => ?_, fun hc => ?_⟩ <;> try (exfalso; omega))))
      refine APureAt.call (hrm.out _ (fun k hk => ?_) _) ?_
      · simp (disch := omega) only [upd_ne]
      repeat' (first | (refine ac_seq_h fun K hK => ?_) | (refine ac_region_h fun K hK => ?_; simp (disch := omega) [go_sem, *]) | (refine ac_draw_h mixed (by kernel_rfl) fun K hK => ?_; simp (disch := omega) [go_sem, *, wrap64_id, upd_ne, mk3_true, flatten_replicate_one, stepK_if, ilt_true, ilt_false, ile_true, ile_false, Try.ntmps48]) | (apply Hide.out hK; clear hK K; try with_reducible dsimp only [thenA]) | (apply Hide.out ht; clear ht hf Kt Kf) | (apply Hide.out hf; clear ht hf Kt Kf) | (clear hK K; apply Hide.out hK; clear hK K; try with_reducible dsimp only [thenA]) | (clear hK K; clear hK K; apply Hide.out hK; clear hK K; try with_reducible dsimp only [thenA]) | (refine ac_block ?_) | (refine ac_skip ?_; simp only [thenA, blockA]) | (refine ac_exit ?_; simp only [thenA, blockA, if_true, if_false, Nat.reduceEqDiff]) | (with_reducible show nextK _ _ _ _ _ _ _; simp (disch := omega) [go_sem, *]) | (refine wantK_split (fun hc => ?_) (fun hc => ?_) <;> (try simp only [Bool.not_eq_true', Bool.not_eq_false', Bool.not_eq_eq_eq_not, Bool.not_true, Bool.not_false, decide_eq_true_eq, decide_eq_false_iff_not, Int.not_lt, Int.not_le] at hc) <;> (try (exfalso; omega)) <;> (try simp (disch := omega) [go_sem, *, wrap64_id, upd_ne, mk3_true, flatten_replicate_one, stepK_if, ilt_true, ilt_false, ile_true, ile_false, Try.ntmps48])) | (refine ac_cond_h fun Kt Kf ht hf => ?_; simp (disch := omega) [go_sem, *]; try (refine ⟨fun hc => ?_, fun hc => ?_⟩ <;> try (exfalso; omega))))
      refine ac_ret ?_
      refine ⟨by simp, _, (by simp (disch := omega) [go_sem] <;> rfl), ?_⟩
      refine ret_id ?_
      have := hK0.out
      rw [hL.out] at this
      refine this _ _ (WTurn.refl R.out hown.out ?_ (fun k hk => ?_))
      · simp only; omega
      · simp (disch := omega) only [upd_ne]
    obtain ⟨D, hD⟩ : ∃ D, Hide (D = if opn (w.tk x y) = 0 then w.tick + w.wait else (w.tk x y).due) := ⟨_, rfl⟩
    have hL : Hide (sayW w ⟨sk, x, y, sn, tx⟩ = (putW (setT w x y ⟨(w.tk x y).said ++ [tx], (w.tk x y).heard, (w.tk x y).known, D⟩) [⟨0, 1, x, y, (w.tk x y).said.length + 1, tx⟩], 0)) := by
      rw [Hide, sayW_go g1 c2 c3, hD.out]
    obtain ⟨r, hr⟩ : ∃ r, Hide (r = room w) := ⟨_, rfl⟩
    rw [← hr.out] at hr2 hrm c3
    replace g1 : Hide _ := g1
    have hopn := fun (H : AHeap) b (hH : H (N (.nm x y)) = _) => open_at (h := H) (t := w.tk x y) (m := N (.nm x y)) (sm := N (.sm x y)) hH (by have := hT.out.k0; omega) (by have := hT.out; have := this.kh; have := hT.out.hs; have := hT.out.sl; omega) (by have := hT.out.sl; omega) b
    have o1 : opn (w.tk x y) ≤ 1000 := by have := hT.out; have := this.k0; have := hT.out.sl; unfold opn; omega
    have o2 : -1000 ≤ opn (w.tk x y) := by have := hT.out; have := this.kh; have := hT.out.hs; unfold opn; omega
    obtain ⟨O, hO⟩ : ∃ O, Hide (O = opn (w.tk x y)) := ⟨_, rfl⟩
    rw [← hO.out] at hD hopn o1 o2
    replace hopn : Hide _ := hopn
    have y1 := hw.out.t0; have y2 := hw.out.t1; have y3 := hw.out.w0; have y4 := hw.out.w1
    have hL1 : Hide (∀ x ∈ L, (cellsOf x).length = 1) := fun z hz => by
      rw [hLL.out] at hz
      obtain ⟨q, _, rfl⟩ := List.mem_map.1 hz
      rfl
    have y0 := hw.out.l0
    by_cases c4 : O = 0
    · rw [if_pos c4] at hD
      repeat' (first | (refine ac_seq_h fun K hK => ?_) | (refine ac_region_h fun K hK => ?_; simp (disch := omega) [go_sem, *, Try.ntmps48]) | (refine ac_draw_h mixed (by kernel_rfl) fun K hK => ?_; simp (disch := omega) [go_sem, *, upd_ne]) | (apply Hide.out hK; clear hK K; try with_reducible dsimp only [thenA]) | (apply Hide.out ht; clear ht hf Kt Kf) | (apply Hide.out hf; clear ht hf Kt Kf) | (clear hK K; apply Hide.out hK; clear hK K; try with_reducible dsimp only [thenA]) | (clear hK K; clear hK K; apply Hide.out hK; clear hK K; try with_reducible dsimp only [thenA]) | (refine ac_block ?_) | (refine ac_skip ?_; simp only [thenA, blockA]) | (refine ac_exit ?_; simp only [thenA, blockA, if_true, if_false, Nat.reduceEqDiff]) | (with_reducible show nextK _ _ _ _ _ _ _; simp (disch := omega) [go_sem, *, wrap64_id, upd_ne, mk3_true, flatten_replicate_one, stepK_if, ilt_true, ilt_false, ile_true, ile_false, Try.ntmps48]) | (refine wantK_split (fun hc => ?_) (fun hc => ?_) <;> (try simp only [Bool.not_eq_true', Bool.not_eq_false', Bool.not_eq_eq_eq_not, Bool.not_true, Bool.not_false, decide_eq_true_eq, decide_eq_false_iff_not, Int.not_lt, Int.not_le] at hc) <;> (try (exfalso; omega)) <;> (try simp (disch := omega) [go_sem, *, wrap64_id, upd_ne, mk3_true, flatten_replicate_one, stepK_if, ilt_true, ilt_false, ile_true, ile_false, Try.ntmps48])) | (refine ac_cond_h fun Kt Kf ht hf => ?_; simp (disch := omega) [go_sem, *, wrap64_id, upd_ne, mk3_true, flatten_replicate_one, stepK_if, ilt_true, ilt_false, ile_true, ile_false, Try.ntmps48]; try (refine ⟨fun hc => ?_, fun hc => ?_⟩ <;> try (exfalso; omega))))
      refine look_K (look_pair (by simp (disch := omega) only [upd_ne]; exact hmp.out) hx hy hxy) ?_
      repeat' (first | (refine ac_seq_h fun K hK => ?_) | (refine ac_region_h fun K hK => ?_; simp (disch := omega) [go_sem, *, upd_ne, ilt_false, ile_false]) | (refine ac_draw_h mixed (by kernel_rfl) fun K hK => ?_; simp (disch := omega) [go_sem, *, wrap64_id, upd_ne, mk3_true, flatten_replicate_one, stepK_if, ilt_true, ilt_false, ile_true, ile_false, Try.ntmps48]) | (apply Hide.out hK; clear hK K; try with_reducible dsimp only [thenA]) | (apply Hide.out ht; clear ht hf Kt Kf) | (apply Hide.out hf; clear ht hf Kt Kf) | (clear hK K; apply Hide.out hK; clear hK K; try with_reducible dsimp only [thenA]) | (clear hK K; clear hK K; apply Hide.out hK; clear hK K; try with_reducible dsimp only [thenA]) | (refine ac_block ?_) | (refine ac_skip ?_; simp only [thenA, blockA]) | (refine ac_exit ?_; simp only [thenA, blockA, if_true, if_false, Nat.reduceEqDiff]) | (with_reducible show nextK _ _ _ _ _ _ _; simp (disch := omega) [go_sem, *]) | (refine wantK_split (fun hc => ?_) (fun hc => ?_) <;> (try simp only [Bool.not_eq_true', Bool.not_eq_false', Bool.not_eq_eq_eq_not, Bool.not_true, Bool.not_false, decide_eq_true_eq, decide_eq_false_iff_not, Int.not_lt, Int.not_le] at hc) <;> (try (exfalso; omega)) <;> (try simp (disch := omega) [go_sem, *, wrap64_id, upd_ne, mk3_true, flatten_replicate_one, stepK_if, ilt_true, ilt_false, ile_true, ile_false, Try.ntmps48])) | (refine ac_cond_h fun Kt Kf ht hf => ?_; simp (disch := omega) [go_sem, *]; try (refine ⟨fun hc => ?_, fun hc => ?_⟩ <;> try (exfalso; omega))))
      refine APureAt.call (hrm.out _ (fun k hk => ?_) _) ?_
      · simp (disch := omega) only [upd_ne]
      repeat' (first | (refine ac_seq_h fun K hK => ?_) | (refine ac_region_h fun K hK => ?_; simp (disch := omega) [go_sem, *]) | (refine ac_draw_h mixed (by kernel_rfl) fun K hK => ?_; simp (disch := omega) [go_sem, *, wrap64_id, upd_ne, mk3_true, flatten_replicate_one, stepK_if, ilt_true, ilt_false, ile_true, ile_false, Try.ntmps48]) | (apply Hide.out hK; clear hK K; try with_reducible dsimp only [thenA]) | (apply Hide.out ht; clear ht hf Kt Kf) | (apply Hide.out hf; clear ht hf Kt Kf) | (clear hK K; apply Hide.out hK; clear hK K; try with_reducible dsimp only [thenA]) | (clear hK K; clear hK K; apply Hide.out hK; clear hK K; try with_reducible dsimp only [thenA]) | (refine ac_block ?_) | (refine ac_skip ?_; simp only [thenA, blockA]) | (refine ac_exit ?_; simp only [thenA, blockA, if_true, if_false, Nat.reduceEqDiff]) | (with_reducible show nextK _ _ _ _ _ _ _; simp (disch := omega) [go_sem, *]) | (refine wantK_split (fun hc => ?_) (fun hc => ?_) <;> (try simp only [Bool.not_eq_true', Bool.not_eq_false', Bool.not_eq_eq_eq_not, Bool.not_true, Bool.not_false, decide_eq_true_eq, decide_eq_false_iff_not, Int.not_lt, Int.not_le] at hc) <;> (try (exfalso; omega)) <;> (try simp (disch := omega) [go_sem, *, wrap64_id, upd_ne, mk3_true, flatten_replicate_one, stepK_if, ilt_true, ilt_false, ile_true, ile_false, Try.ntmps48])) | (refine ac_cond_h fun Kt Kf ht hf => ?_; simp (disch := omega) [go_sem, *]; try (refine ⟨fun hc => ?_, fun hc => ?_⟩ <;> try (exfalso; omega))))
      refine APureAt.call (hopn.out _ _ ?_) ?_
      · simp (disch := omega) only [upd_ne]; rw [hmm, hLL.out]
      repeat' (first | (refine ac_seq_h fun K hK => ?_) | (refine ac_region_h fun K hK => ?_; simp (disch := omega) [go_sem, *, wrap64_id, upd_ne, mk3_true, flatten_replicate_one, stepK_if, ilt_true, ilt_false, ile_true, ile_false, Try.ntmps48]) | (refine ac_draw_h mixed (by kernel_rfl) fun K hK => ?_; simp (disch := omega) [go_sem, *, wrap64_id, upd_ne]) | (apply Hide.out hK; clear hK K; try with_reducible dsimp only [thenA]) | (apply Hide.out ht; clear ht hf Kt Kf) | (apply Hide.out hf; clear ht hf Kt Kf) | (clear hK K; apply Hide.out hK; clear hK K; try with_reducible dsimp only [thenA]) | (clear hK K; clear hK K; apply Hide.out hK; clear hK K; try with_reducible dsimp only [thenA]) | (refine ac_block ?_) | (refine ac_skip ?_; simp only [thenA, blockA]) | (refine ac_exit ?_; simp only [thenA, blockA, if_true, if_false, Nat.reduceEqDiff]) | (with_reducible show nextK _ _ _ _ _ _ _; simp (disch := omega) [go_sem, *]) | (refine wantK_split (fun hc => ?_) (fun hc => ?_) <;> (try simp only [Bool.not_eq_true', Bool.not_eq_false', Bool.not_eq_eq_eq_not, Bool.not_true, Bool.not_false, decide_eq_true_eq, decide_eq_false_iff_not, Int.not_lt, Int.not_le] at hc) <;> (try (exfalso; omega)) <;> (try simp (disch := omega) [go_sem, *, wrap64_id, upd_ne, mk3_true, flatten_replicate_one, stepK_if, ilt_true, ilt_false, ile_true, ile_false, Try.ntmps48])) | (refine ac_cond_h fun Kt Kf ht hf => ?_; simp (disch := omega) [go_sem, *]; try (refine ⟨fun hc => ?_, fun hc => ?_⟩ <;> try (exfalso; omega))))
      refine ap_sv_K (by simp (disch := omega) only [upd_ne]; exact hss.out) hL1.out (by omega) ?_
      repeat' (first | (refine ac_seq_h fun K hK => ?_) | (refine ac_region_h fun K hK => ?_; simp (disch := omega) [go_sem, *, wrap64_id, upd_ne, mk3_true, flatten_replicate_one, stepK_if, ilt_true, ilt_false, ile_true, ile_false, Try.ntmps48]) | (refine ac_draw_h mixed (by kernel_rfl) fun K hK => ?_; simp (disch := omega) [go_sem, *, upd_ne]) | (apply Hide.out hK; clear hK K; try with_reducible dsimp only [thenA]) | (apply Hide.out ht; clear ht hf Kt Kf) | (apply Hide.out hf; clear ht hf Kt Kf) | (clear hK K; apply Hide.out hK; clear hK K; try with_reducible dsimp only [thenA]) | (clear hK K; clear hK K; apply Hide.out hK; clear hK K; try with_reducible dsimp only [thenA]) | (refine ac_block ?_) | (refine ac_skip ?_; simp only [thenA, blockA]) | (refine ac_exit ?_; simp only [thenA, blockA, if_true, if_false, Nat.reduceEqDiff]) | (with_reducible show nextK _ _ _ _ _ _ _; simp (disch := omega) [go_sem, *, upd_ne]) | (refine wantK_split (fun hc => ?_) (fun hc => ?_) <;> (try simp only [Bool.not_eq_true', Bool.not_eq_false', Bool.not_eq_eq_eq_not, Bool.not_true, Bool.not_false, decide_eq_true_eq, decide_eq_false_iff_not, Int.not_lt, Int.not_le] at hc) <;> (try (exfalso; omega)) <;> (try simp (disch := omega) [go_sem, *, wrap64_id, upd_ne, mk3_true, flatten_replicate_one, stepK_if, ilt_true, ilt_false, ile_true, ile_false, Try.ntmps48])) | (refine ac_cond_h fun Kt Kf ht hf => ?_; simp (disch := omega) [go_sem, *, wrap64_id, upd_ne, mk3_true, flatten_replicate_one, stepK_if, ilt_true, ilt_false, ile_true, ile_false, Try.ntmps48]; try (refine ⟨fun hc => ?_, fun hc => ?_⟩ <;> try (exfalso; omega))))
      refine put_spec (w := setT w x y ⟨(w.tk x y).said ++ [tx], (w.tk x y).heard, (w.tk x y).known, D⟩) (N := setsm N x y (n + 2 + 11 + 9 + 12 + 3 + 13 + 8)) (V := V) ?_ hl y0 hk1 [⟨0, 1, x, y, (w.tk x y).said.length + 1, tx⟩] (by simp) _ _ 6 (fun _ => rfl) _ ?_ _ (fun h' n' T => ?_)
      · refine WRep.setT R.out hx hy hxy ?_ ?_ (fun s hs s1 s2 => ?_) (.inr fun s hs => ?_)
        · simp (disch := omega) only [upd_same]
          rw [hD.out]
          simp [cellsTalk, acV_ne]
        · simp (disch := omega) only [upd_ne, upd_same]
          rw [hLL.out]
          simp
        · have := hown.out _ ⟨s, hs, rfl⟩
          have j1 : N s ≠ N (.nm x y) := fun e => s1 (R.out.inj s _ hs ⟨hx, hy, hxy⟩ e)
          have j2 : N s ≠ N (.sm x y) := fun e => s2 (R.out.inj s _ hs ⟨hx, hy, hxy⟩ e)
          simp (disch := omega) only [upd_ne]
        · have := hown.out _ ⟨s, hs, rfl⟩
          omega
      · intro k hk
        rcases own_setsm hk with h1 | h1
        · have := hown.out _ h1; omega
        · omega
      have hl1 := T.le
      replace T : Hide _ := T
      repeat' (first | (refine ac_seq_h fun K hK => ?_) | (refine ac_region_h fun K hK => ?_; simp (disch := omega) [go_sem, *]) | (refine ac_draw_h mixed (by kernel_rfl) fun K hK => ?_; simp (disch := omega) [go_sem, *, wrap64_id, upd_ne, mk3_true, flatten_replicate_one, stepK_if, ilt_true, ilt_false, ile_true, ile_false, Try.ntmps48]) | (apply Hide.out hK; clear hK K; try with_reducible dsimp only [thenA]) | (apply Hide.out ht; clear ht hf Kt Kf) | (apply Hide.out hf; clear ht hf Kt Kf) | (clear hK K; apply Hide.out hK; clear hK K; try with_reducible dsimp only [thenA]) | (clear hK K; clear hK K; apply Hide.out hK; clear hK K; try with_reducible dsimp only [thenA]) | (refine ac_block ?_) | (refine ac_skip ?_; simp only [thenA, blockA]) | (refine ac_exit ?_; simp only [thenA, blockA, if_true, if_false, Nat.reduceEqDiff]) | (with_reducible show nextK _ _ _ _ _ _ _; simp (disch := omega) [go_sem, *, wrap64_id, upd_ne, mk3_true, flatten_replicate_one, stepK_if, ilt_true, ilt_false, ile_true, ile_false, Try.ntmps48]) | (refine wantK_split (fun hc => ?_) (fun hc => ?_) <;> (try simp only [Bool.not_eq_true', Bool.not_eq_false', Bool.not_eq_eq_eq_not, Bool.not_true, Bool.not_false, decide_eq_true_eq, decide_eq_false_iff_not, Int.not_lt, Int.not_le] at hc) <;> (try (exfalso; omega)) <;> (try simp (disch := omega) [go_sem, *, wrap64_id, upd_ne, mk3_true, flatten_replicate_one, stepK_if, ilt_true, ilt_false, ile_true, ile_false, Try.ntmps48])) | (refine ac_cond_h fun Kt Kf ht hf => ?_; simp (disch := omega) [go_sem, *, wrap64_id, upd_ne, mk3_true, flatten_replicate_one, stepK_if, ilt_true, ilt_false, ile_true, ile_false, Try.ntmps48]; try (refine ⟨fun hc => ?_, fun hc => ?_⟩ <;> try (exfalso; omega))))
      refine ac_ret ?_
      refine ⟨by simp, _, (by simp (disch := omega) [go_sem] <;> rfl), ?_⟩
      refine ret_id ?_
      have := hK0.out
      rw [hL.out] at this
      refine this _ _ (WTurn.trans (N1 := setsm N x y (n + 2 + 11 + 9 + 12 + 3 + 13 + 8)) ⟨rfl, rfl, fun _ _ => rfl⟩ (fun k hk => ?_) ?_ (fun k hk hk2 => ?_) (WTurn.grow T.out ?_))
      · rcases own_setsm hk with h1 | h1
        · exact .inl h1
        · exact .inr (by omega)
      · omega
      rotate_left
      · simp only; omega
      · have j1 : k ≠ N (.nm x y) := fun e => hk2 ⟨.nm x y, ⟨hx, hy, hxy⟩, e.symm⟩
        have j2 : k ≠ N (.sm x y) := fun e => hk2 ⟨.sm x y, ⟨hx, hy, hxy⟩, e.symm⟩
        simp (disch := omega) only [upd_ne]
    · rw [if_neg c4] at hD
      repeat' (first | (refine ac_seq_h fun K hK => ?_) | (refine ac_region_h fun K hK => ?_; simp (disch := omega) [go_sem, *, Try.ntmps48]) | (refine ac_draw_h mixed (by kernel_rfl) fun K hK => ?_; simp (disch := omega) [go_sem, *, upd_ne]) | (apply Hide.out hK; clear hK K; try with_reducible dsimp only [thenA]) | (apply Hide.out ht; clear ht hf Kt Kf) | (apply Hide.out hf; clear ht hf Kt Kf) | (clear hK K; apply Hide.out hK; clear hK K; try with_reducible dsimp only [thenA]) | (clear hK K; clear hK K; apply Hide.out hK; clear hK K; try with_reducible dsimp only [thenA]) | (refine ac_block ?_) | (refine ac_skip ?_; simp only [thenA, blockA]) | (refine ac_exit ?_; simp only [thenA, blockA, if_true, if_false, Nat.reduceEqDiff]) | (with_reducible show nextK _ _ _ _ _ _ _; simp (disch := omega) [go_sem, *, wrap64_id, upd_ne, mk3_true, flatten_replicate_one, stepK_if, ilt_true, ilt_false, ile_true, ile_false, Try.ntmps48]) | (refine wantK_split (fun hc => ?_) (fun hc => ?_) <;> (try simp only [Bool.not_eq_true', Bool.not_eq_false', Bool.not_eq_eq_eq_not, Bool.not_true, Bool.not_false, decide_eq_true_eq, decide_eq_false_iff_not, Int.not_lt, Int.not_le] at hc) <;> (try (exfalso; omega)) <;> (try simp (disch := omega) [go_sem, *, wrap64_id, upd_ne, mk3_true, flatten_replicate_one, stepK_if, ilt_true, ilt_false, ile_true, ile_false, Try.ntmps48])) | (refine ac_cond_h fun Kt Kf ht hf => ?_; simp (disch := omega) [go_sem, *, wrap64_id, upd_ne, mk3_true, flatten_replicate_one, stepK_if, ilt_true, ilt_false, ile_true, ile_false, Try.ntmps48]; try (refine ⟨fun hc => ?_, fun hc => ?_⟩ <;> try (exfalso; omega))))
      refine look_K (look_pair (by simp (disch := omega) only [upd_ne]; exact hmp.out) hx hy hxy) ?_
      repeat' (first | (refine ac_seq_h fun K hK => ?_) | (refine ac_region_h fun K hK => ?_; simp (disch := omega) [go_sem, *, upd_ne, ilt_false, ile_false]) | (refine ac_draw_h mixed (by kernel_rfl) fun K hK => ?_; simp (disch := omega) [go_sem, *, wrap64_id, upd_ne, mk3_true, flatten_replicate_one, stepK_if, ilt_true, ilt_false, ile_true, ile_false, Try.ntmps48]) | (apply Hide.out hK; clear hK K; try with_reducible dsimp only [thenA]) | (apply Hide.out ht; clear ht hf Kt Kf) | (apply Hide.out hf; clear ht hf Kt Kf) | (clear hK K; apply Hide.out hK; clear hK K; try with_reducible dsimp only [thenA]) | (clear hK K; clear hK K; apply Hide.out hK; clear hK K; try with_reducible dsimp only [thenA]) | (refine ac_block ?_) | (refine ac_skip ?_; simp only [thenA, blockA]) | (refine ac_exit ?_; simp only [thenA, blockA, if_true, if_false, Nat.reduceEqDiff]) | (with_reducible show nextK _ _ _ _ _ _ _; simp (disch := omega) [go_sem, *]) | (refine wantK_split (fun hc => ?_) (fun hc => ?_) <;> (try simp only [Bool.not_eq_true', Bool.not_eq_false', Bool.not_eq_eq_eq_not, Bool.not_true, Bool.not_false, decide_eq_true_eq, decide_eq_false_iff_not, Int.not_lt, Int.not_le] at hc) <;> (try (exfalso; omega)) <;> (try simp (disch := omega) [go_sem, *, wrap64_id, upd_ne, mk3_true, flatten_replicate_one, stepK_if, ilt_true, ilt_false, ile_true, ile_false, Try.ntmps48])) | (refine ac_cond_h fun Kt Kf ht hf => ?_; simp (disch := omega) [go_sem, *]; try (refine ⟨fun hc => ?_, fun hc => ?_⟩ <;> try (exfalso; omega))))
      refine APureAt.call (hrm.out _ (fun k hk => ?_) _) ?_
      · simp (disch := omega) only [upd_ne]
      repeat' (first | (refine ac_seq_h fun K hK => ?_) | (refine ac_region_h fun K hK => ?_; simp (disch := omega) [go_sem, *]) | (refine ac_draw_h mixed (by kernel_rfl) fun K hK => ?_; simp (disch := omega) [go_sem, *, wrap64_id, upd_ne, mk3_true, flatten_replicate_one, stepK_if, ilt_true, ilt_false, ile_true, ile_false, Try.ntmps48]) | (apply Hide.out hK; clear hK K; try with_reducible dsimp only [thenA]) | (apply Hide.out ht; clear ht hf Kt Kf) | (apply Hide.out hf; clear ht hf Kt Kf) | (clear hK K; apply Hide.out hK; clear hK K; try with_reducible dsimp only [thenA]) | (clear hK K; clear hK K; apply Hide.out hK; clear hK K; try with_reducible dsimp only [thenA]) | (refine ac_block ?_) | (refine ac_skip ?_; simp only [thenA, blockA]) | (refine ac_exit ?_; simp only [thenA, blockA, if_true, if_false, Nat.reduceEqDiff]) | (with_reducible show nextK _ _ _ _ _ _ _; simp (disch := omega) [go_sem, *]) | (refine wantK_split (fun hc => ?_) (fun hc => ?_) <;> (try simp only [Bool.not_eq_true', Bool.not_eq_false', Bool.not_eq_eq_eq_not, Bool.not_true, Bool.not_false, decide_eq_true_eq, decide_eq_false_iff_not, Int.not_lt, Int.not_le] at hc) <;> (try (exfalso; omega)) <;> (try simp (disch := omega) [go_sem, *, wrap64_id, upd_ne, mk3_true, flatten_replicate_one, stepK_if, ilt_true, ilt_false, ile_true, ile_false, Try.ntmps48])) | (refine ac_cond_h fun Kt Kf ht hf => ?_; simp (disch := omega) [go_sem, *]; try (refine ⟨fun hc => ?_, fun hc => ?_⟩ <;> try (exfalso; omega))))
      refine APureAt.call (hopn.out _ _ ?_) ?_
      · simp (disch := omega) only [upd_ne]; rw [hmm, hLL.out]
      repeat' (first | (refine ac_seq_h fun K hK => ?_) | (refine ac_region_h fun K hK => ?_; simp (disch := omega) [go_sem, *, wrap64_id, upd_ne, mk3_true, flatten_replicate_one, stepK_if, ilt_true, ilt_false, ile_true, ile_false, Try.ntmps48]) | (refine ac_draw_h mixed (by kernel_rfl) fun K hK => ?_; simp (disch := omega) [go_sem, *, upd_ne]) | (apply Hide.out hK; clear hK K; try with_reducible dsimp only [thenA]) | (apply Hide.out ht; clear ht hf Kt Kf) | (apply Hide.out hf; clear ht hf Kt Kf) | (clear hK K; apply Hide.out hK; clear hK K; try with_reducible dsimp only [thenA]) | (clear hK K; clear hK K; apply Hide.out hK; clear hK K; try with_reducible dsimp only [thenA]) | (refine ac_block ?_) | (refine ac_skip ?_; simp only [thenA]) | (refine ac_exit ?_; simp only [thenA, blockA, if_true, if_false, Nat.reduceEqDiff]) | (with_reducible show nextK _ _ _ _ _ _ _; simp (disch := omega) [go_sem, *]) | (refine wantK_split (fun hc => ?_) (fun hc => ?_) <;> (try simp only [Bool.not_eq_true', Bool.not_eq_false', Bool.not_eq_eq_eq_not, Bool.not_true, Bool.not_false, decide_eq_true_eq, decide_eq_false_iff_not, Int.not_lt, Int.not_le] at hc) <;> (try (exfalso; omega)) <;> (try simp (disch := omega) [go_sem, *, wrap64_id, upd_ne, mk3_true, flatten_replicate_one, stepK_if, ilt_true, ilt_false, ile_true, ile_false, Try.ntmps48])) | (refine ac_cond_h fun Kt Kf ht hf => ?_; simp (disch := omega) [go_sem, *]; try (refine ⟨fun hc => ?_, fun hc => ?_⟩ <;> try (exfalso; omega))))
      refine ap_sv_K (by simp (disch := omega) only [upd_ne]; exact hss.out) hL1.out (by omega) ?_
      repeat' (first | (refine ac_seq_h fun K hK => ?_) | (refine ac_region_h fun K hK => ?_; simp (disch := omega) [go_sem, *, wrap64_id, upd_ne, mk3_true, flatten_replicate_one, stepK_if, ilt_true, ilt_false, ile_true, ile_false, Try.ntmps48]) | (refine ac_draw_h mixed (by kernel_rfl) fun K hK => ?_; simp (disch := omega) [go_sem, *, upd_ne]) | (apply Hide.out hK; clear hK K; try with_reducible dsimp only [thenA]) | (apply Hide.out ht; clear ht hf Kt Kf) | (apply Hide.out hf; clear ht hf Kt Kf) | (clear hK K; apply Hide.out hK; clear hK K; try with_reducible dsimp only [thenA]) | (clear hK K; clear hK K; apply Hide.out hK; clear hK K; try with_reducible dsimp only [thenA]) | (refine ac_block ?_) | (refine ac_skip ?_; simp only [thenA, blockA]) | (refine ac_exit ?_; simp only [thenA, blockA, if_true, if_false, Nat.reduceEqDiff]) | (with_reducible show nextK _ _ _ _ _ _ _; simp (disch := omega) [go_sem, *, upd_ne]) | (refine wantK_split (fun hc => ?_) (fun hc => ?_) <;> (try simp only [Bool.not_eq_true', Bool.not_eq_false', Bool.not_eq_eq_eq_not, Bool.not_true, Bool.not_false, decide_eq_true_eq, decide_eq_false_iff_not, Int.not_lt, Int.not_le] at hc) <;> (try (exfalso; omega)) <;> (try simp (disch := omega) [go_sem, *, wrap64_id, upd_ne, mk3_true, flatten_replicate_one, stepK_if, ilt_true, ilt_false, ile_true, ile_false, Try.ntmps48])) | (refine ac_cond_h fun Kt Kf ht hf => ?_; simp (disch := omega) [go_sem, *, wrap64_id, upd_ne, mk3_true, flatten_replicate_one, stepK_if, ilt_true, ilt_false, ile_true, ile_false, Try.ntmps48]; try (refine ⟨fun hc => ?_, fun hc => ?_⟩ <;> try (exfalso; omega))))
      refine put_spec (w := setT w x y ⟨(w.tk x y).said ++ [tx], (w.tk x y).heard, (w.tk x y).known, D⟩) (N := setsm N x y (n + 2 + 11 + 9 + 12 + 3 + 8)) (V := V) ?_ hl y0 hk1 [⟨0, 1, x, y, (w.tk x y).said.length + 1, tx⟩] (by simp) _ _ 6 (fun _ => rfl) _ ?_ _ (fun h' n' T => ?_)
      · refine WRep.setT R.out hx hy hxy ?_ ?_ (fun s hs s1 s2 => ?_) (.inr fun s hs => ?_)
        · simp (disch := omega) only [upd_same]
          rw [hD.out]
          simp [cellsTalk, acV_ne]
        · simp (disch := omega) only [upd_ne, upd_same]
          rw [hLL.out]
          simp
        · have := hown.out _ ⟨s, hs, rfl⟩
          have j1 : N s ≠ N (.nm x y) := fun e => s1 (R.out.inj s _ hs ⟨hx, hy, hxy⟩ e)
          have j2 : N s ≠ N (.sm x y) := fun e => s2 (R.out.inj s _ hs ⟨hx, hy, hxy⟩ e)
          simp (disch := omega) only [upd_ne]
        · have := hown.out _ ⟨s, hs, rfl⟩
          omega
      · intro k hk
        rcases own_setsm hk with h1 | h1
        · have := hown.out _ h1; omega
        · omega
      have hl1 := T.le
      replace T : Hide _ := T
      repeat' (first | (refine ac_seq_h fun K hK => ?_) | (refine ac_region_h fun K hK => ?_; simp (disch := omega) [go_sem, *]) | (refine ac_draw_h mixed (by kernel_rfl) fun K hK => ?_; simp (disch := omega) [go_sem, *, wrap64_id, upd_ne, mk3_true, flatten_replicate_one, stepK_if, ilt_true, ilt_false, ile_true, ile_false, Try.ntmps48]) | (apply Hide.out hK; clear hK K; try with_reducible dsimp only [thenA]) | (apply Hide.out ht; clear ht hf Kt Kf) | (apply Hide.out hf; clear ht hf Kt Kf) | (clear hK K; apply Hide.out hK; clear hK K; try with_reducible dsimp only [thenA]) | (clear hK K; clear hK K; apply Hide.out hK; clear hK K; try with_reducible dsimp only [thenA]) | (refine ac_block ?_) | (refine ac_skip ?_; simp only [thenA, blockA]) | (refine ac_exit ?_; simp only [thenA, blockA, if_true, if_false, Nat.reduceEqDiff]) | (with_reducible show nextK _ _ _ _ _ _ _; simp (disch := omega) [go_sem, *, wrap64_id, upd_ne, mk3_true, flatten_replicate_one, stepK_if, ilt_true, ilt_false, ile_true, ile_false, Try.ntmps48]) | (refine wantK_split (fun hc => ?_) (fun hc => ?_) <;> (try simp only [Bool.not_eq_true', Bool.not_eq_false', Bool.not_eq_eq_eq_not, Bool.not_true, Bool.not_false, decide_eq_true_eq, decide_eq_false_iff_not, Int.not_lt, Int.not_le] at hc) <;> (try (exfalso; omega)) <;> (try simp (disch := omega) [go_sem, *, wrap64_id, upd_ne, mk3_true, flatten_replicate_one, stepK_if, ilt_true, ilt_false, ile_true, ile_false, Try.ntmps48])) | (refine ac_cond_h fun Kt Kf ht hf => ?_; simp (disch := omega) [go_sem, *, wrap64_id, upd_ne, mk3_true, flatten_replicate_one, stepK_if, ilt_true, ilt_false, ile_true, ile_false, Try.ntmps48]; try (refine ⟨fun hc => ?_, fun hc => ?_⟩ <;> try (exfalso; omega))))
      refine ac_ret ?_
      refine ⟨by simp, _, (by simp (disch := omega) [go_sem] <;> rfl), ?_⟩
      refine ret_id ?_
      have := hK0.out
      rw [hL.out] at this
      refine this _ _ (WTurn.trans (N1 := setsm N x y (n + 2 + 11 + 9 + 12 + 3 + 8)) ⟨rfl, rfl, fun _ _ => rfl⟩ (fun k hk => ?_) ?_ (fun k hk hk2 => ?_) (WTurn.grow T.out ?_))
      · rcases own_setsm hk with h1 | h1
        · exact .inl h1
        · exact .inr (by omega)
      · omega
      rotate_left
      · simp only; omega
      · have j1 : k ≠ N (.nm x y) := fun e => hk2 ⟨.nm x y, ⟨hx, hy, hxy⟩, e.symm⟩
        have j2 : k ≠ N (.sm x y) := fun e => hk2 ⟨.sm x y, ⟨hx, hy, hxy⟩, e.symm⟩
        simp (disch := omega) only [upd_ne]
end Go.AM

namespace Go.AM
open Go.Proofs Wl
set_option maxRecDepth 10000
set_option maxHeartbeats 4000000
theorem deliverW_go {w : Wd} {id : Int} {i : Nat} {m : Mail} (h1 : findM w id = some i) (h2 : w.mails[i]? = some m) : deliverW w id = (arrive { w with mails := w.mails.eraseIdx i } m, 0) := by
  unfold deliverW
  rw [h1]
  simp only [h2]
theorem arrive_word1 {w : Wd} {x y : Nat} {mi : Int} {mx : ByteArray} : arrive w ⟨mi, 1, x, y, (w.tk x y).heard + 1, mx⟩ = putW (setT w x y ⟨(w.tk x y).said, (w.tk x y).heard + 1, (w.tk x y).known, (w.tk x y).due⟩) [⟨0, 2, y, x, (w.tk x y).heard + 1 + 1, ByteArray.empty⟩] := by
  simp [arrive]
theorem arrive_word2 {w : Wd} {x y : Nat} {mi mn : Int} {mx : ByteArray} (hn : mn ≠ (w.tk x y).heard + 1) : arrive w ⟨mi, 1, x, y, mn, mx⟩ = putW w [⟨0, 2, y, x, (w.tk x y).heard + 1, ByteArray.empty⟩] := by
  simp [arrive, hn]
theorem arrive_rc1 {w : Wd} {x y : Nat} {mi mn : Int} {mx : ByteArray} (hn : mn - 1 > (w.tk y x).known) : arrive w ⟨mi, 2, x, y, mn, mx⟩ = setT w y x ⟨(w.tk y x).said, (w.tk y x).heard, mn - 1, w.tick + w.wait⟩ := by
  simp [arrive]
  omega
theorem arrive_rc2 {w : Wd} {x y : Nat} {mi mn : Int} {mx : ByteArray} (hn : ¬ mn - 1 > (w.tk y x).known) : arrive w ⟨mi, 2, x, y, mn, mx⟩ = w := by
  simp [arrive]
  omega
theorem deliver_spec {w : Wd} {N : Sl → Nat} {V : AV} {h : AHeap} (R : WRep w N V h) (hw : Wok w) (hk1 : w.last ≤ 1000000000000) (s : Step) (n : Nat) (hown : ∀ k, own w.st N k → k < n) (K0 : AV → AHeap → Nat → Prop)
    (hK0 : ∀ h' n', WTurn w N h n (deliverW w s.n).1 h' n' → K0 (iv .i64 (deliverW w s.n).2) h' n') : ACalls Try.prog 51 [.ptr (N .p) 0, encStep s] h n K0 := by
  refine ACalls.entry (by kernel_rfl) fun hb _ => calls_of Try.func51 rfl (by kernel_rfl) (by simp [Try.ntmps51]) ?_
  have hl := hw.ml
  have hR1 : Hide (∀ H : AHeap, (∀ k, k < n → H k = h k) → WRep w N V H) := fun H hH => R.congr fun k hk => hH k (hown k hk)
  replace hK0 : Hide _ := hK0; replace hown : Hide _ := hown; replace R : Hide _ := R; replace hw : Hide _ := hw
  repeat' (first | (refine ac_seq_h fun K hK => ?_) | (refine ac_region_h fun K hK => ?_; simp (disch := omega) [go_sem, *, Try.ntmps51]) | (refine ac_draw_h mixed (by kernel_rfl) fun K hK => ?_; simp (disch := omega) [go_sem, *, wrap64_id, upd_ne, mk3_true, flatten_replicate_one, stepK_if, ilt_true, ilt_false, ile_true, ile_false, Try.ntmps51]) | (apply Hide.out hK; clear hK K; try with_reducible dsimp only [thenA]) | (apply Hide.out ht; clear ht hf Kt Kf) | (apply Hide.out hf; clear ht hf Kt Kf) | (clear hK K; apply Hide.out hK; clear hK K; try with_reducible dsimp only [thenA]) | (clear hK K; clear hK K; apply Hide.out hK; clear hK K; try with_reducible dsimp only [thenA]) | (refine ac_block ?_) | (refine ac_skip ?_; simp only [thenA, blockA]) | (refine ac_exit ?_; simp only [thenA, blockA, if_true, if_false, Nat.reduceEqDiff]) | (with_reducible show nextK _ _ _ _ _ _ _; simp (disch := omega) [go_sem, *, wrap64_id, upd_ne, mk3_true, flatten_replicate_one, stepK_if, ilt_true, ilt_false, ile_true, ile_false, Try.ntmps51]) | (refine wantK_split (fun hc => ?_) (fun hc => ?_) <;> (try simp only [Bool.not_eq_true', Bool.not_eq_false', Bool.not_eq_eq_eq_not, Bool.not_true, Bool.not_false, decide_eq_true_eq, decide_eq_false_iff_not, Int.not_lt, Int.not_le] at hc) <;> (try (exfalso; omega)) <;> (try simp (disch := omega) [go_sem, *, wrap64_id, upd_ne, mk3_true, flatten_replicate_one, stepK_if, ilt_true, ilt_false, ile_true, ile_false, Try.ntmps51])) | (refine ac_cond_h fun Kt Kf ht hf => ?_; simp (disch := omega) [go_sem, *, wrap64_id, upd_ne, mk3_true, flatten_replicate_one, stepK_if, ilt_true, ilt_false, ile_true, ile_false, Try.ntmps51]; try (refine ⟨fun hc => ?_, fun hc => ?_⟩ <;> try (exfalso; omega))))
  refine take_spec (hR1.out _ fun k hk => ?_) hl s.n _ (fun k hk => ?_) _ (fun hn0 h' n' T => ?_) (fun i m hi hm h' n' T => ?_)
  · simp (disch := omega) only [upd_ne]
  · have := hown.out k hk; omega
  · have hl1 := T.le
    have hL : Hide (deliverW w s.n = (w, 5)) := by rw [Hide, deliverW, hn0]
    replace T : Hide _ := T
    repeat' (first | (refine ac_seq_h fun K hK => ?_) | (refine ac_region_h fun K hK => ?_; simp (disch := omega) [go_sem, *]) | (refine ac_draw_h mixed (by kernel_rfl) fun K hK => ?_; simp (disch := omega) [go_sem, *, wrap64_id, upd_ne, mk3_true, flatten_replicate_one, stepK_if, ilt_true, ilt_false, ile_true, ile_false, Try.ntmps51]) | (apply Hide.out hK; clear hK K; try with_reducible dsimp only [thenA]) | (apply Hide.out ht; clear ht hf Kt Kf) | (apply Hide.out hf; clear ht hf Kt Kf) | (clear hK K; apply Hide.out hK; clear hK K; try with_reducible dsimp only [thenA]) | (clear hK K; clear hK K; apply Hide.out hK; clear hK K; try with_reducible dsimp only [thenA]) | (refine ac_block ?_) | (refine ac_skip ?_; simp only [thenA, blockA]) | (refine ac_exit ?_; simp only [thenA, blockA, if_true, if_false, Nat.reduceEqDiff]) | (with_reducible show nextK _ _ _ _ _ _ _; simp (disch := omega) [go_sem, *]) | (refine wantK_split (fun hc => ?_) (fun hc => ?_) <;> (try simp only [Bool.not_eq_true', Bool.not_eq_false', Bool.not_eq_eq_eq_not, Bool.not_true, Bool.not_false, decide_eq_true_eq, decide_eq_false_iff_not, Int.not_lt, Int.not_le] at hc) <;> (try (exfalso; omega)) <;> (try simp (disch := omega) [go_sem, *, wrap64_id, upd_ne, mk3_true, flatten_replicate_one, stepK_if, ilt_true, ilt_false, ile_true, ile_false, Try.ntmps51])) | (refine ac_cond_h fun Kt Kf ht hf => ?_; simp (disch := omega) [go_sem, *]; try (refine ⟨fun hc => ?_, fun hc => ?_⟩ <;> try (exfalso; omega))))
    refine ac_ret ?_
    refine ⟨by simp, _, (by simp (disch := omega) [go_sem] <;> rfl), ?_⟩
    refine ret_id ?_
    have := hK0.out
    rw [hL.out] at this
    refine this _ _ (WTurn.wrap (by omega) (fun k hk => ?_) T.out hown.out ?_ (fun k hk hk2 => ?_))
    · rw [upd_ne _ _ _ _ (by omega)]
    · simp only; omega
    · simp (disch := omega) only [upd_ne]
  · have hl1 := T.le
    have hL : Hide (deliverW w s.n = (arrive { w with mails := w.mails.eraseIdx i } m, 0)) := deliverW_go hi hm
    have hM : MOk w m := hw.out.ms m (List.mem_of_getElem? hm)
    have hw1 : Hide (Wok { w with mails := w.mails.eraseIdx i }) := hw.out.drop i
    obtain ⟨x, y, hx, hy, hxy, e1, e2⟩ := pair_iff.1 hM.1
    obtain ⟨w1, hw1e⟩ : ∃ w1 : Wd, Hide (w1 = { w with mails := w.mails.eraseIdx i }) := ⟨_, rfl⟩
    obtain ⟨N1, V1, R1, p1x, o1, l1, f1⟩ := T
    have p1 := p1x.1
    rw [← hw1e.out] at R1 hL hw1 o1
    have t1 : w1.tk = w.tk := by rw [hw1e.out]
    have t2 : w1.st = w.st := by rw [hw1e.out]
    have t3 : w1.tick = w.tick := by rw [hw1e.out]
    have t4 : w1.wait = w.wait := by rw [hw1e.out]
    have t5 : w1.last = w.last := by rw [hw1e.out]
    obtain ⟨mi, mk, mf, mt, mn, mx⟩ := m
    simp only at e1 e2
    subst e1 e2
    have hp1 := R1.hd
    rw [p1] at hp1
    have hmp1 := R1.mp
    have ho2 : Hide (∀ s : Sl, s.ok w.st → (N1 s < n ∨ n + 2 + 10 ≤ N1 s) ∧ N1 s < n') := fun s hs => by
      obtain ⟨a1, a2⟩ := o1 _ ⟨s, by rw [t2]; exact hs, rfl⟩
      refine ⟨?_, a2⟩
      rcases a1 with a1 | a1
      · exact .inl (hown.out _ a1)
      · exact .inr a1
    have q0 := ho2.out .p trivial
    rw [p1] at q0
    have hpn := hown.out _ ⟨.p, trivial, rfl⟩
    have q1 := ho2.out .map trivial
    have f2 : Hide (∀ k, k < n → ¬ own w.st N k → h' k = h k) := fun k hk hk2 => by
      rw [f1 k (by omega) hk2]; simp (disch := omega) only [upd_ne]
    have ho3 : Hide (∀ k, own w1.st N1 k → own w.st N k ∨ n ≤ k) := fun k hk => (o1 k hk).1.imp id (by omega)
    replace o1 : Hide _ := o1; replace f1 : Hide _ := f1; replace hmp1 : Hide _ := hmp1; replace hm : Hide _ := hm; replace hi : Hide _ := hi
    obtain ⟨_, hM2⟩ := hM
    simp only [Int.toNat_natCast] at hM2
    have y1 := hw.out.t0; have y2 := hw.out.t1; have y3 := hw.out.w0; have y4 := hw.out.w1
    have y0 := hw1.out.l0
    rw [← t3] at y1 y2
    rw [← t4] at y3 y4
    rw [← t5] at hk1
    rw [t2] at hmp1
    replace t2 : Hide _ := t2; replace t3 : Hide _ := t3; replace t4 : Hide _ := t4; replace t5 : Hide _ := t5
    rcases hM2 with ⟨rfl, k1, k2⟩ | ⟨rfl, k1, k2⟩
    · have q2 := ho2.out (.nm x y) ⟨hx, hy, hxy⟩
      have q3 := ho2.out (.sm x y) ⟨hx, hy, hxy⟩
      have hmm := R1.tks x y (by rw [t2.out]; exact hx) (by rw [t2.out]; exact hy) hxy
      have hss := R1.sds x y (by rw [t2.out]; exact hx) (by rw [t2.out]; exact hy) hxy
      have i1 : N .p ≠ N1 (.nm x y) := fun e => by rw [← p1] at e; have := R1.inj .p (.nm x y) trivial ⟨by rw [t2.out]; exact hx, by rw [t2.out]; exact hy, hxy⟩ e; cases this
      have hT := hw1.out.tk x y
      have z1 := hT.k0; have z2 := hT.kh; have z3 := hT.hs; have z4 := hT.sl
      rw [t1] at hmm hss hT z1 z2 z3 z4
      replace hss : Hide _ := hss; replace hT : Hide _ := hT; replace R1 : Hide _ := R1; replace t1 : Hide _ := t1
      obtain ⟨L, hLL⟩ : ∃ L, Hide (L = (w.tk x y).said.map sv) := ⟨_, rfl⟩
      simp only [cellsTalk, ← hLL.out] at hmm
      by_cases c1 : mn = (w.tk x y).heard + 1
      · subst c1
        rw [← t1.out, arrive_word1, t1.out] at hL
        repeat' (first | (refine ac_seq_h fun K hK => ?_) | (refine ac_region_h fun K hK => ?_; simp (disch := omega) [go_sem, *]) | (refine ac_draw_h mixed (by kernel_rfl) fun K hK => ?_; simp (disch := omega) [go_sem, *, upd_ne]) | (apply Hide.out hK; clear hK K; try with_reducible dsimp only [thenA]) | (apply Hide.out ht; clear ht hf Kt Kf) | (apply Hide.out hf; clear ht hf Kt Kf) | (clear hK K; apply Hide.out hK; clear hK K; try with_reducible dsimp only [thenA]) | (clear hK K; clear hK K; apply Hide.out hK; clear hK K; try with_reducible dsimp only [thenA]) | (refine ac_block ?_) | (refine ac_skip ?_; simp only [thenA]) | (refine ac_exit ?_; simp only [thenA, blockA, if_true, if_false, Nat.reduceEqDiff]) | (with_reducible show nextK _ _ _ _ _ _ _; simp (disch := omega) [go_sem, *]) | (refine wantK_split (fun hc => ?_) (fun hc => ?_) <;> (try simp only [Bool.not_eq_true', Bool.not_eq_false', Bool.not_eq_eq_eq_not, Bool.not_true, Bool.not_false, decide_eq_true_eq, decide_eq_false_iff_not, Int.not_lt, Int.not_le] at hc) <;> (try (exfalso; omega)) <;> (try simp (disch := omega) [go_sem, *, wrap64_id, upd_ne, mk3_true, flatten_replicate_one, stepK_if, ilt_true, ilt_false, ile_true, ile_false, Try.ntmps51])) | (refine ac_cond_h fun Kt Kf ht hf => ?_; simp (disch := omega) [go_sem, *]; try (refine ⟨fun hc => ?_, fun hc => ?_⟩ <;> try (exfalso; omega))))
        refine look_K (look_pair (by simp (disch := omega) only [upd_ne]; exact hmp1.out) hx hy hxy) ?_
        repeat' (first | (refine ac_seq_h fun K hK => ?_) | (refine ac_region_h fun K hK => ?_; simp (disch := omega) [go_sem, *, wrap64_id, upd_ne]) | (refine ac_draw_h mixed (by kernel_rfl) fun K hK => ?_; simp (disch := omega) [go_sem, *, wrap64_id, upd_ne]) | (apply Hide.out hK; clear hK K; try with_reducible dsimp only [thenA]) | (apply Hide.out ht; clear ht hf Kt Kf) | (apply Hide.out hf; clear ht hf Kt Kf) | (clear hK K; apply Hide.out hK; clear hK K; try with_reducible dsimp only [thenA]) | (clear hK K; clear hK K; apply Hide.out hK; clear hK K; try with_reducible dsimp only [thenA]) | (refine ac_block ?_) | (refine ac_skip ?_; simp only [thenA, blockA]) | (refine ac_exit ?_; simp only [thenA, blockA, if_true, if_false, Nat.reduceEqDiff]) | (with_reducible show nextK _ _ _ _ _ _ _; simp (disch := omega) [go_sem, *]) | (refine wantK_split (fun hc => ?_) (fun hc => ?_) <;> (try simp only [Bool.not_eq_true', Bool.not_eq_false', Bool.not_eq_eq_eq_not, Bool.not_true, Bool.not_false, decide_eq_true_eq, decide_eq_false_iff_not, Int.not_lt, Int.not_le] at hc) <;> (try (exfalso; omega)) <;> (try simp (disch := omega) [go_sem, *, wrap64_id, upd_ne, mk3_true, flatten_replicate_one, stepK_if, ilt_true, ilt_false, ile_true, ile_false, Try.ntmps51])) | (refine ac_cond_h fun Kt Kf ht hf => ?_; simp (disch := omega) [go_sem, *]; try (refine ⟨fun hc => ?_, fun hc => ?_⟩ <;> try (exfalso; omega))))
        rw [← p1]
        refine put_spec (w := setT w1 x y ⟨(w.tk x y).said, (w.tk x y).heard + 1, (w.tk x y).known, (w.tk x y).due⟩) (N := N1) (V := V1) ?_ hw1.out.ml y0 hk1 [⟨0, 2, y, x, (w.tk x y).heard + 1 + 1, ByteArray.empty⟩] (by simp) _ _ 6 (fun _ => rfl) _ ?_ _ (fun h2 n2 T => ?_)
        · have h1 := R1.out.setT (h' := ((h'.upd (n + 2 + 7) (some (.cells zMail))).upd (n + 2 + 7) (some (cellsMail ⟨mi, 1, x, y, (w.tk x y).heard + 1, mx⟩))).upd (N1 (.nm x y)) (some (cellsTalk (N1 (.sm x y)) ⟨(w.tk x y).said, (w.tk x y).heard + 1, (w.tk x y).known, (w.tk x y).due⟩))) (t := ⟨(w.tk x y).said, (w.tk x y).heard + 1, (w.tk x y).known, (w.tk x y).due⟩) (m := N1 (.sm x y)) (by rw [t2.out]; exact hx) (by rw [t2.out]; exact hy) hxy (upd_same _ _ _) ?_ (fun s hs s1 s2 => ?_) (.inl rfl)
          · rw [setsm_id] at h1
            simp only [cellsTalk, ← hLL.out] at h1
            exact h1
          · have j1 : N1 (.sm x y) ≠ N1 (.nm x y) := fun e => by have := R1.out.inj (.sm x y) (.nm x y) ⟨by rw [t2.out]; exact hx, by rw [t2.out]; exact hy, hxy⟩ ⟨by rw [t2.out]; exact hx, by rw [t2.out]; exact hy, hxy⟩ e; cases this
            simp (disch := omega) only [upd_ne]
            exact hss.out
          · have j0 := ho2.out s (by rw [← t2.out]; exact hs)
            have j1 : N1 s ≠ N1 (.nm x y) := fun e => s1 (R1.out.inj s _ hs ⟨by rw [t2.out]; exact hx, by rw [t2.out]; exact hy, hxy⟩ e)
            simp (disch := omega) only [upd_ne]
        · intro k hk
          obtain ⟨s, hs, rfl⟩ := hk
          have j0 := ho2.out s (by rw [← t2.out]; exact hs)
          omega
        have hl2 := T.le
        replace T : Hide _ := T
        repeat' (first | (refine ac_seq_h fun K hK => ?_) | (refine ac_region_h fun K hK => ?_; simp (disch := omega) [go_sem, *]) | (refine ac_draw_h mixed (by kernel_rfl) fun K hK => ?_; simp (disch := omega) [go_sem, *, wrap64_id, upd_ne, mk3_true, flatten_replicate_one, stepK_if, ilt_true, ilt_false, ile_true, ile_false, Try.ntmps51]) | (apply Hide.out hK; clear hK K; try with_reducible dsimp only [thenA]) | (apply Hide.out ht; clear ht hf Kt Kf) | (apply Hide.out hf; clear ht hf Kt Kf) | (clear hK K; apply Hide.out hK; clear hK K; try with_reducible dsimp only [thenA]) | (clear hK K; clear hK K; apply Hide.out hK; clear hK K; try with_reducible dsimp only [thenA]) | (refine ac_block ?_) | (refine ac_skip ?_; simp only [thenA, blockA]) | (refine ac_exit ?_; simp only [thenA, blockA, if_true, if_false, Nat.reduceEqDiff]) | (with_reducible show nextK _ _ _ _ _ _ _; simp (disch := omega) [go_sem, *, wrap64_id, upd_ne, mk3_true, flatten_replicate_one, stepK_if, ilt_true, ilt_false, ile_true, ile_false, Try.ntmps51]) | (refine wantK_split (fun hc => ?_) (fun hc => ?_) <;> (try simp only [Bool.not_eq_true', Bool.not_eq_false', Bool.not_eq_eq_eq_not, Bool.not_true, Bool.not_false, decide_eq_true_eq, decide_eq_false_iff_not, Int.not_lt, Int.not_le] at hc) <;> (try (exfalso; omega)) <;> (try simp (disch := omega) [go_sem, *, wrap64_id, upd_ne, mk3_true, flatten_replicate_one, stepK_if, ilt_true, ilt_false, ile_true, ile_false, Try.ntmps51])) | (refine ac_cond_h fun Kt Kf ht hf => ?_; simp (disch := omega) [go_sem, *, wrap64_id, upd_ne, mk3_true, flatten_replicate_one, stepK_if, ilt_true, ilt_false, ile_true, ile_false, Try.ntmps51]; try (refine ⟨fun hc => ?_, fun hc => ?_⟩ <;> try (exfalso; omega))))
        refine ac_ret ?_
        refine ⟨by simp, _, (by simp (disch := omega) [go_sem] <;> rfl), ?_⟩
        refine ret_id ?_
        have := hK0.out
        rw [hL.out] at this
        refine this _ _ (WTurn.trans (N1 := N1) p1x (fun k hk => ?_) ?_ (fun k hk hk2 => ?_) (WTurn.grow T.out ?_))
        · exact ho3.out k hk
        · omega
        · have j1 : k ≠ N1 (.nm x y) := fun e => (ho3.out k ⟨.nm x y, ⟨by rw [t2.out]; exact hx, by rw [t2.out]; exact hy, hxy⟩, e.symm⟩).elim hk2 (by omega)
          simp (disch := omega) only [upd_ne]
          exact f2.out k hk hk2
        · simp only; omega
      · have c2 : mn ≠ (w1.tk x y).heard + 1 := by rw [t1.out]; exact c1
        rw [arrive_word2 c2, t1.out] at hL
        replace c2 : Hide _ := c2
        repeat' (first | (refine ac_seq_h fun K hK => ?_) | (refine ac_region_h fun K hK => ?_; simp (disch := omega) [go_sem, *]) | (refine ac_draw_h mixed (by kernel_rfl) fun K hK => ?_; simp (disch := omega) [go_sem, *, upd_ne]) | (apply Hide.out hK; clear hK K; try with_reducible dsimp only [thenA]) | (apply Hide.out ht; clear ht hf Kt Kf) | (apply Hide.out hf; clear ht hf Kt Kf) | (clear hK K; apply Hide.out hK; clear hK K; try with_reducible dsimp only [thenA]) | (clear hK K; clear hK K; apply Hide.out hK; clear hK K; try with_reducible dsimp only [thenA]) | (refine ac_block ?_) | (refine ac_skip ?_; simp only [thenA]) | (refine ac_exit ?_; simp only [thenA, blockA, if_true, if_false, Nat.reduceEqDiff]) | (with_reducible show nextK _ _ _ _ _ _ _; simp (disch := omega) [go_sem, *]) | (refine wantK_split (fun hc => ?_) (fun hc => ?_) <;> (try simp only [Bool.not_eq_true', Bool.not_eq_false', Bool.not_eq_eq_eq_not, Bool.not_true, Bool.not_false, decide_eq_true_eq, decide_eq_false_iff_not, Int.not_lt, Int.not_le] at hc) <;> (try (exfalso; omega)) <;> (try simp (disch := omega) [go_sem, *, wrap64_id, upd_ne, mk3_true, flatten_replicate_one, stepK_if, ilt_true, ilt_false, ile_true, ile_false, Try.ntmps51])) | (refine ac_cond_h fun Kt Kf ht hf => ?_; simp (disch := omega) [go_sem, *]; try (refine ⟨fun hc => ?_, fun hc => ?_⟩ <;> try (exfalso; omega))))
        refine look_K (look_pair (by simp (disch := omega) only [upd_ne]; exact hmp1.out) hx hy hxy) ?_
        repeat' (first | (refine ac_seq_h fun K hK => ?_) | (refine ac_region_h fun K hK => ?_; simp (disch := omega) [go_sem, *, wrap64_id, upd_ne, mk3_true, flatten_replicate_one, stepK_if, ilt_true, ilt_false, ile_true, ile_false, Try.ntmps51]) | (refine ac_draw_h mixed (by kernel_rfl) fun K hK => ?_; simp (disch := omega) [go_sem, *, wrap64_id, upd_ne]) | (apply Hide.out hK; clear hK K; try with_reducible dsimp only [thenA]) | (apply Hide.out ht; clear ht hf Kt Kf) | (apply Hide.out hf; clear ht hf Kt Kf) | (clear hK K; apply Hide.out hK; clear hK K; try with_reducible dsimp only [thenA]) | (clear hK K; clear hK K; apply Hide.out hK; clear hK K; try with_reducible dsimp only [thenA]) | (refine ac_block ?_) | (refine ac_skip ?_; simp only [thenA]) | (refine ac_exit ?_; simp only [thenA, blockA, if_true, if_false, Nat.reduceEqDiff]) | (with_reducible show nextK _ _ _ _ _ _ _; simp (disch := omega) [go_sem, *]) | (refine wantK_split (fun hc => ?_) (fun hc => ?_) <;> (try simp only [Bool.not_eq_true', Bool.not_eq_false', Bool.not_eq_eq_eq_not, Bool.not_true, Bool.not_false, decide_eq_true_eq, decide_eq_false_iff_not, Int.not_lt, Int.not_le] at hc) <;> (try (exfalso; omega)) <;> (try simp (disch := omega) [go_sem, *, wrap64_id, upd_ne, mk3_true, flatten_replicate_one, stepK_if, ilt_true, ilt_false, ile_true, ile_false, Try.ntmps51])) | (refine ac_cond_h fun Kt Kf ht hf => ?_; simp (disch := omega) [go_sem, *]; try (refine ⟨fun hc => ?_, fun hc => ?_⟩ <;> try (exfalso; omega))))
        rw [← p1]
        refine put_spec (w := w1) (N := N1) (V := V1) (R1.out.congr fun k hk => ?_) hw1.out.ml y0 hk1 [⟨0, 2, y, x, (w.tk x y).heard + 1, ByteArray.empty⟩] (by simp) _ _ 6 (fun _ => rfl) _ ?_ _ (fun h2 n2 T => ?_)
        · obtain ⟨s, hs, rfl⟩ := hk
          have j0 := ho2.out s (by rw [← t2.out]; exact hs)
          simp (disch := omega) only [upd_ne]
        · intro k hk
          obtain ⟨s, hs, rfl⟩ := hk
          have j0 := ho2.out s (by rw [← t2.out]; exact hs)
          omega
        have hl2 := T.le
        replace T : Hide _ := T
        repeat' (first | (refine ac_seq_h fun K hK => ?_) | (refine ac_region_h fun K hK => ?_; simp (disch := omega) [go_sem, *]) | (refine ac_draw_h mixed (by kernel_rfl) fun K hK => ?_; simp (disch := omega) [go_sem, *, wrap64_id, upd_ne, mk3_true, flatten_replicate_one, stepK_if, ilt_true, ilt_false, ile_true, ile_false, Try.ntmps51]) | (apply Hide.out hK; clear hK K; try with_reducible dsimp only [thenA]) | (apply Hide.out ht; clear ht hf Kt Kf) | (apply Hide.out hf; clear ht hf Kt Kf) | (clear hK K; apply Hide.out hK; clear hK K; try with_reducible dsimp only [thenA]) | (clear hK K; clear hK K; apply Hide.out hK; clear hK K; try with_reducible dsimp only [thenA]) | (refine ac_block ?_) | (refine ac_skip ?_; simp only [thenA, blockA]) | (refine ac_exit ?_; simp only [thenA, blockA, if_true, if_false, Nat.reduceEqDiff]) | (with_reducible show nextK _ _ _ _ _ _ _; simp (disch := omega) [go_sem, *, wrap64_id, upd_ne, mk3_true, flatten_replicate_one, stepK_if, ilt_true, ilt_false, ile_true, ile_false, Try.ntmps51]) | (refine wantK_split (fun hc => ?_) (fun hc => ?_) <;> (try simp only [Bool.not_eq_true', Bool.not_eq_false', Bool.not_eq_eq_eq_not, Bool.not_true, Bool.not_false, decide_eq_true_eq, decide_eq_false_iff_not, Int.not_lt, Int.not_le] at hc) <;> (try (exfalso; omega)) <;> (try simp (disch := omega) [go_sem, *, wrap64_id, upd_ne, mk3_true, flatten_replicate_one, stepK_if, ilt_true, ilt_false, ile_true, ile_false, Try.ntmps51])) | (refine ac_cond_h fun Kt Kf ht hf => ?_; simp (disch := omega) [go_sem, *, wrap64_id, upd_ne, mk3_true, flatten_replicate_one, stepK_if, ilt_true, ilt_false, ile_true, ile_false, Try.ntmps51]; try (refine ⟨fun hc => ?_, fun hc => ?_⟩ <;> try (exfalso; omega))))
        refine ac_ret ?_
        refine ⟨by simp, _, (by simp (disch := omega) [go_sem] <;> rfl), ?_⟩
        refine ret_id ?_
        have := hK0.out
        rw [hL.out] at this
        refine this _ _ (WTurn.trans (N1 := N1) p1x (fun k hk => ?_) ?_ (fun k hk hk2 => ?_) (WTurn.grow T.out ?_))
        · exact ho3.out k hk
        · omega
        · simp (disch := omega) only [upd_ne]
          exact f2.out k hk hk2
        · simp only; omega
    · have hyx : y ≠ x := Ne.symm hxy
      have okm : (Sl.nm y x).ok w1.st := ⟨by rw [t2.out]; exact hy, by rw [t2.out]; exact hx, hyx⟩
      have oks : (Sl.sm y x).ok w1.st := okm
      have q2 := ho2.out (.nm y x) ⟨hy, hx, hyx⟩
      have q3 := ho2.out (.sm y x) ⟨hy, hx, hyx⟩
      have hmm := R1.tks y x okm.1 okm.2.1 hyx
      have hss := R1.sds y x okm.1 okm.2.1 hyx
      have i1 : N .p ≠ N1 (.nm y x) := fun e => by rw [← p1] at e; have := R1.inj .p (.nm y x) trivial okm e; cases this
      have hT := hw1.out.tk y x
      have z1 := hT.k0; have z2 := hT.kh; have z3 := hT.hs; have z4 := hT.sl
      rw [t1] at hmm hss hT z1 z2 z3 z4
      replace okm : Hide _ := okm; replace oks : Hide _ := oks; replace hss : Hide _ := hss; replace hT : Hide _ := hT; replace R1 : Hide _ := R1; replace t1 : Hide _ := t1
      obtain ⟨L, hLL⟩ : ∃ L, Hide (L = (w.tk y x).said.map sv) := ⟨_, rfl⟩
      simp only [cellsTalk, ← hLL.out] at hmm
      by_cases c1 : mn - 1 > (w.tk y x).known
      · have c2 : mn - 1 > (w1.tk y x).known := by rw [t1.out]; exact c1
        rw [arrive_rc1 c2, t1.out] at hL
        replace c2 : Hide _ := c2
        repeat' (first | (refine ac_seq_h fun K hK => ?_) | (refine ac_region_h fun K hK => ?_; simp (disch := omega) [go_sem, *]) | (refine ac_draw_h mixed (by kernel_rfl) fun K hK => ?_; simp (disch := omega) [go_sem, *, upd_ne]) | (apply Hide.out hK; clear hK K; try with_reducible dsimp only [thenA]) | (apply Hide.out ht; clear ht hf Kt Kf) | (apply Hide.out hf; clear ht hf Kt Kf) | (clear hK K; apply Hide.out hK; clear hK K; try with_reducible dsimp only [thenA]) | (clear hK K; clear hK K; apply Hide.out hK; clear hK K; try with_reducible dsimp only [thenA]) | (refine ac_block ?_) | (refine ac_skip ?_; simp only [thenA]) | (refine ac_exit ?_; simp only [thenA, blockA, if_true, if_false, Nat.reduceEqDiff]) | (with_reducible show nextK _ _ _ _ _ _ _; simp (disch := omega) [go_sem, *]) | (refine wantK_split (fun hc => ?_) (fun hc => ?_) <;> (try simp only [Bool.not_eq_true', Bool.not_eq_false', Bool.not_eq_eq_eq_not, Bool.not_true, Bool.not_false, decide_eq_true_eq, decide_eq_false_iff_not, Int.not_lt, Int.not_le] at hc) <;> (try (exfalso; omega)) <;> (try simp (disch := omega) [go_sem, *, wrap64_id, upd_ne, mk3_true, flatten_replicate_one, stepK_if, ilt_true, ilt_false, ile_true, ile_false, Try.ntmps51])) | (refine ac_cond_h fun Kt Kf ht hf => ?_; simp (disch := omega) [go_sem, *]; try (refine ⟨fun hc => ?_, fun hc => ?_⟩ <;> try (exfalso; omega))))
        refine look_K (look_pair (by simp (disch := omega) only [upd_ne]; exact hmp1.out) hy hx hyx) ?_
        repeat' (first | (refine ac_seq_h fun K hK => ?_) | (refine ac_region_h fun K hK => ?_; simp (disch := omega) [go_sem, *]) | (refine ac_draw_h mixed (by kernel_rfl) fun K hK => ?_; simp (disch := omega) [go_sem, *, wrap64_id, upd_ne]) | (apply Hide.out hK; clear hK K; try with_reducible dsimp only [thenA]) | (apply Hide.out ht; clear ht hf Kt Kf) | (apply Hide.out hf; clear ht hf Kt Kf) | (clear hK K; apply Hide.out hK; clear hK K; try with_reducible dsimp only [thenA]) | (clear hK K; clear hK K; apply Hide.out hK; clear hK K; try with_reducible dsimp only [thenA]) | (refine ac_block ?_) | (refine ac_skip ?_; simp only [thenA, blockA]) | (refine ac_exit ?_; simp only [thenA, blockA, if_true, if_false, Nat.reduceEqDiff]) | (with_reducible show nextK _ _ _ _ _ _ _; simp (disch := omega) [go_sem, *]) | (refine wantK_split (fun hc => ?_) (fun hc => ?_) <;> (try simp only [Bool.not_eq_true', Bool.not_eq_false', Bool.not_eq_eq_eq_not, Bool.not_true, Bool.not_false, decide_eq_true_eq, decide_eq_false_iff_not, Int.not_lt, Int.not_le] at hc) <;> (try (exfalso; omega)) <;> (try simp (disch := omega) [go_sem, *, wrap64_id, upd_ne, mk3_true, flatten_replicate_one, stepK_if, ilt_true, ilt_false, ile_true, ile_false, Try.ntmps51])) | (refine ac_cond_h fun Kt Kf ht hf => ?_; simp (disch := omega) [go_sem, *]; try (refine ⟨fun hc => ?_, fun hc => ?_⟩ <;> try (exfalso; omega))))
        refine ac_ret ?_
        refine ⟨by simp, _, (by simp (disch := omega) [go_sem] <;> rfl), ?_⟩
        refine ret_id ?_
        have := hK0.out
        rw [hL.out] at this
        refine this _ _ ⟨setsm N1 y x (N1 (.sm y x)), V1, WRep.setT R1.out okm.out.1 okm.out.2.1 hyx ?_ ?_ (fun s hs s1 s2 => ?_) (.inl rfl), p1x, fun k hk => ?_, by simp only; omega, fun k hk hk2 => ?_⟩
        · simp only [upd_same, cellsTalk, ← hLL.out]
        · have j1 : N1 (.sm y x) ≠ N1 (.nm y x) := fun e => by have := R1.out.inj (.sm y x) (.nm y x) oks.out okm.out e; cases this
          simp (disch := omega) only [upd_ne]
          exact hss.out
        · have j0 := ho2.out s (by rw [← t2.out]; exact hs)
          have j1 : N1 s ≠ N1 (.nm y x) := fun e => s1 (R1.out.inj s _ hs okm.out e)
          simp (disch := omega) only [upd_ne]
        · rw [setsm_id] at hk
          refine ⟨ho3.out k hk, ?_⟩
          obtain ⟨s, hs, rfl⟩ := hk
          have j0 := ho2.out s (by rw [← t2.out]; exact hs)
          simp only; omega
        · have j1 : k ≠ N1 (.nm y x) := fun e => (ho3.out k ⟨.nm y x, okm.out, e.symm⟩).elim hk2 (by omega)
          simp (disch := omega) only [upd_ne]
          exact f2.out k hk hk2
      · have c2 : ¬ mn - 1 > (w1.tk y x).known := by rw [t1.out]; exact c1
        rw [arrive_rc2 c2] at hL
        replace c2 : Hide _ := c2
        repeat' (first | (refine ac_seq_h fun K hK => ?_) | (refine ac_region_h fun K hK => ?_; simp (disch := omega) [go_sem, *]) | (refine ac_draw_h mixed (by kernel_rfl) fun K hK => ?_; simp (disch := omega) [go_sem, *, upd_ne]) | (apply Hide.out hK; clear hK K; try with_reducible dsimp only [thenA]) | (apply Hide.out ht; clear ht hf Kt Kf) | (apply Hide.out hf; clear ht hf Kt Kf) | (clear hK K; apply Hide.out hK; clear hK K; try with_reducible dsimp only [thenA]) | (clear hK K; clear hK K; apply Hide.out hK; clear hK K; try with_reducible dsimp only [thenA]) | (refine ac_block ?_) | (refine ac_skip ?_; simp only [thenA]) | (refine ac_exit ?_; simp only [thenA, blockA, if_true, if_false, Nat.reduceEqDiff]) | (with_reducible show nextK _ _ _ _ _ _ _; simp (disch := omega) [go_sem, *]) | (refine wantK_split (fun hc => ?_) (fun hc => ?_) <;> (try simp only [Bool.not_eq_true', Bool.not_eq_false', Bool.not_eq_eq_eq_not, Bool.not_true, Bool.not_false, decide_eq_true_eq, decide_eq_false_iff_not, Int.not_lt, Int.not_le] at hc) <;> (try (exfalso; omega)) <;> (try simp (disch := omega) [go_sem, *, wrap64_id, upd_ne, mk3_true, flatten_replicate_one, stepK_if, ilt_true, ilt_false, ile_true, ile_false, Try.ntmps51])) | (refine ac_cond_h fun Kt Kf ht hf => ?_; simp (disch := omega) [go_sem, *]; try (refine ⟨fun hc => ?_, fun hc => ?_⟩ <;> try (exfalso; omega))))
        refine look_K (look_pair (by simp (disch := omega) only [upd_ne]; exact hmp1.out) hy hx hyx) ?_
        repeat' (first | (refine ac_seq_h fun K hK => ?_) | (refine ac_region_h fun K hK => ?_; simp (disch := omega) [go_sem, *]) | (refine ac_draw_h mixed (by kernel_rfl) fun K hK => ?_; simp (disch := omega) [go_sem, *, wrap64_id, upd_ne]) | (apply Hide.out hK; clear hK K; try with_reducible dsimp only [thenA]) | (apply Hide.out ht; clear ht hf Kt Kf) | (apply Hide.out hf; clear ht hf Kt Kf) | (clear hK K; apply Hide.out hK; clear hK K; try with_reducible dsimp only [thenA]) | (clear hK K; clear hK K; apply Hide.out hK; clear hK K; try with_reducible dsimp only [thenA]) | (refine ac_block ?_) | (refine ac_skip ?_; simp only [thenA]) | (refine ac_exit ?_; simp only [thenA, blockA, if_true, if_false, Nat.reduceEqDiff]) | (with_reducible show nextK _ _ _ _ _ _ _; simp (disch := omega) [go_sem, *]) | (refine wantK_split (fun hc => ?_) (fun hc => ?_) <;> (try simp only [Bool.not_eq_true', Bool.not_eq_false', Bool.not_eq_eq_eq_not, Bool.not_true, Bool.not_false, decide_eq_true_eq, decide_eq_false_iff_not, Int.not_lt, Int.not_le] at hc) <;> (try (exfalso; omega)) <;> (try simp (disch := omega) [go_sem, *, wrap64_id, upd_ne, mk3_true, flatten_replicate_one, stepK_if, ilt_true, ilt_false, ile_true, ile_false, Try.ntmps51])) | (refine ac_cond_h fun Kt Kf ht hf => ?_; simp (disch := omega) [go_sem, *]; try (refine ⟨fun hc => ?_, fun hc => ?_⟩ <;> try (exfalso; omega))))
        refine ac_ret ?_
        refine ⟨by simp, _, (by simp (disch := omega) [go_sem] <;> rfl), ?_⟩
        refine ret_id ?_
        have := hK0.out
        rw [hL.out] at this
        refine this _ _ ⟨N1, V1, R1.out.congr fun k hk => ?_, p1x, fun k hk => ⟨ho3.out k hk, ?_⟩, by simp only; omega, fun k hk hk2 => ?_⟩
        · obtain ⟨s, hs, rfl⟩ := hk
          have j0 := ho2.out s (by rw [← t2.out]; exact hs)
          simp (disch := omega) only [upd_ne]
        · obtain ⟨s, hs, rfl⟩ := hk
          have j0 := ho2.out s (by rw [← t2.out]; exact hs)
          simp only; omega
        · simp (disch := omega) only [upd_ne]
          exact f2.out k hk hk2
end Go.AM
