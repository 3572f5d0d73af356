/- Walks: between, place, two worlds; RelayAlone over the abstract machine. Conditions: as each theorem says. -/
import Derived.Test.YtjbphojecieloaaWi
namespace Go.AM
open Go.Proofs Wl
set_option maxRecDepth 10000
set_option maxHeartbeats 4000000
theorem between_spec (m : Mail) (p q : Nat) : APure Try.prog 26 [encMail m, iv .i64 p, iv .i64 q] (bv (btw p q m)) := by
  intro h n
  refine ACalls.pure (ACalls.entry (by kernel_rfl) fun hb _ => calls_of Try.func26 rfl (by kernel_rfl) (by simp [Try.ntmps26]) ?_)
  obtain ⟨i, k, fr, to, num, text⟩ := m
  cases c1 : (fr == (p : Int)) <;> cases c2 : (to == (q : Int)) <;> cases c3 : (fr == (q : Int)) <;> cases c4 : (to == (p : Int))
  all_goals
    skip
    repeat' (first
      | (refine ac_seq_h fun K hK => ?_)
      | (refine ac_region_h fun K hK => ?_; simp (disch := omega) [go_sem, *, Try.ntmps26, encMail])
      | (refine ac_draw_h mixed (by kernel_rfl) fun K hK => ?_; simp (disch := omega) [go_sem, *, wrap64_id, upd_ne, mk3_true, flatten_replicate_one, stepK_if, ilt_true, ilt_false, ile_true, ile_false, Try.ntmps26, encMail])
      | (apply Hide.out hK; clear hK K; try with_reducible dsimp only [thenA])
      | (apply Hide.out ht; clear ht hf Kt Kf)
      | (apply Hide.out hf; clear ht hf Kt Kf)
      | (clear hK K; apply Hide.out hK; clear hK K; try with_reducible dsimp only [thenA])
      | (clear hK K; clear hK K; apply Hide.out hK; clear hK K; try with_reducible dsimp only [thenA])
      | (refine ac_block ?_)
      | (refine ac_skip ?_; simp only [thenA, blockA])
      | (refine ac_exit ?_; simp only [thenA, blockA, if_true, if_false, Nat.reduceEqDiff])
      | (with_reducible show nextK _ _ _ _ _ _ _; simp (disch := omega) [go_sem, *, wrap64_id, upd_ne, mk3_true, flatten_replicate_one, stepK_if, ilt_true, ilt_false, ile_true, ile_false, Try.ntmps26, encMail])
      | (refine wantK_split (fun hc => ?_) (fun hc => ?_) <;> (try simp only [Bool.not_eq_true', Bool.not_eq_false', Bool.not_eq_eq_eq_not, Bool.not_true, Bool.not_false, decide_eq_true_eq, decide_eq_false_iff_not, Int.not_lt, Int.not_le] at hc) <;> (try (exfalso; omega)) <;> (try simp (disch := omega) [go_sem, *, wrap64_id, upd_ne, mk3_true, flatten_replicate_one, stepK_if, ilt_true, ilt_false, ile_true, ile_false, Try.ntmps26, encMail]))
      | (refine ac_cond_h fun Kt Kf ht hf => ?_; simp (disch := omega) [go_sem, *, wrap64_id, upd_ne, mk3_true, flatten_replicate_one, stepK_if, ilt_true, ilt_false, ile_true, ile_false, Try.ntmps26, encMail]; try (refine ⟨fun hc => ?_, fun hc => ?_⟩ <;> try (exfalso; omega))))
    refine ac_ret ?_
    refine ⟨by simp, _, (by simp (disch := omega) [go_sem] <;> rfl), ?_⟩
    refine ret_id ⟨fun j hj => (by show AHeap.upd _ _ _ _ = _; rw [upd_ne _ _ _ _ (by omega)]), by simp [go_sem, below], by simp [go_sem, btw, c1, c2, c3, c4], rfl, rfl⟩
/-- the place of a mail among those between two stations, counted from a number -/
def pl (p q : Nat) (id : Int) : Nat → List Mail → Int
  | _, [] => -1
  | k, m :: r => if btw p q m = true then (if m.id = id then k else pl p q id (k + 1) r) else pl p q id k r
theorem pl_ok (p q : Nat) (id : Int) : ∀ (l : List Mail) (k : Nat), (pl p q id k l = -1 ∧ ∀ m ∈ l, btw p q m = true → m.id ≠ id) ∨ (∃ i m, l[i]? = some m ∧ btw p q m = true ∧ m.id = id ∧ pl p q id k l = (k : Int) + ((l.take i).filter (btw p q)).length)
  | [], k => .inl ⟨rfl, fun m h => by cases h⟩
  | x :: r, k => by
    unfold pl
    split
    · rename_i c
      split
      · rename_i c2
        exact .inr ⟨0, x, rfl, c, c2, by simp⟩
      · rename_i c2
        rcases pl_ok p q id r (k + 1) with ⟨h1, h2⟩ | ⟨i, m, h1, h2, h3, h4⟩
        · refine .inl ⟨h1, fun m hm hb => ?_⟩
          rcases List.mem_cons.1 hm with rfl | hm
          · exact c2
          · exact h2 m hm hb
        · refine .inr ⟨i + 1, m, h1, h2, h3, ?_⟩
          rw [h4, List.take_succ_cons, List.filter_cons, if_pos c, List.length_cons]
          omega
    · rename_i c
      rcases pl_ok p q id r k with ⟨h1, h2⟩ | ⟨i, m, h1, h2, h3, h4⟩
      · refine .inl ⟨h1, fun m hm hb => ?_⟩
        rcases List.mem_cons.1 hm with rfl | hm
        · exact absurd hb c
        · exact h2 m hm hb
      · refine .inr ⟨i + 1, m, h1, h2, h3, ?_⟩
        rw [h4, List.take_succ_cons, List.filter_cons, if_neg c]
theorem place_spec (l : List Mail) (nl full : Bool) (sz : Nat) (hs : l ≠ [] → sz = 6) (hl : l.length ≤ 1000) (id : Int) (p q : Nat) : APure Try.prog 10 [.fslc nl full sz (l.map encMail), iv .i64 id, iv .i64 p, iv .i64 q] (iv .i64 (pl p q id 0 l)) := by
  intro h n
  refine ACalls.pure (ACalls.entry (by kernel_rfl) fun hb _ => calls_of Try.func10 rfl (by kernel_rfl) (by simp [Try.ntmps10]) ?_)
  replace hs : Hide _ := hs
  repeat' (first
    | (refine ac_seq_h fun K hK => ?_)
    | (refine ac_region_h fun K hK => ?_; simp (disch := omega) [go_sem, *, Try.ntmps10])
    | (refine ac_draw_h mixed (by kernel_rfl) fun K hK => ?_; simp (disch := omega) [go_sem, *, wrap64_id, upd_ne, mk3_true, flatten_replicate_one, stepK_if, ilt_true, ilt_false, ile_true, ile_false, Try.ntmps10])
    | (apply Hide.out hK; clear hK K; try with_reducible dsimp only [thenA])
    | (apply Hide.out ht; clear ht hf Kt Kf)
    | (apply Hide.out hf; clear ht hf Kt Kf)
    | (clear hK K; apply Hide.out hK; clear hK K; try with_reducible dsimp only [thenA])
    | (clear hK K; clear hK K; apply Hide.out hK; clear hK K; try with_reducible dsimp only [thenA])
    | (refine ac_block ?_)
    | (refine ac_skip ?_; simp only [thenA, blockA])
    | (refine ac_exit ?_; simp only [thenA, blockA, if_true, if_false, Nat.reduceEqDiff])
    | (with_reducible show nextK _ _ _ _ _ _ _; simp (disch := omega) [go_sem, *, wrap64_id, upd_ne, mk3_true, flatten_replicate_one, stepK_if, ilt_true, ilt_false, ile_true, ile_false, Try.ntmps10])
    | (refine wantK_split (fun hc => ?_) (fun hc => ?_) <;> (try simp only [Bool.not_eq_true', Bool.not_eq_false', Bool.not_eq_eq_eq_not, Bool.not_true, Bool.not_false, decide_eq_true_eq, decide_eq_false_iff_not, Int.not_lt, Int.not_le] at hc) <;> (try (exfalso; omega)) <;> (try simp (disch := omega) [go_sem, *, wrap64_id, upd_ne, mk3_true, flatten_replicate_one, stepK_if, ilt_true, ilt_false, ile_true, ile_false, Try.ntmps10]))
    | (refine ac_cond_h fun Kt Kf ht hf => ?_; simp (disch := omega) [go_sem, *, wrap64_id, upd_ne, mk3_true, flatten_replicate_one, stepK_if, ilt_true, ilt_false, ile_true, ile_false, Try.ntmps10]; try (refine ⟨fun hc => ?_, fun hc => ?_⟩ <;> try (exfalso; omega))))
  obtain ⟨Z, hZ⟩ : ∃ Z, Hide (Z = pl p q id 0 l) := ⟨_, rfl⟩
  rw [← hZ.out]
  refine ac_loop_wk (fun s' => ∃ (i c n' : Nat), n ≤ n' ∧ i ≤ l.length ∧ c ≤ i ∧ pl p q id c (l.drop i) = Z ∧ s' = ⟨35, [(0, .fslc nl full sz (l.map encMail)), (1, iv .i64 id), (2, iv .i64 p), (3, iv .i64 q), (9, iv .i64 c), (10, iv .i64 i)], h, n'⟩) (fun z => l.length - (intAt z 10).toNat) ?_ ?_
  · refine loop_start (by simp [go_sem]) (Sub.refl _) ⟨0, 0, _, ?_, Nat.zero_le _, Nat.le_refl _, hZ.out.symm, rfl⟩
    omega
  rintro s' ⟨i, c, n', hn', hi, hci, hpl, rfl⟩
  by_cases hlt : i < l.length
  · obtain ⟨m, hm1, hm2, hm3⟩ := at_k hlt
    obtain rfl := hs.out (by intro e; rw [e] at hlt; simp at hlt)
    rw [hm3] at hpl
    unfold pl at hpl
    have cb := between_spec m p q
    replace hm2 : Hide _ := hm2
    replace hm3 : Hide _ := hm3
    cases hb2 : btw p q m
    · rw [if_neg (by rw [hb2]; simp)] at hpl
      rw [hb2] at cb
      replace hpl : Hide _ := hpl
      repeat' (first
        | (refine ac_seq_h fun K hK => ?_)
        | (refine ac_region_h fun K hK => ?_; simp (disch := omega) [go_sem, *, wrap64_id, ilt_true, ile_true ])
        | (refine ac_draw_h mixed (by kernel_rfl) fun K hK => ?_; simp (disch := omega) [go_sem, *, wrap64_id, upd_ne, mk3_true, flatten_replicate_one, stepK_if, ilt_true, ilt_false, ile_true, ile_false, Try.ntmps10 ])
        | (apply Hide.out hK; clear hK K; try with_reducible dsimp only [thenA])
        | (apply Hide.out ht; clear ht hf Kt Kf)
        | (apply Hide.out hf; clear ht hf Kt Kf)
        | (clear hK K; apply Hide.out hK; clear hK K; try with_reducible dsimp only [thenA])
        | (clear hK K; clear hK K; apply Hide.out hK; clear hK K; try with_reducible dsimp only [thenA])
        | (with_reducible refine APure.call (cb) ?_; try simp (disch := omega) [go_sem, * ])
        | (refine ac_block ?_)
        | (refine ac_skip ?_; simp only [thenA])
        | (refine ac_exit ?_; simp only [thenA, blockA, if_true, if_false, Nat.reduceEqDiff])
        | (with_reducible show nextK _ _ _ _ _ _ _; simp (disch := omega) [go_sem, *, wrap64_id, upd_ne, mk3_true, flatten_replicate_one, stepK_if, ilt_true, ilt_false, ile_true, ile_false, Try.ntmps10 ])
        | (refine wantK_split (fun hc => ?_) (fun hc => ?_) <;> (try simp only [Bool.not_eq_true', Bool.not_eq_false', Bool.not_eq_eq_eq_not, Bool.not_true, Bool.not_false, decide_eq_true_eq, decide_eq_false_iff_not, Int.not_lt, Int.not_le] at hc) <;> (try (exfalso; omega)) <;> (try simp (disch := omega) [go_sem, *, wrap64_id, upd_ne, mk3_true, flatten_replicate_one, stepK_if, ilt_true, ilt_false, ile_true, ile_false, Try.ntmps10 ]))
        | (refine ac_cond_h fun Kt Kf ht hf => ?_; simp (disch := omega) [go_sem, * ]; try (refine ⟨fun hc => ?_, fun hc => ?_⟩ <;> try (exfalso; omega))))
      refine round_end (by simp [go_sem]) (Sub.refl _) ⟨i + 1, c, _, ?_, by omega, by omega, hpl.out, rfl⟩ (by simp [intAt, go_sem]; omega)
      omega
    · rw [if_pos hb2] at hpl
      rw [hb2] at cb
      obtain ⟨mi, mk, mf, mt, mn, mx⟩ := m
      by_cases hid : mi = id
      · rw [if_pos hid] at hpl
        subst hid
        have hpl2 : Hide (Z = (c : Int)) := hpl.symm
        clear hpl
        repeat' (first
          | (refine ac_seq_h fun K hK => ?_)
          | (refine ac_region_h fun K hK => ?_; simp (disch := omega) [go_sem, *, ilt_true, ile_true ])
          | (refine ac_draw_h mixed (by kernel_rfl) fun K hK => ?_; simp (disch := omega) [go_sem, *, wrap64_id, upd_ne, mk3_true, flatten_replicate_one, stepK_if, ilt_true, ilt_false, ile_true, ile_false, Try.ntmps10 ])
          | (apply Hide.out hK; clear hK K; try with_reducible dsimp only [thenA])
          | (apply Hide.out ht; clear ht hf Kt Kf)
          | (apply Hide.out hf; clear ht hf Kt Kf)
          | (clear hK K; apply Hide.out hK; clear hK K; try with_reducible dsimp only [thenA])
          | (clear hK K; clear hK K; apply Hide.out hK; clear hK K; try with_reducible dsimp only [thenA])
          | (with_reducible refine APure.call (cb) ?_; try simp (disch := omega) [go_sem, * ])
          | (refine ac_block ?_)
          | (refine ac_skip ?_; simp only [thenA])
          | (refine ac_exit ?_; simp only [thenA, blockA, if_true, if_false, Nat.reduceEqDiff])
          | (with_reducible show nextK _ _ _ _ _ _ _; simp (disch := omega) [go_sem, *, wrap64_id, upd_ne, mk3_true, flatten_replicate_one, stepK_if, ilt_true, ilt_false, ile_true, ile_false, Try.ntmps10 ])
          | (refine wantK_split (fun hc => ?_) (fun hc => ?_) <;> (try simp only [Bool.not_eq_true', Bool.not_eq_false', Bool.not_eq_eq_eq_not, Bool.not_true, Bool.not_false, decide_eq_true_eq, decide_eq_false_iff_not, Int.not_lt, Int.not_le] at hc) <;> (try (exfalso; omega)) <;> (try simp (disch := omega) [go_sem, *, wrap64_id, upd_ne, mk3_true, flatten_replicate_one, stepK_if, ilt_true, ilt_false, ile_true, ile_false, Try.ntmps10 ]))
          | (refine ac_cond_h fun Kt Kf ht hf => ?_; simp (disch := omega) [go_sem, * ]; try (refine ⟨fun hc => ?_, fun hc => ?_⟩ <;> try (exfalso; omega))))
        refine ac_ret ?_
        refine ⟨by simp, _, (by simp (disch := omega) [go_sem] <;> rfl), ?_⟩
        refine ret_id ⟨fun j hj => rfl, by simp [go_sem, below], by simp [go_sem, hpl2.out], rfl, rfl⟩
      · rw [if_neg hid] at hpl
        have hid2 : (mi == id) = false := by simpa using hid
        replace hpl : Hide _ := hpl
        repeat' (first
          | (refine ac_seq_h fun K hK => ?_)
          | (refine ac_region_h fun K hK => ?_; simp (disch := omega) [go_sem, *, wrap64_id, ilt_true, ile_true ])
          | (refine ac_draw_h mixed (by kernel_rfl) fun K hK => ?_; simp (disch := omega) [go_sem, *, wrap64_id, upd_ne, mk3_true, flatten_replicate_one, stepK_if, ilt_true, ilt_false, ile_true, ile_false, Try.ntmps10 ])
          | (apply Hide.out hK; clear hK K; try with_reducible dsimp only [thenA])
          | (apply Hide.out ht; clear ht hf Kt Kf)
          | (apply Hide.out hf; clear ht hf Kt Kf)
          | (clear hK K; apply Hide.out hK; clear hK K; try with_reducible dsimp only [thenA])
          | (clear hK K; clear hK K; apply Hide.out hK; clear hK K; try with_reducible dsimp only [thenA])
          | (with_reducible refine APure.call (cb) ?_; try simp (disch := omega) [go_sem, * ])
          | (refine ac_block ?_)
          | (refine ac_skip ?_; simp only [thenA])
          | (refine ac_exit ?_; simp only [thenA, blockA, if_true, if_false, Nat.reduceEqDiff])
          | (with_reducible show nextK _ _ _ _ _ _ _; simp (disch := omega) [go_sem, *, wrap64_id, upd_ne, mk3_true, flatten_replicate_one, stepK_if, ilt_true, ilt_false, ile_true, ile_false, Try.ntmps10 ])
          | (refine wantK_split (fun hc => ?_) (fun hc => ?_) <;> (try simp only [Bool.not_eq_true', Bool.not_eq_false', Bool.not_eq_eq_eq_not, Bool.not_true, Bool.not_false, decide_eq_true_eq, decide_eq_false_iff_not, Int.not_lt, Int.not_le] at hc) <;> (try (exfalso; omega)) <;> (try simp (disch := omega) [go_sem, *, wrap64_id, upd_ne, mk3_true, flatten_replicate_one, stepK_if, ilt_true, ilt_false, ile_true, ile_false, Try.ntmps10 ]))
          | (refine ac_cond_h fun Kt Kf ht hf => ?_; simp (disch := omega) [go_sem, * ]; try (refine ⟨fun hc => ?_, fun hc => ?_⟩ <;> try (exfalso; omega))))
        refine round_end (by simp [go_sem]) (Sub.refl _) ⟨i + 1, c + 1, _, ?_, by omega, by omega, hpl.out, rfl⟩ (by simp [intAt, go_sem]; omega)
        omega
  · have hie : i = l.length := by omega
    subst hie
    rw [List.drop_length] at hpl
    have hpl2 : Hide (Z = -1) := hpl.symm
    clear hpl
    repeat' (first
      | (refine ac_seq_h fun K hK => ?_)
      | (refine ac_region_h fun K hK => ?_; simp (disch := omega) [go_sem, *])
      | (refine ac_draw_h mixed (by kernel_rfl) fun K hK => ?_; simp (disch := omega) [go_sem, *, wrap64_id, upd_ne, mk3_true, flatten_replicate_one, stepK_if, ilt_true, ilt_false, ile_true, ile_false, Try.ntmps10])
      | (apply Hide.out hK; clear hK K; try with_reducible dsimp only [thenA])
      | (apply Hide.out ht; clear ht hf Kt Kf)
      | (apply Hide.out hf; clear ht hf Kt Kf)
      | (clear hK K; apply Hide.out hK; clear hK K; try with_reducible dsimp only [thenA])
      | (clear hK K; clear hK K; apply Hide.out hK; clear hK K; try with_reducible dsimp only [thenA])
      | (refine ac_block ?_)
      | (refine ac_skip ?_; simp only [thenA, blockA])
      | (refine ac_exit ?_; simp only [thenA, blockA, if_true])
      | (with_reducible show nextK _ _ _ _ _ _ _; simp (disch := omega) [go_sem, *, wrap64_id, upd_ne, mk3_true, flatten_replicate_one, stepK_if, ilt_true, ilt_false, ile_true, ile_false, Try.ntmps10])
      | (refine wantK_split (fun hc => ?_) (fun hc => ?_) <;> (try simp only [Bool.not_eq_true', Bool.not_eq_false', Bool.not_eq_eq_eq_not, Bool.not_true, Bool.not_false, decide_eq_true_eq, decide_eq_false_iff_not, Int.not_lt, Int.not_le] at hc) <;> (try (exfalso; omega)) <;> (try simp (disch := omega) [go_sem, *, wrap64_id, upd_ne, mk3_true, flatten_replicate_one, stepK_if, ilt_true, ilt_false, ile_true, ile_false, Try.ntmps10]))
      | (refine ac_cond_h fun Kt Kf ht hf => ?_; simp (disch := omega) [go_sem, *]; try (refine ⟨fun hc => ?_, fun hc => ?_⟩ <;> try (exfalso; omega))))
    refine ac_ret ?_
    refine ⟨by simp, _, (by simp (disch := omega) [go_sem] <;> rfl), ?_⟩
    refine ret_id ⟨fun j hj => rfl, by simp [go_sem, below], by simp [go_sem, hpl2.out, ← hZ.out], rfl, rfl⟩
/-- two worlds that lie beside each other in memory made since a start -/
def Two (w v : Wd) (p p' b : Nat) (h0 h : AHeap) (n : Nat) : Prop := ∃ N V M U, WRep w N V h ∧ WRep v M U h ∧ N .p = p ∧ M .p = p' ∧ (∀ k, own w.st N k → b ≤ k ∧ k < n) ∧ (∀ k, own v.st M k → b ≤ k ∧ k < n) ∧ (∀ k, own w.st N k → ¬ own v.st M k) ∧ (∀ k, k < b → h k = h0 k) ∧ b ≤ n
section
variable {w v : Wd} {p p' b : Nat} {h0 h : AHeap} {n n1 : Nat}
theorem Two.mono {n' : Nat} (A : Two w v p p' b h0 h n) (hn : n ≤ n') : Two w v p p' b h0 h n' := by
  obtain ⟨N, V, M, U, R, S, hp, hq, ho, ho2, hd, hf, hb⟩ := A
  exact ⟨N, V, M, U, R, S, hp, hq, fun k hk => ⟨(ho k hk).1, by have := (ho k hk).2; omega⟩, fun k hk => ⟨(ho2 k hk).1, by have := (ho2 k hk).2; omega⟩, hd, hf, by omega⟩
theorem Two.symm (A : Two w v p p' b h0 h n) : Two v w p' p b h0 h n := by
  obtain ⟨N, V, M, U, R, S, hp, hq, ho, ho2, hd, hf, hb⟩ := A
  exact ⟨M, U, N, V, S, R, hq, hp, ho2, ho, fun k h1 h2 => hd k h2 h1, hf, hb⟩
theorem Two.left (A : Two w v p p' b h0 h n) : At w p b h0 h n := by
  obtain ⟨N, V, M, U, R, S, hp, hq, ho, ho2, hd, hf, hb⟩ := A
  exact ⟨N, V, R, hp, ho, hf, hb⟩
theorem Two.right (A : Two w v p p' b h0 h n) : At v p' b h0 h n := A.symm.left
theorem Two.do (A : Two w v p p' b h0 h n) (hn : n ≤ n1) (hw : Wok w) (hk1 : w.last ≤ 100000000000) (s : Step) (K0 : AV → AHeap → Nat → Prop)
    (hK0 : ∀ h' n', n1 ≤ n' → Two (doW w s).1 v p p' b h0 h' n' → K0 (iv .i64 (doW w s).2) h' n') : ACalls Try.prog 12 [.ptr p 0, encStep s] h n1 K0 := by
  obtain ⟨N, V, M, U, R, S, rfl, hq, ho, ho2, hd, hf, hb⟩ := A
  refine do_spec R hw hk1 s n1 (fun k hk => by have := (ho k hk).2; omega) K0 fun h' n' T => hK0 h' n' T.le ?_
  have hle := T.le
  obtain ⟨N2, V2, R2, p2, o2, l2, f2⟩ := T
  refine ⟨N2, V2, M, U, R2, S.congr fun k hk => f2 k (by have := (ho2 k hk).2; omega) fun h3 => hd k h3 hk, p2.1, hq, fun k hk => ?_, fun k hk => ⟨(ho2 k hk).1, by have := (ho2 k hk).2; omega⟩, fun k hk h3 => ?_, fun k hk => ?_, by omega⟩
  · obtain ⟨h3, h4⟩ := o2 k hk
    refine ⟨?_, h4⟩
    rcases h3 with h3 | h3
    · exact (ho k h3).1
    · omega
  · obtain ⟨h5, h4⟩ := o2 k hk
    rcases h5 with h5 | h5
    · exact hd k h5 h3
    · have := (ho2 k h3).2; omega
  · rw [f2 k (by omega) (fun h3 => by have := (ho k h3).1; omega)]; exact hf k hk
theorem Two.do2 (A : Two w v p p' b h0 h n) (hn : n ≤ n1) (hw : Wok v) (hk1 : v.last ≤ 100000000000) (s : Step) (K0 : AV → AHeap → Nat → Prop)
    (hK0 : ∀ h' n', n1 ≤ n' → Two w (doW v s).1 p p' b h0 h' n' → K0 (iv .i64 (doW v s).2) h' n') : ACalls Try.prog 12 [.ptr p' 0, encStep s] h n1 K0 :=
  A.symm.do hn hw hk1 s K0 fun h' n' l B => hK0 h' n' l B.symm
theorem Two.new (st wait : Int) (A : At w p b h0 h n) (hn : n ≤ n1) (K0 : AV → AHeap → Nat → Prop) (hno : (within st 1 10 && within wait 1 1440) = false → ∀ n', n1 ≤ n' → K0 (.tup [.c (.pointer none), iv .i64 1]) h n')
    (hyes : (within st 1 10 && within wait 1 1440) = true → ∀ p' h' n', n1 ≤ n' → Two w (newW st.toNat wait) p p' b h0 h' n' → K0 (.tup [.ptr p' 0, iv .i64 0]) h' n') : ACalls Try.prog 9 [iv .i64 st, iv .i64 wait] h n1 K0 :=
  new_spec st wait n1 K0 hno fun hc M h' n' S ho2 hf2 => by
    obtain ⟨N, V, R, hp, ho, hf, hb⟩ := A
    have hle : n1 ≤ n' := by have := (ho2 _ ⟨.p, trivial, rfl⟩); omega
    refine hyes hc _ _ _ hle ⟨N, V, M, _, R.congr fun k hk => hf2 k (by have := (ho k hk).2; omega), S, hp, rfl, fun k hk => ⟨(ho k hk).1, by have := (ho k hk).2; omega⟩, fun k hk => ⟨by have := (ho2 k hk).1; omega, (ho2 k hk).2⟩, fun k hk h3 => ?_, fun k hk => ?_, by omega⟩
    · have := (ho k hk).2; have := (ho2 k h3).1; omega
    · rw [hf2 k (by omega)]; exact hf k hk
end
end Go.AM

namespace Go.AM
open Go.Proofs Wl
set_option maxRecDepth 10000
set_option maxHeartbeats 4000000
theorem Two.congr {w v : Wd} {p p' b : Nat} {h0 h h' : AHeap} {n : Nat} (A : Two w v p p' b h0 h n) (hk : ∀ k, k < n → h' k = h k) : Two w v p p' b h0 h' n := by
  obtain ⟨N, V, M, U, R, S, hp, hq, ho, ho2, hd, hf, hb⟩ := A
  exact ⟨N, V, M, U, R.congr fun k hk2 => hk k (ho k hk2).2, S.congr fun k hk2 => hk k (ho2 k hk2).2, hp, hq, ho, ho2, hd, fun k hk2 => by rw [hk k (by omega)]; exact hf k hk2, hb⟩
theorem same_refl (A : List ByteArray) : sameL A A = true := by simp [sameL]
theorem relayAlone_spec (st wait : Int) (l : List Step) (nl : Bool) (hl : l.length ≤ 9223372036854775807) (a b : Int) (ha : 0 ≤ a ∧ a < 256) (hb' : 0 ≤ b ∧ b < 256) : APure Try.prog 3 [iv .i64 st, iv .i64 wait, .fslc nl false 5 (l.map encStep), iv .u8 a, iv .u8 b] (bv true) := by
  intro h n
  refine ACalls.pure (ACalls.entry (by kernel_rfl) fun hb _ => calls_of Try.func3 rfl (by kernel_rfl) (by simp [Try.ntmps3]) ?_)
  have c7 := light_spec l nl false 60 hl
  cases hli : lightL l 60 with
  | false =>
    rw [hli] at c7
    repeat' (first
      | (refine ac_seq_h fun K hK => ?_)
      | (refine ac_region_h fun K hK => ?_; simp (disch := omega) [go_sem, *, Try.ntmps3 ])
      | (refine ac_draw_h mixed (by kernel_rfl) fun K hK => ?_; simp (disch := omega) [go_sem, *, wrap64_id, upd_ne, mk3_true, flatten_replicate_one, stepK_if, ilt_true, ilt_false, ile_true, ile_false, Try.ntmps3 ])
      | (apply Hide.out hK; clear hK K; try with_reducible dsimp only [thenA])
      | (apply Hide.out ht; clear ht hf Kt Kf)
      | (apply Hide.out hf; clear ht hf Kt Kf)
      | (clear hK K; apply Hide.out hK; clear hK K; try with_reducible dsimp only [thenA])
      | (clear hK K; clear hK K; apply Hide.out hK; clear hK K; try with_reducible dsimp only [thenA])
      | (with_reducible refine APure.call (c7) ?_; try simp (disch := omega) [go_sem, * ])
      | (with_reducible refine APure.call (worlds_spec) ?_; try simp (disch := omega) [go_sem, * ])
      | (refine ac_block ?_)
      | (refine ac_skip ?_; simp only [thenA, blockA])
      | (refine ac_exit ?_; simp only [thenA, blockA, if_true, if_false, Nat.reduceEqDiff])
      | (with_reducible show nextK _ _ _ _ _ _ _; simp (disch := omega) [go_sem, *, wrap64_id, upd_ne, mk3_true, flatten_replicate_one, stepK_if, ilt_true, ilt_false, ile_true, ile_false, Try.ntmps3 ])
      | (refine wantK_split (fun hc => ?_) (fun hc => ?_) <;> (try simp only [Bool.not_eq_true', Bool.not_eq_false', Bool.not_eq_eq_eq_not, Bool.not_true, Bool.not_false, decide_eq_true_eq, decide_eq_false_iff_not, Int.not_lt, Int.not_le] at hc) <;> (try (exfalso; omega)) <;> (try simp (disch := omega) [go_sem, *, wrap64_id, upd_ne, mk3_true, flatten_replicate_one, stepK_if, ilt_true, ilt_false, ile_true, ile_false, Try.ntmps3 ]))
      | (refine ac_cond_h fun Kt Kf ht hf => ?_; simp (disch := omega) [go_sem, * ]; try (refine ⟨fun hc => ?_, fun hc => ?_⟩ <;> try (exfalso; omega))))
    (refine ac_ret ?_; try dsimp only [thenA, blockA]; refine ⟨by simp, _, (by first | rfl | (simp (disch := omega) [go_sem, upd_ne] <;> rfl)), ?_⟩; refine ret_id ⟨fun k hk => (by first | rfl | (repeat rw [upd_ne _ _ _ _ (by omega)])), (by simp [go_sem, below]), (by simp [go_sem] <;> omega), by simp, by simp⟩)
  | true =>
    rw [hli] at c7
    have hl3 : l.length ≤ 60 := by
      simp only [lightL, Bool.and_eq_true, decide_eq_true_eq] at hli; omega
    clear hl hli
    repeat' (first
      | (refine ac_seq_h fun K hK => ?_)
      | (refine ac_region_h fun K hK => ?_; simp (disch := omega) [go_sem, *, Try.ntmps3 ])
      | (refine ac_draw_h mixed (by kernel_rfl) fun K hK => ?_; simp (disch := omega) [go_sem, *, wrap64_id, upd_ne, mk3_true, flatten_replicate_one, stepK_if, ilt_true, ilt_false, ile_true, ile_false, Try.ntmps3 ])
      | (apply Hide.out hK; clear hK K; try with_reducible dsimp only [thenA])
      | (apply Hide.out ht; clear ht hf Kt Kf)
      | (apply Hide.out hf; clear ht hf Kt Kf)
      | (clear hK K; apply Hide.out hK; clear hK K; try with_reducible dsimp only [thenA])
      | (clear hK K; clear hK K; apply Hide.out hK; clear hK K; try with_reducible dsimp only [thenA])
      | (with_reducible refine APure.call (c7) ?_; try simp (disch := omega) [go_sem, * ])
      | (with_reducible refine APure.call (worlds_spec) ?_; try simp (disch := omega) [go_sem, *, wrap64_id, upd_ne, mk3_true, flatten_replicate_one, stepK_if, ilt_true, ilt_false, ile_true, ile_false, Try.ntmps3 ])
      | (refine ac_block ?_)
      | (refine ac_skip ?_; simp only [thenA])
      | (refine ac_exit ?_; simp only [thenA, blockA, if_true, if_false, Nat.reduceEqDiff])
      | (with_reducible show nextK _ _ _ _ _ _ _; simp (disch := omega) [go_sem, *, wrap64_id, upd_ne, mk3_true, flatten_replicate_one, stepK_if, ilt_true, ilt_false, ile_true, ile_false, Try.ntmps3 ])
      | (refine wantK_split (fun hc => ?_) (fun hc => ?_) <;> (try simp only [Bool.not_eq_true', Bool.not_eq_false', Bool.not_eq_eq_eq_not, Bool.not_true, Bool.not_false, decide_eq_true_eq, decide_eq_false_iff_not, Int.not_lt, Int.not_le] at hc) <;> (try (exfalso; omega)) <;> (try simp (disch := omega) [go_sem, *, wrap64_id, upd_ne, mk3_true, flatten_replicate_one, stepK_if, ilt_true, ilt_false, ile_true, ile_false, Try.ntmps3 ]))
      | (refine ac_cond_h fun Kt Kf ht hf => ?_; simp (disch := omega) [go_sem, * ]; try (refine ⟨fun hc => ?_, fun hc => ?_⟩ <;> try (exfalso; omega))))
    refine At.new st wait _ _ (fun hc m hm => ?_) (fun hc p H m hm A => ?_)
    · skip
      repeat' (first
        | (refine ac_seq_h fun K hK => ?_)
        | (refine ac_region_h fun K hK => ?_; simp (disch := omega) [go_sem, * ])
        | (refine ac_draw_h mixed (by kernel_rfl) fun K hK => ?_; simp (disch := omega) [go_sem, *, wrap64_id, upd_ne, mk3_true, flatten_replicate_one, stepK_if, ilt_true, ilt_false, ile_true, ile_false, Try.ntmps3 ])
        | (apply Hide.out hK; clear hK K; try with_reducible dsimp only [thenA])
        | (apply Hide.out ht; clear ht hf Kt Kf)
        | (apply Hide.out hf; clear ht hf Kt Kf)
        | (clear hK K; apply Hide.out hK; clear hK K; try with_reducible dsimp only [thenA])
        | (clear hK K; clear hK K; apply Hide.out hK; clear hK K; try with_reducible dsimp only [thenA])
        | (with_reducible refine APure.call (c7) ?_; try simp (disch := omega) [go_sem, *, wrap64_id, upd_ne, mk3_true, flatten_replicate_one, stepK_if, ilt_true, ilt_false, ile_true, ile_false, Try.ntmps3 ])
        | (with_reducible refine APure.call (worlds_spec) ?_; try simp (disch := omega) [go_sem, *, wrap64_id, upd_ne, mk3_true, flatten_replicate_one, stepK_if, ilt_true, ilt_false, ile_true, ile_false, Try.ntmps3 ])
        | (refine ac_block ?_)
        | (refine ac_skip ?_; simp only [thenA, blockA])
        | (refine ac_exit ?_; simp only [thenA, blockA, if_true, if_false, Nat.reduceEqDiff])
        | (with_reducible show nextK _ _ _ _ _ _ _; simp (disch := omega) [go_sem, * ])
        | (refine wantK_split (fun hc => ?_) (fun hc => ?_) <;> (try simp only [Bool.not_eq_true', Bool.not_eq_false', Bool.not_eq_eq_eq_not, Bool.not_true, Bool.not_false, decide_eq_true_eq, decide_eq_false_iff_not, Int.not_lt, Int.not_le] at hc) <;> (try (exfalso; omega)) <;> (try simp (disch := omega) [go_sem, *, wrap64_id, upd_ne, mk3_true, flatten_replicate_one, stepK_if, ilt_true, ilt_false, ile_true, ile_false, Try.ntmps3 ]))
        | (refine ac_cond_h fun Kt Kf ht hf => ?_; simp (disch := omega) [go_sem, *, wrap64_id, upd_ne, mk3_true, flatten_replicate_one, stepK_if, ilt_true, ilt_false, ile_true, ile_false, Try.ntmps3 ]; try (refine ⟨fun hc => ?_, fun hc => ?_⟩ <;> try (exfalso; omega))))
      refine At.new st wait _ _ (fun hc m hm => ?_) (fun hc2 => by rw [hc] at hc2; cases hc2)
      repeat' (first
        | (refine ac_seq_h fun K hK => ?_)
        | (refine ac_region_h fun K hK => ?_; simp (disch := omega) [go_sem, * ])
        | (refine ac_draw_h mixed (by kernel_rfl) fun K hK => ?_; simp (disch := omega) [go_sem, *, wrap64_id, upd_ne, mk3_true, flatten_replicate_one, stepK_if, ilt_true, ilt_false, ile_true, ile_false, Try.ntmps3 ])
        | (apply Hide.out hK; clear hK K; try with_reducible dsimp only [thenA])
        | (apply Hide.out ht; clear ht hf Kt Kf)
        | (apply Hide.out hf; clear ht hf Kt Kf)
        | (clear hK K; apply Hide.out hK; clear hK K; try with_reducible dsimp only [thenA])
        | (clear hK K; clear hK K; apply Hide.out hK; clear hK K; try with_reducible dsimp only [thenA])
        | (with_reducible refine APure.call (c7) ?_; try simp (disch := omega) [go_sem, *, wrap64_id, upd_ne, mk3_true, flatten_replicate_one, stepK_if, ilt_true, ilt_false, ile_true, ile_false, Try.ntmps3 ])
        | (with_reducible refine APure.call (worlds_spec) ?_; try simp (disch := omega) [go_sem, * ])
        | (refine ac_block ?_)
        | (refine ac_skip ?_; simp only [thenA, blockA])
        | (refine ac_exit ?_; simp only [thenA, blockA, if_true, if_false, Nat.reduceEqDiff])
        | (with_reducible show nextK _ _ _ _ _ _ _; simp (disch := omega) [go_sem, * ])
        | (refine wantK_split (fun hc => ?_) (fun hc => ?_) <;> (try simp only [Bool.not_eq_true', Bool.not_eq_false', Bool.not_eq_eq_eq_not, Bool.not_true, Bool.not_false, decide_eq_true_eq, decide_eq_false_iff_not, Int.not_lt, Int.not_le] at hc) <;> (try (exfalso; omega)) <;> (try simp (disch := omega) [go_sem, *, wrap64_id, upd_ne, mk3_true, flatten_replicate_one, stepK_if, ilt_true, ilt_false, ile_true, ile_false, Try.ntmps3 ]))
        | (refine ac_cond_h fun Kt Kf ht hf => ?_; simp (disch := omega) [go_sem, * ]; try (refine ⟨fun hc => ?_, fun hc => ?_⟩ <;> try (exfalso; omega))))
      (refine ac_ret ?_; try dsimp only [thenA, blockA]; refine ⟨by simp, _, (by first | rfl | (simp (disch := omega) [go_sem, upd_ne] <;> rfl)), ?_⟩; refine ret_id ⟨fun k hk => (by first | rfl | (repeat rw [upd_ne _ _ _ _ (by omega)])), (by simp [go_sem, below]), (by simp [go_sem] <;> omega), by simp, by simp⟩)
    · rw [Bool.and_eq_true] at hc
      obtain ⟨k1, k2⟩ := hc
      obtain ⟨k3, k4⟩ := Wl.within_iff.1 k1
      obtain ⟨k5, k6⟩ := Wl.within_iff.1 k2
      obtain ⟨S, rfl⟩ : ∃ S : Nat, st = S := ⟨st.toNat, by omega⟩
      have w0 : Hide (Wok (newW S wait)) := Wok.new (by omega) (by omega) k5 k6
      rw [Int.toNat_natCast] at A
      replace A : Hide _ := A
      replace k1 : Hide _ := k1
      replace k2 : Hide _ := k2
      repeat' (first
        | (refine ac_seq_h fun K hK => ?_)
        | (refine ac_region_h fun K hK => ?_; simp (disch := omega) [go_sem, * ])
        | (refine ac_draw_h mixed (by kernel_rfl) fun K hK => ?_; simp (disch := omega) [go_sem, *, wrap64_id, upd_ne, mk3_true, flatten_replicate_one, stepK_if, ilt_true, ilt_false, ile_true, ile_false, Try.ntmps3 ])
        | (apply Hide.out hK; clear hK K; try with_reducible dsimp only [thenA])
        | (apply Hide.out ht; clear ht hf Kt Kf)
        | (apply Hide.out hf; clear ht hf Kt Kf)
        | (clear hK K; apply Hide.out hK; clear hK K; try with_reducible dsimp only [thenA])
        | (clear hK K; clear hK K; apply Hide.out hK; clear hK K; try with_reducible dsimp only [thenA])
        | (with_reducible refine APure.call (c7) ?_; try simp (disch := omega) [go_sem, *, wrap64_id, upd_ne, mk3_true, flatten_replicate_one, stepK_if, ilt_true, ilt_false, ile_true, ile_false, Try.ntmps3 ])
        | (with_reducible refine APure.call (worlds_spec) ?_; try simp (disch := omega) [go_sem, *, wrap64_id, upd_ne, mk3_true, flatten_replicate_one, stepK_if, ilt_true, ilt_false, ile_true, ile_false, Try.ntmps3 ])
        | (refine ac_block ?_)
        | (refine ac_skip ?_; simp only [thenA, blockA])
        | (refine ac_exit ?_; simp only [thenA, blockA, if_true, if_false, Nat.reduceEqDiff])
        | (with_reducible show nextK _ _ _ _ _ _ _; simp (disch := omega) [go_sem, * ])
        | (refine wantK_split (fun hc => ?_) (fun hc => ?_) <;> (try simp only [Bool.not_eq_true', Bool.not_eq_false', Bool.not_eq_eq_eq_not, Bool.not_true, Bool.not_false, decide_eq_true_eq, decide_eq_false_iff_not, Int.not_lt, Int.not_le] at hc) <;> (try (exfalso; omega)) <;> (try simp (disch := omega) [go_sem, *, wrap64_id, upd_ne, mk3_true, flatten_replicate_one, stepK_if, ilt_true, ilt_false, ile_true, ile_false, Try.ntmps3 ]))
        | (refine ac_cond_h fun Kt Kf ht hf => ?_; simp (disch := omega) [go_sem, *, wrap64_id, upd_ne, mk3_true, flatten_replicate_one, stepK_if, ilt_true, ilt_false, ile_true, ile_false, Try.ntmps3 ]; try (refine ⟨fun hc => ?_, fun hc => ?_⟩ <;> try (exfalso; omega))))
      refine Two.new (S : Int) wait A.out (by omega) _ (fun hc => by rw [k1.out, k2.out] at hc; cases hc) (fun _ p' H2 m2 hm2 A2 => ?_)
      rw [Int.toNat_natCast] at A2
      replace A2 : Hide _ := A2
      clear A k1 k2
      by_cases hS : S < 2
      · skip
        repeat' (first
          | (refine ac_seq_h fun K hK => ?_)
          | (refine ac_region_h fun K hK => ?_; simp (disch := omega) [go_sem, *, ilt_true ])
          | (refine ac_draw_h mixed (by kernel_rfl) fun K hK => ?_; simp (disch := omega) [go_sem, *, wrap64_id, upd_ne, mk3_true, flatten_replicate_one, stepK_if, ilt_true, ilt_false, ile_true, ile_false, Try.ntmps3 ])
          | (apply Hide.out hK; clear hK K; try with_reducible dsimp only [thenA])
          | (apply Hide.out ht; clear ht hf Kt Kf)
          | (apply Hide.out hf; clear ht hf Kt Kf)
          | (clear hK K; apply Hide.out hK; clear hK K; try with_reducible dsimp only [thenA])
          | (clear hK K; clear hK K; apply Hide.out hK; clear hK K; try with_reducible dsimp only [thenA])
          | (with_reducible refine APure.call (c7) ?_; try simp (disch := omega) [go_sem, *, wrap64_id, upd_ne, mk3_true, flatten_replicate_one, stepK_if, ilt_true, ilt_false, ile_true, ile_false, Try.ntmps3 ])
          | (with_reducible refine APure.call (worlds_spec) ?_; try simp (disch := omega) [go_sem, * ])
          | (refine ac_block ?_)
          | (refine ac_skip ?_; simp only [thenA, blockA])
          | (refine ac_exit ?_; simp only [thenA, blockA, if_true, if_false, Nat.reduceEqDiff])
          | (with_reducible show nextK _ _ _ _ _ _ _; simp (disch := omega) [go_sem, * ])
          | (refine wantK_split (fun hc => ?_) (fun hc => ?_) <;> (try simp only [Bool.not_eq_true', Bool.not_eq_false', Bool.not_eq_eq_eq_not, Bool.not_true, Bool.not_false, decide_eq_true_eq, decide_eq_false_iff_not, Int.not_lt, Int.not_le] at hc) <;> (try (exfalso; omega)) <;> (try simp (disch := omega) [go_sem, *, wrap64_id, upd_ne, mk3_true, flatten_replicate_one, stepK_if, ilt_true, ilt_false, ile_true, ile_false, Try.ntmps3 ]))
          | (refine ac_cond_h fun Kt Kf ht hf => ?_; simp (disch := omega) [go_sem, * ]; try (refine ⟨fun hc => ?_, fun hc => ?_⟩ <;> try (exfalso; omega))))
        refine ac_ret ?_
        refine ⟨by simp, _, (by simp (disch := omega) [go_sem] <;> rfl), ?_⟩
        obtain ⟨_, _, _, _, _, hf, hb0⟩ := Two.left A2.out
        refine ret_id ⟨fun k hk => hf k (by omega), by simp [go_sem, below], by simp [go_sem], rfl, rfl⟩
      obtain ⟨x, rfl⟩ : ∃ x : Nat, a = x := ⟨a.toNat, by omega⟩
      obtain ⟨y, rfl⟩ : ∃ y : Nat, b = y := ⟨b.toNat, by omega⟩
      obtain ⟨P, hP⟩ : ∃ P, Hide (P = x % S) := ⟨_, rfl⟩
      obtain ⟨Q, hQ⟩ : ∃ Q, Hide (Q = y % S) := ⟨_, rfl⟩
      have eP : (x : Int).tmod S = P := by rw [hP.out]; exact (Int.ofNat_tmod x S).symm
      have eQ : (y : Int).tmod S = Q := by rw [hQ.out]; exact (Int.ofNat_tmod y S).symm
      have hPS : P < S := by rw [hP.out]; exact Nat.mod_lt _ (by omega)
      have hQS : Q < S := by rw [hQ.out]; exact Nat.mod_lt _ (by omega)
      have hx : (x : Int) < 256 := ha.2
      have hy : (y : Int) < 256 := hb'.2
      clear ha hb'
      by_cases hPQ : P = Q
      · have hS0 : ¬ S = 0 := by omega
        have hPQ2 : ((P : Int) == Q) = true := by simp [hPQ]
        replace hPQ : Hide _ := hPQ
        repeat' (first
          | (refine ac_seq_h fun K hK => ?_)
          | (refine ac_region_h fun K hK => ?_; simp (disch := omega) [go_sem, *, wrap64_id, ilt_false ])
          | (refine ac_draw_h mixed (by kernel_rfl) fun K hK => ?_; simp (disch := omega) [go_sem, *, wrap64_id, upd_ne, mk3_true, flatten_replicate_one, stepK_if, ilt_true, ilt_false, ile_true, ile_false, Try.ntmps3 ])
          | (apply Hide.out hK; clear hK K; try with_reducible dsimp only [thenA])
          | (apply Hide.out ht; clear ht hf Kt Kf)
          | (apply Hide.out hf; clear ht hf Kt Kf)
          | (clear hK K; apply Hide.out hK; clear hK K; try with_reducible dsimp only [thenA])
          | (clear hK K; clear hK K; apply Hide.out hK; clear hK K; try with_reducible dsimp only [thenA])
          | (with_reducible refine APure.call (c7) ?_; try simp (disch := omega) [go_sem, *, wrap64_id, upd_ne, mk3_true, flatten_replicate_one, stepK_if, ilt_true, ilt_false, ile_true, ile_false, Try.ntmps3 ])
          | (with_reducible refine APure.call (worlds_spec) ?_; try simp (disch := omega) [go_sem, * ])
          | (refine ac_block ?_)
          | (refine ac_skip ?_; simp only [thenA])
          | (refine ac_exit ?_; simp only [thenA, blockA, if_true, if_false, Nat.reduceEqDiff])
          | (with_reducible show nextK _ _ _ _ _ _ _; simp (disch := omega) [go_sem, * ])
          | (refine wantK_split (fun hc => ?_) (fun hc => ?_) <;> (try simp only [Bool.not_eq_true', Bool.not_eq_false', Bool.not_eq_eq_eq_not, Bool.not_true, Bool.not_false, decide_eq_true_eq, decide_eq_false_iff_not, Int.not_lt, Int.not_le] at hc) <;> (try (exfalso; omega)) <;> (try simp (disch := omega) [go_sem, *, wrap64_id, upd_ne, mk3_true, flatten_replicate_one, stepK_if, ilt_true, ilt_false, ile_true, ile_false, Try.ntmps3 ]))
          | (refine ac_cond_h fun Kt Kf ht hf => ?_; simp (disch := omega) [go_sem, * ]; try (refine ⟨fun hc => ?_, fun hc => ?_⟩ <;> try (exfalso; omega))))
        refine ac_ret ?_
        refine ⟨by simp, _, (by simp (disch := omega) [go_sem] <;> rfl), ?_⟩
        obtain ⟨_, _, _, _, _, hf, hb0⟩ := Two.left A2.out
        refine ret_id ⟨fun k hk => hf k (by omega), by simp [go_sem, below], by simp [go_sem], rfl, rfl⟩
      have hPQ2 : ((P : Int) == Q) = false := by simp; omega
      have hPQ3 : ((Q : Int) == P) = false := by simp; omega
      have hS0 : ¬ S = 0 := by omega
      repeat' (first
        | (refine ac_seq_h fun K hK => ?_)
        | (refine ac_region_h fun K hK => ?_; simp (disch := omega) [go_sem, *, wrap64_id, ilt_false ])
        | (refine ac_draw_h mixed (by kernel_rfl) fun K hK => ?_; simp (disch := omega) [go_sem, *, wrap64_id, upd_ne, mk3_true, flatten_replicate_one, stepK_if, ilt_true, ilt_false, ile_true, ile_false, Try.ntmps3 ])
        | (apply Hide.out hK; clear hK K; try with_reducible dsimp only [thenA])
        | (apply Hide.out ht; clear ht hf Kt Kf)
        | (apply Hide.out hf; clear ht hf Kt Kf)
        | (clear hK K; apply Hide.out hK; clear hK K; try with_reducible dsimp only [thenA])
        | (clear hK K; clear hK K; apply Hide.out hK; clear hK K; try with_reducible dsimp only [thenA])
        | (with_reducible refine APure.call (c7) ?_; try simp (disch := omega) [go_sem, *, wrap64_id, upd_ne, mk3_true, flatten_replicate_one, stepK_if, ilt_true, ilt_false, ile_true, ile_false, Try.ntmps3 ])
        | (with_reducible refine APure.call (worlds_spec) ?_; try simp (disch := omega) [go_sem, *, wrap64_id, upd_ne, mk3_true, flatten_replicate_one, stepK_if, ilt_true, ilt_false, ile_true, ile_false, Try.ntmps3 ])
        | (refine ac_block ?_)
        | (refine ac_skip ?_; simp only [thenA])
        | (refine ac_exit ?_; simp only [thenA, blockA, if_true, if_false, Nat.reduceEqDiff])
        | (with_reducible show nextK _ _ _ _ _ _ _; simp (disch := omega) [go_sem, * ])
        | (refine wantK_split (fun hc => ?_) (fun hc => ?_) <;> (try simp only [Bool.not_eq_true', Bool.not_eq_false', Bool.not_eq_eq_eq_not, Bool.not_true, Bool.not_false, decide_eq_true_eq, decide_eq_false_iff_not, Int.not_lt, Int.not_le] at hc) <;> (try (exfalso; omega)) <;> (try simp (disch := omega) [go_sem, *, wrap64_id, upd_ne, mk3_true, flatten_replicate_one, stepK_if, ilt_true, ilt_false, ile_true, ile_false, Try.ntmps3 ]))
        | (refine ac_cond_h fun Kt Kf ht hf => ?_; simp (disch := omega) [go_sem, * ]; try (refine ⟨fun hc => ?_, fun hc => ?_⟩ <;> try (exfalso; omega))))
      replace c7 : Hide _ := c7
      clear eP eQ hx hy hP hQ
      refine ac_loop_wk (fun s' => ∃ (i n1 : Nat) (H : AHeap) (w v : Wd), i ≤ l.length ∧ Two w v p p' (n + 1 + 3 + 8) h H n1 ∧ Alone P Q w v ∧ Ids w ∧ Ids v ∧ Wok w ∧ Wok v ∧ w.last ≤ 200 * i ∧ v.last ≤ 200 * i ∧ w.mails.length ≤ 150 ∧ s' = ⟨241, [(0, iv .i64 S), (2, .fslc nl false 5 (l.map encStep)), (11, .ptr p 0), (13, .ptr p' 0), (15, iv .i64 P), (16, iv .i64 Q), (17, iv .i64 i), (10, bv false)], H, n1⟩) (fun z => l.length - (intAt z 17).toNat) ?_ ?_
      · refine loop_start (by simp [go_sem]) (Sub.refl _) ⟨0, _, _, _, _, Nat.zero_le _, Two.mono A2.out ?_, Alone.new S wait, Ids.new S wait, Ids.new S wait, w0.out, w0.out, Int.le_refl _, Int.le_refl _, Nat.zero_le _, rfl⟩
        omega
      clear A2 H H2 hm m hm2 m2
      rintro s' ⟨i, n1, H, w, v, hi, A, al, idw, idv, ww, wv, hlw, hlv, hml, rfl⟩
      replace A : Hide _ := A
      replace al : Hide _ := al
      replace idw : Hide _ := idw
      replace idv : Hide _ := idv
      replace ww : Hide _ := ww
      replace wv : Hide _ := wv
      by_cases hlt : i < l.length
      · obtain ⟨s, hs1, hs2, _⟩ := at_k hlt
        repeat' (first
          | (refine ac_seq_h fun K hK => ?_)
          | (refine ac_region_h fun K hK => ?_; simp (disch := omega) [go_sem, *, ilt_true, ile_true])
          | (apply Hide.out hK; clear hK K; try with_reducible dsimp only [thenA])
          | (apply Hide.out ht; clear ht hf Kt Kf)
          | (apply Hide.out hf; clear ht hf Kt Kf)
          | (clear hK K; apply Hide.out hK; clear hK K; try with_reducible dsimp only [thenA])
          | (clear hK K; clear hK K; apply Hide.out hK; clear hK K; try with_reducible dsimp only [thenA])
          | (refine ac_block ?_)
          | (refine ac_skip ?_; simp only [thenA])
          | (refine ac_exit ?_; simp only [thenA, blockA, if_true, if_false, Nat.reduceEqDiff])
          | (with_reducible show nextK _ _ _ _ _ _ _; simp (disch := omega) [go_sem, *, wrap64_id, upd_ne, mk3_true, flatten_replicate_one, stepK_if, ilt_true, ilt_false, ile_true, ile_false, Try.ntmps3])
          | (refine wantK_split (fun hc => ?_) (fun hc => ?_) <;> (try simp only [Bool.not_eq_true', Bool.not_eq_false', Bool.not_eq_eq_eq_not, Bool.not_true, Bool.not_false, decide_eq_true_eq, decide_eq_false_iff_not, Int.not_lt, Int.not_le] at hc) <;> (try (exfalso; omega)) <;> (try simp (disch := omega) [go_sem, *, wrap64_id, upd_ne, mk3_true, flatten_replicate_one, stepK_if, ilt_true, ilt_false, ile_true, ile_false, Try.ntmps3]))
          | (refine ac_cond_h fun Kt Kf ht hf => ?_; simp (disch := omega) [go_sem, *]; try (refine ⟨fun hc => ?_, fun hc => ?_⟩ <;> try (exfalso; omega))))
        refine ac_fzbox (m := n1 + 4 + 4) (t := 18) (c := [iv .i64 s.kind, iv .i64 s.a, iv .i64 s.b, iv .i64 s.n, sv s.text]) (by simp (disch := omega) only [upd_same]) (by simp [go_sem]) ?_
        obtain ⟨H1, hH1⟩ : ∃ H1, Hide (H1 = ((H.upd (n1 + 4 + 4) (some (.cells [iv .i64 0, iv .i64 0, iv .i64 0, iv .i64 0, sv ByteArray.empty]))).upd (n1 + 4 + 4) (some (.cells [iv .i64 s.kind, iv .i64 s.a, iv .i64 s.b, iv .i64 s.n, sv s.text]))).upd (n1 + 4 + 4) none) := ⟨_, rfl⟩
        rw [← hH1.out]
        have A1 : Hide (Two w v p p' (n + 1 + 3 + 8) h H1 n1) := Two.congr A.out fun k hk => by rw [hH1.out, upd_ne _ _ _ _ (by omega), upd_ne _ _ _ _ (by omega), upd_ne _ _ _ _ (by omega)]
        clear A hH1
        obtain ⟨X, hX1, hX2⟩ := At.mails (Two.left A1.out) ww.out
        obtain ⟨x1, x2, x3, rfl, hx⟩ := hX1
        have cpl := place_spec w.mails x1 x2 x3 hx (by omega) s.n P Q
        have hpl := pl_ok P Q s.n w.mails 0
        generalize pl P Q s.n 0 w.mails = at0 at cpl hpl
        replace hpl : Hide _ := hpl
        replace hx : Hide _ := hx
        replace hX2 : Hide _ := hX2
        refine ac_draw3_h [18] mixed (by kernel_rfl) (fun x hx => by simp at hx; subst hx; exact ⟨_, by simp [go_sem]; rfl⟩) fun K2 hK2 => ?_
        simp (disch := omega) [go_sem, *]
        refine APureAt.call (hX2.out _) ?_
        simp (disch := omega) [go_sem, *]
        refine APure.call cpl ?_
        simp (disch := omega) [go_sem, *]
        refine hK2.out _ ?_
        clear hK2 K2 hX2 cpl
        dsimp only [thenA]
        repeat' (first
          | (refine ac_seq_h fun K hK => ?_)
          | (refine ac_region_h fun K hK => ?_; simp (disch := omega) [go_sem, *])
          | (refine ac_draw_h mixed (by kernel_rfl) fun K hK => ?_; simp (disch := omega) [go_sem, *, wrap64_id, upd_ne, mk3_true, flatten_replicate_one, stepK_if, ilt_true, ilt_false, ile_true, ile_false, Try.ntmps3])
          | (apply Hide.out hK; clear hK K; try with_reducible dsimp only [thenA])
          | (apply Hide.out ht; clear ht hf Kt Kf)
          | (apply Hide.out hf; clear ht hf Kt Kf)
          | (clear hK K; apply Hide.out hK; clear hK K; try with_reducible dsimp only [thenA])
          | (clear hK K; clear hK K; apply Hide.out hK; clear hK K; try with_reducible dsimp only [thenA])
          | (refine ac_block ?_)
          | (refine ac_skip ?_; simp only [thenA, blockA])
          | (refine ac_exit ?_; simp only [thenA, blockA, if_true, if_false, Nat.reduceEqDiff])
          | (with_reducible show nextK _ _ _ _ _ _ _; simp (disch := omega) [go_sem, *, wrap64_id, upd_ne, mk3_true, flatten_replicate_one, stepK_if, ilt_true, ilt_false, ile_true, ile_false, Try.ntmps3])
          | (refine wantK_split (fun hc => ?_) (fun hc => ?_) <;> (try simp only [Bool.not_eq_true', Bool.not_eq_false', Bool.not_eq_eq_eq_not, Bool.not_true, Bool.not_false, decide_eq_true_eq, decide_eq_false_iff_not, Int.not_lt, Int.not_le] at hc) <;> (try (exfalso; omega)) <;> (try simp (disch := omega) [go_sem, *, wrap64_id, upd_ne, mk3_true, flatten_replicate_one, stepK_if, ilt_true, ilt_false, ile_true, ile_false, Try.ntmps3]))
          | (refine ac_cond_h fun Kt Kf ht hf => ?_; simp (disch := omega) [go_sem, *, wrap64_id, upd_ne, mk3_true, flatten_replicate_one, stepK_if, ilt_true, ilt_false, ile_true, ile_false, Try.ntmps3]; try (refine ⟨fun hc => ?_, fun hc => ?_⟩ <;> try (exfalso; omega))))
        refine Two.do A1.out (by omega) ww.out (by omega) s _ (fun H2 n2 hn2 A2 => ?_)
        have ww2 : Hide (Wok (doW w s).1) := ww.out.step s
        have hlw2 := (doW_last ww.out s).1
        have idw2 : Hide (Ids (doW w s).1) := Ids.step idw.out s
        obtain ⟨w2, hw2⟩ : ∃ w2, Hide (w2 = (doW w s).1) := ⟨_, rfl⟩
        obtain ⟨g, hg⟩ : ∃ g, Hide (g = (doW w s).2) := ⟨_, rfl⟩
        rw [← hw2.out] at A2 ww2 hlw2 idw2
        rw [← hg.out]
        replace A2 : Hide _ := A2
        clear A1
        obtain ⟨Y, hY1, hY2⟩ := At.mails (Two.left A2.out) ww2.out
        obtain ⟨y1, y2, y3, rfl, hy⟩ := hY1
        have hml2 := ww2.out.ml
        replace hy : Hide _ := hy
        replace hY2 : Hide _ := hY2
        repeat' (first
          | (refine ac_seq_h fun K hK => ?_)
          | (refine ac_region_h fun K hK => ?_; simp (disch := omega) [go_sem, *])
          | (refine ac_draw_h mixed (by kernel_rfl) fun K hK => ?_; simp (disch := omega) [go_sem, *, wrap64_id, upd_ne, mk3_true, flatten_replicate_one, stepK_if, ilt_true, ilt_false, ile_true, ile_false, Try.ntmps3])
          | (apply Hide.out hK; clear hK K; try with_reducible dsimp only [thenA])
          | (apply Hide.out ht; clear ht hf Kt Kf)
          | (apply Hide.out hf; clear ht hf Kt Kf)
          | (clear hK K; apply Hide.out hK; clear hK K; try with_reducible dsimp only [thenA])
          | (clear hK K; clear hK K; apply Hide.out hK; clear hK K; try with_reducible dsimp only [thenA])
          | (refine ac_block ?_)
          | (refine ac_skip ?_; simp only [thenA, blockA])
          | (refine ac_exit ?_; simp only [thenA, blockA, if_true, if_false, Nat.reduceEqDiff])
          | (with_reducible show nextK _ _ _ _ _ _ _; simp (disch := omega) [go_sem, *])
          | (refine wantK_split (fun hc => ?_) (fun hc => ?_) <;> (try simp only [Bool.not_eq_true', Bool.not_eq_false', Bool.not_eq_eq_eq_not, Bool.not_true, Bool.not_false, decide_eq_true_eq, decide_eq_false_iff_not, Int.not_lt, Int.not_le] at hc) <;> (try (exfalso; omega)) <;> (try simp (disch := omega) [go_sem, *, wrap64_id, upd_ne, mk3_true, flatten_replicate_one, stepK_if, ilt_true, ilt_false, ile_true, ile_false, Try.ntmps3]))
          | (refine ac_cond_h fun Kt Kf ht hf => ?_; simp (disch := omega) [go_sem, *, wrap64_id, upd_ne, mk3_true, flatten_replicate_one, stepK_if, ilt_true, ilt_false, ile_true, ile_false, Try.ntmps3]; try (refine ⟨fun hc => ?_, fun hc => ?_⟩ <;> try (exfalso; omega))))
        refine APureAt.call (hY2.out _) ?_
        clear hY2
        by_cases hbig : 150 < w2.mails.length
        · skip
          repeat' (first
            | (refine ac_seq_h fun K hK => ?_)
            | (refine ac_region_h fun K hK => ?_; simp (disch := omega) [go_sem, * ])
            | (refine ac_draw_h mixed (by kernel_rfl) fun K hK => ?_; simp (disch := omega) [go_sem, *, wrap64_id, upd_ne, mk3_true, flatten_replicate_one, stepK_if, ilt_true, ilt_false, ile_true, ile_false, Try.ntmps3 ])
            | (apply Hide.out hK; clear hK K; try with_reducible dsimp only [thenA])
            | (apply Hide.out ht; clear ht hf Kt Kf)
            | (apply Hide.out hf; clear ht hf Kt Kf)
            | (clear hK K; apply Hide.out hK; clear hK K; try with_reducible dsimp only [thenA])
            | (clear hK K; clear hK K; apply Hide.out hK; clear hK K; try with_reducible dsimp only [thenA])
            | (with_reducible refine APure.call (worlds_spec) ?_; try simp (disch := omega) [go_sem, * ])
            | (refine ac_block ?_)
            | (refine ac_skip ?_; simp only [thenA, blockA])
            | (refine ac_exit ?_; simp only [thenA, blockA, if_true, if_false, Nat.reduceEqDiff])
            | (with_reducible show nextK _ _ _ _ _ _ _; simp (disch := omega) [go_sem, *, ilt_true ])
            | (refine wantK_split (fun hc => ?_) (fun hc => ?_) <;> (try simp only [Bool.not_eq_true', Bool.not_eq_false', Bool.not_eq_eq_eq_not, Bool.not_true, Bool.not_false, decide_eq_true_eq, decide_eq_false_iff_not, Int.not_lt, Int.not_le] at hc) <;> (try (exfalso; omega)) <;> (try simp (disch := omega) [go_sem, *, wrap64_id, upd_ne, mk3_true, flatten_replicate_one, stepK_if, ilt_true, ilt_false, ile_true, ile_false, Try.ntmps3 ]))
            | (refine ac_cond_h fun Kt Kf ht hf => ?_; simp (disch := omega) [go_sem, * ]; try (refine ⟨fun hc => ?_, fun hc => ?_⟩ <;> try (exfalso; omega))))
          refine ac_ret ?_
          refine ⟨by simp, _, (by simp (disch := omega) [go_sem] <;> rfl), ?_⟩
          obtain ⟨_, _, _, _, _, hf, hb0⟩ := Two.left A2.out
          refine ret_id ⟨fun k hk => hf k (by omega), by simp [go_sem, below], by simp [go_sem], rfl, rfl⟩
        by_cases hg0 : ¬ g = 0
        · have hg1 : (g != 0) = true := by simpa using hg0
          have hwe : w2 = w := by rw [hw2.out]; exact doW_err (by rw [← hg.out]; exact hg0)
          replace hg0 : Hide _ := hg0
          clear hw2 hg
          subst hwe
          repeat' (first
            | (refine ac_seq_h fun K hK => ?_)
            | (refine ac_region_h fun K hK => ?_; simp (disch := omega) [go_sem, *, wrap64_id])
            | (refine ac_draw_h mixed (by kernel_rfl) fun K hK => ?_; simp (disch := omega) [go_sem, *, wrap64_id, upd_ne, mk3_true, flatten_replicate_one, stepK_if, ilt_true, ilt_false, ile_true, ile_false, Try.ntmps3])
            | (apply Hide.out hK; clear hK K; try with_reducible dsimp only [thenA])
            | (apply Hide.out ht; clear ht hf Kt Kf)
            | (apply Hide.out hf; clear ht hf Kt Kf)
            | (clear hK K; apply Hide.out hK; clear hK K; try with_reducible dsimp only [thenA])
            | (clear hK K; clear hK K; apply Hide.out hK; clear hK K; try with_reducible dsimp only [thenA])
            | (refine ac_block ?_)
            | (refine ac_skip ?_; simp only [thenA])
            | (refine ac_exit ?_; simp only [thenA, blockA, if_true, if_false, Nat.reduceEqDiff])
            | (with_reducible show nextK _ _ _ _ _ _ _; simp (disch := omega) [go_sem, *, ilt_false])
            | (refine wantK_split (fun hc => ?_) (fun hc => ?_) <;> (try simp only [Bool.not_eq_true', Bool.not_eq_false', Bool.not_eq_eq_eq_not, Bool.not_true, Bool.not_false, decide_eq_true_eq, decide_eq_false_iff_not, Int.not_lt, Int.not_le] at hc) <;> (try (exfalso; omega)) <;> (try simp (disch := omega) [go_sem, *, wrap64_id, upd_ne, mk3_true, flatten_replicate_one, stepK_if, ilt_true, ilt_false, ile_true, ile_false, Try.ntmps3]))
            | (refine ac_cond_h fun Kt Kf ht hf => ?_; simp (disch := omega) [go_sem, *]; try (refine ⟨fun hc => ?_, fun hc => ?_⟩ <;> try (exfalso; omega))))
          refine round_end (by simp [go_sem]) (Sub.refl _) ⟨i + 1, _, _, w2, v, by omega, Two.mono A2.out ?_, al.out, idw2.out, idv.out, ww2.out, wv.out, by omega, by omega, by omega, rfl⟩ (by simp [intAt, go_sem]; omega)
          omega
        obtain rfl : g = 0 := by omega
        have hok : (doW w s).2 = 0 := hg.out.symm
        have hkk := lean_kind (doW_kind hok)
        replace hok : Hide _ := hok
        have hr : Hide ((doW w s).1.mails.length ≤ 150) := by show (doW w s).1.mails.length ≤ 150; rw [← hw2.out]; omega
        have hlv2 := (doW_last wv.out s).1
        have wv2 : Hide (Wok (doW v s).1) := wv.out.step s
        have idv2 : Hide (Ids (doW v s).1) := Ids.step idv.out s
        have alB : Hide (conc P Q s → Alone P Q w2 (doW v s).1) := fun hc => by rw [hw2.out]; exact Alone.stepBoth al.out hc hok.out hr.out
        have alO : Hide (¬ conc P Q s → ¬ (s.kind = 3 ∨ s.kind = 4 ∨ s.kind = 5) → Alone P Q w2 v) := fun hc hk => by rw [hw2.out]; exact Alone.stepOther al.out hc hk hok.out
        obtain ⟨v2, hv2⟩ : ∃ v2, Hide (v2 = (doW v s).1) := ⟨_, rfl⟩
        rw [← hv2.out] at hlv2 wv2 idv2 alB
        clear hg
        by_cases ck : s.kind = 1
        · by_cases c1 : s.a = P
          · by_cases c2 : s.b = Q
            · skip
              have ba : (s.a == (P : Int)) = true := by simp; omega
              have bb : (s.b == (Q : Int)) = true := by simp; omega
              have cc : conc P Q s := .inl ⟨ck, .inl ⟨c1, c2⟩⟩
              have kl : s.kind ≤ 1 := by omega
              have kg : 1 ≤ s.kind := by omega
              have kb1 : (s.kind == 1) = true := by simp; omega
              have kb2 : (s.kind == 2) = false := by simp; omega
              have kb6 : (s.kind == 6) = false := by simp; omega
              replace ck : Hide _ := ck
              replace c1 : Hide _ := c1
              replace c2 : Hide _ := c2
              replace cc : Hide _ := cc
              have al2 : Hide (Alone P Q w2 v2) := alB.out (by unfold conc; exact cc.out)
              clear alB alO hr hok hw2 hpl hkk
              repeat' (first
                | (refine ac_seq_h fun K hK => ?_)
                | (refine ac_region_h fun K hK => ?_; simp (disch := omega) [go_sem, *])
                | (refine ac_draw_h mixed (by kernel_rfl) fun K hK => ?_; simp (disch := omega) [go_sem, *, wrap64_id, upd_ne, mk3_true, flatten_replicate_one, stepK_if, ilt_true, ilt_false, ile_true, ile_false, Try.ntmps3])
                | (apply Hide.out hK; clear hK K; try with_reducible dsimp only [thenA])
                | (apply Hide.out ht; clear ht hf Kt Kf)
                | (apply Hide.out hf; clear ht hf Kt Kf)
                | (clear hK K; apply Hide.out hK; clear hK K; try with_reducible dsimp only [thenA])
                | (clear hK K; clear hK K; apply Hide.out hK; clear hK K; try with_reducible dsimp only [thenA])
                | (refine ac_block ?_)
                | (refine ac_skip ?_; simp only [thenA])
                | (refine ac_exit ?_; simp only [thenA, blockA, if_true, if_false, Nat.reduceEqDiff])
                | (with_reducible show nextK _ _ _ _ _ _ _; simp (disch := omega) [go_sem, *, ilt_false])
                | (refine wantK_split (fun hc => ?_) (fun hc => ?_) <;> (try simp only [Bool.not_eq_true', Bool.not_eq_false', Bool.not_eq_eq_eq_not, Bool.not_true, Bool.not_false, decide_eq_true_eq, decide_eq_false_iff_not, Int.not_lt, Int.not_le] at hc) <;> (try (exfalso; omega)) <;> (try simp (disch := omega) [go_sem, *, wrap64_id, upd_ne, mk3_true, flatten_replicate_one, stepK_if, ilt_true, ilt_false, ile_true, ile_false, Try.ntmps3]))
                | (refine ac_cond_h fun Kt Kf ht hf => ?_; simp (disch := omega) [go_sem, *]; try (refine ⟨fun hc => ?_, fun hc => ?_⟩ <;> try (exfalso; omega))))
              refine Two.do2 A2.out (by omega) wv.out (by omega) s _ (fun H3 n3 hn3 A3 => ?_)
              rw [← hv2.out] at A3
              replace A3 : Hide _ := A3
              repeat' (first
                | (refine ac_seq_h fun K hK => ?_)
                | (refine ac_region_h fun K hK => ?_; simp (disch := omega) [go_sem, *, wrap64_id, ile_false])
                | (refine ac_draw_h mixed (by kernel_rfl) fun K hK => ?_; simp (disch := omega) [go_sem, *, wrap64_id, upd_ne, mk3_true, flatten_replicate_one, stepK_if, ilt_true, ilt_false, ile_true, ile_false, Try.ntmps3])
                | (apply Hide.out hK; clear hK K; try with_reducible dsimp only [thenA])
                | (apply Hide.out ht; clear ht hf Kt Kf)
                | (apply Hide.out hf; clear ht hf Kt Kf)
                | (clear hK K; apply Hide.out hK; clear hK K; try with_reducible dsimp only [thenA])
                | (clear hK K; clear hK K; apply Hide.out hK; clear hK K; try with_reducible dsimp only [thenA])
                | (refine ac_block ?_)
                | (refine ac_skip ?_; simp only [thenA, blockA])
                | (refine ac_exit ?_; simp only [thenA, blockA, if_true, if_false, Nat.reduceEqDiff])
                | (with_reducible show nextK _ _ _ _ _ _ _; simp (disch := omega) [go_sem, *, wrap64_id, upd_ne, mk3_true, flatten_replicate_one, stepK_if, ilt_true, ilt_false, ile_true, ile_false, Try.ntmps3])
                | (refine wantK_split (fun hc => ?_) (fun hc => ?_) <;> (try simp only [Bool.not_eq_true', Bool.not_eq_false', Bool.not_eq_eq_eq_not, Bool.not_true, Bool.not_false, decide_eq_true_eq, decide_eq_false_iff_not, Int.not_lt, Int.not_le] at hc) <;> (try (exfalso; omega)) <;> (try simp (disch := omega) [go_sem, *, wrap64_id, upd_ne, mk3_true, flatten_replicate_one, stepK_if, ilt_true, ilt_false, ile_true, ile_false, Try.ntmps3]))
                | (refine ac_cond_h fun Kt Kf ht hf => ?_; simp (disch := omega) [go_sem, *]; try (refine ⟨fun hc => ?_, fun hc => ?_⟩ <;> try (exfalso; omega))))
              refine round_end (by simp [go_sem]) (Sub.refl _) ⟨i + 1, _, _, w2, v2, by omega, Two.mono A3.out ?_, al2.out, idw2.out, idv2.out, ww2.out, wv2.out, by omega, by omega, by omega, rfl⟩ (by simp [intAt, go_sem]; omega)
              omega
            · skip
              have ba : (s.a == (P : Int)) = true := by simp; omega
              have bb : (s.b == (Q : Int)) = false := by simp; omega
              have bc : (s.a == (Q : Int)) = false := by simp; omega
              have cc : ¬ conc P Q s := by unfold conc; omega
              have kl : s.kind ≤ 1 := by omega
              have kg : 1 ≤ s.kind := by omega
              have kb1 : (s.kind == 1) = true := by simp; omega
              have kb2 : (s.kind == 2) = false := by simp; omega
              have kb6 : (s.kind == 6) = false := by simp; omega
              replace ck : Hide _ := ck
              replace c1 : Hide _ := c1
              replace c2 : Hide _ := c2
              replace cc : Hide _ := cc
              have al2 : Hide (Alone P Q w2 v) := alO.out (by unfold conc; simp only [beq_iff_eq, beq_eq_false_iff_ne] at *; omega) (by omega)
              clear alB alO hr hok hw2 hpl hkk
              repeat' (first
                | (refine ac_seq_h fun K hK => ?_)
                | (refine ac_region_h fun K hK => ?_; simp (disch := omega) [go_sem, *, wrap64_id, ile_false])
                | (refine ac_draw_h mixed (by kernel_rfl) fun K hK => ?_; simp (disch := omega) [go_sem, *, wrap64_id, upd_ne, mk3_true, flatten_replicate_one, stepK_if, ilt_true, ilt_false, ile_true, ile_false, Try.ntmps3])
                | (apply Hide.out hK; clear hK K; try with_reducible dsimp only [thenA])
                | (apply Hide.out ht; clear ht hf Kt Kf)
                | (apply Hide.out hf; clear ht hf Kt Kf)
                | (clear hK K; apply Hide.out hK; clear hK K; try with_reducible dsimp only [thenA])
                | (clear hK K; clear hK K; apply Hide.out hK; clear hK K; try with_reducible dsimp only [thenA])
                | (refine ac_block ?_)
                | (refine ac_skip ?_; simp only [thenA, blockA])
                | (refine ac_exit ?_; simp only [thenA, blockA, if_true, if_false, Nat.reduceEqDiff])
                | (with_reducible show nextK _ _ _ _ _ _ _; simp (disch := omega) [go_sem, *, ilt_false])
                | (refine wantK_split (fun hc => ?_) (fun hc => ?_) <;> (try simp only [Bool.not_eq_true', Bool.not_eq_false', Bool.not_eq_eq_eq_not, Bool.not_true, Bool.not_false, decide_eq_true_eq, decide_eq_false_iff_not, Int.not_lt, Int.not_le] at hc) <;> (try (exfalso; omega)) <;> (try simp (disch := omega) [go_sem, *, wrap64_id, upd_ne, mk3_true, flatten_replicate_one, stepK_if, ilt_true, ilt_false, ile_true, ile_false, Try.ntmps3]))
                | (refine ac_cond_h fun Kt Kf ht hf => ?_; simp (disch := omega) [go_sem, *]; try (refine ⟨fun hc => ?_, fun hc => ?_⟩ <;> try (exfalso; omega))))
              refine round_end (by simp [go_sem]) (Sub.refl _) ⟨i + 1, _, _, w2, v, by omega, Two.mono A2.out ?_, al2.out, idw2.out, idv.out, ww2.out, wv.out, by omega, by omega, by omega, rfl⟩ (by simp [intAt, go_sem]; omega)
              omega
          · by_cases c3 : s.a = Q
            · by_cases c2 : s.b = P
              · skip
                have ba : (s.a == (P : Int)) = false := by simp; omega
                have bc : (s.a == (Q : Int)) = true := by simp; omega
                have bd : (s.b == (P : Int)) = true := by simp; omega
                have cc : conc P Q s := .inl ⟨ck, .inr ⟨c3, c2⟩⟩
                have kl : s.kind ≤ 1 := by omega
                have kg : 1 ≤ s.kind := by omega
                have kb1 : (s.kind == 1) = true := by simp; omega
                have kb2 : (s.kind == 2) = false := by simp; omega
                have kb6 : (s.kind == 6) = false := by simp; omega
                replace ck : Hide _ := ck
                replace c1 : Hide _ := c1
                replace c2 : Hide _ := c2
                replace c3 : Hide _ := c3
                replace cc : Hide _ := cc
                have al2 : Hide (Alone P Q w2 v2) := alB.out (by unfold conc; exact cc.out)
                clear alB alO hr hok hw2 hpl hkk
                repeat' (first
                  | (refine ac_seq_h fun K hK => ?_)
                  | (refine ac_region_h fun K hK => ?_; simp (disch := omega) [go_sem, *])
                  | (refine ac_draw_h mixed (by kernel_rfl) fun K hK => ?_; simp (disch := omega) [go_sem, *, wrap64_id, upd_ne, mk3_true, flatten_replicate_one, stepK_if, ilt_true, ilt_false, ile_true, ile_false, Try.ntmps3])
                  | (apply Hide.out hK; clear hK K; try with_reducible dsimp only [thenA])
                  | (apply Hide.out ht; clear ht hf Kt Kf)
                  | (apply Hide.out hf; clear ht hf Kt Kf)
                  | (clear hK K; apply Hide.out hK; clear hK K; try with_reducible dsimp only [thenA])
                  | (clear hK K; clear hK K; apply Hide.out hK; clear hK K; try with_reducible dsimp only [thenA])
                  | (refine ac_block ?_)
                  | (refine ac_skip ?_; simp only [thenA])
                  | (refine ac_exit ?_; simp only [thenA, blockA, if_true, if_false, Nat.reduceEqDiff])
                  | (with_reducible show nextK _ _ _ _ _ _ _; simp (disch := omega) [go_sem, *, ilt_false])
                  | (refine wantK_split (fun hc => ?_) (fun hc => ?_) <;> (try simp only [Bool.not_eq_true', Bool.not_eq_false', Bool.not_eq_eq_eq_not, Bool.not_true, Bool.not_false, decide_eq_true_eq, decide_eq_false_iff_not, Int.not_lt, Int.not_le] at hc) <;> (try (exfalso; omega)) <;> (try simp (disch := omega) [go_sem, *, wrap64_id, upd_ne, mk3_true, flatten_replicate_one, stepK_if, ilt_true, ilt_false, ile_true, ile_false, Try.ntmps3]))
                  | (refine ac_cond_h fun Kt Kf ht hf => ?_; simp (disch := omega) [go_sem, *]; try (refine ⟨fun hc => ?_, fun hc => ?_⟩ <;> try (exfalso; omega))))
                refine Two.do2 A2.out (by omega) wv.out (by omega) s _ (fun H3 n3 hn3 A3 => ?_)
                rw [← hv2.out] at A3
                replace A3 : Hide _ := A3
                repeat' (first
                  | (refine ac_seq_h fun K hK => ?_)
                  | (refine ac_region_h fun K hK => ?_; simp (disch := omega) [go_sem, *, wrap64_id, ile_false])
                  | (refine ac_draw_h mixed (by kernel_rfl) fun K hK => ?_; simp (disch := omega) [go_sem, *, wrap64_id, upd_ne, mk3_true, flatten_replicate_one, stepK_if, ilt_true, ilt_false, ile_true, ile_false, Try.ntmps3])
                  | (apply Hide.out hK; clear hK K; try with_reducible dsimp only [thenA])
                  | (apply Hide.out ht; clear ht hf Kt Kf)
                  | (apply Hide.out hf; clear ht hf Kt Kf)
                  | (clear hK K; apply Hide.out hK; clear hK K; try with_reducible dsimp only [thenA])
                  | (clear hK K; clear hK K; apply Hide.out hK; clear hK K; try with_reducible dsimp only [thenA])
                  | (refine ac_block ?_)
                  | (refine ac_skip ?_; simp only [thenA, blockA])
                  | (refine ac_exit ?_; simp only [thenA, blockA, if_true, if_false, Nat.reduceEqDiff])
                  | (with_reducible show nextK _ _ _ _ _ _ _; simp (disch := omega) [go_sem, *, wrap64_id, upd_ne, mk3_true, flatten_replicate_one, stepK_if, ilt_true, ilt_false, ile_true, ile_false, Try.ntmps3])
                  | (refine wantK_split (fun hc => ?_) (fun hc => ?_) <;> (try simp only [Bool.not_eq_true', Bool.not_eq_false', Bool.not_eq_eq_eq_not, Bool.not_true, Bool.not_false, decide_eq_true_eq, decide_eq_false_iff_not, Int.not_lt, Int.not_le] at hc) <;> (try (exfalso; omega)) <;> (try simp (disch := omega) [go_sem, *, wrap64_id, upd_ne, mk3_true, flatten_replicate_one, stepK_if, ilt_true, ilt_false, ile_true, ile_false, Try.ntmps3]))
                  | (refine ac_cond_h fun Kt Kf ht hf => ?_; simp (disch := omega) [go_sem, *]; try (refine ⟨fun hc => ?_, fun hc => ?_⟩ <;> try (exfalso; omega))))
                refine round_end (by simp [go_sem]) (Sub.refl _) ⟨i + 1, _, _, w2, v2, by omega, Two.mono A3.out ?_, al2.out, idw2.out, idv2.out, ww2.out, wv2.out, by omega, by omega, by omega, rfl⟩ (by simp [intAt, go_sem]; omega)
                omega
              · skip
                have ba : (s.a == (P : Int)) = false := by simp; omega
                have bc : (s.a == (Q : Int)) = true := by simp; omega
                have bd : (s.b == (P : Int)) = false := by simp; omega
                have cc : ¬ conc P Q s := by unfold conc; omega
                have kl : s.kind ≤ 1 := by omega
                have kg : 1 ≤ s.kind := by omega
                have kb1 : (s.kind == 1) = true := by simp; omega
                have kb2 : (s.kind == 2) = false := by simp; omega
                have kb6 : (s.kind == 6) = false := by simp; omega
                replace ck : Hide _ := ck
                replace c1 : Hide _ := c1
                replace c2 : Hide _ := c2
                replace c3 : Hide _ := c3
                replace cc : Hide _ := cc
                have al2 : Hide (Alone P Q w2 v) := alO.out (by unfold conc; simp only [beq_iff_eq, beq_eq_false_iff_ne] at *; omega) (by omega)
                clear alB alO hr hok hw2 hpl hkk
                repeat' (first
                  | (refine ac_seq_h fun K hK => ?_)
                  | (refine ac_region_h fun K hK => ?_; simp (disch := omega) [go_sem, *, wrap64_id, ile_false])
                  | (refine ac_draw_h mixed (by kernel_rfl) fun K hK => ?_; simp (disch := omega) [go_sem, *, wrap64_id, upd_ne, mk3_true, flatten_replicate_one, stepK_if, ilt_true, ilt_false, ile_true, ile_false, Try.ntmps3])
                  | (apply Hide.out hK; clear hK K; try with_reducible dsimp only [thenA])
                  | (apply Hide.out ht; clear ht hf Kt Kf)
                  | (apply Hide.out hf; clear ht hf Kt Kf)
                  | (clear hK K; apply Hide.out hK; clear hK K; try with_reducible dsimp only [thenA])
                  | (clear hK K; clear hK K; apply Hide.out hK; clear hK K; try with_reducible dsimp only [thenA])
                  | (refine ac_block ?_)
                  | (refine ac_skip ?_; simp only [thenA, blockA])
                  | (refine ac_exit ?_; simp only [thenA, blockA, if_true, if_false, Nat.reduceEqDiff])
                  | (with_reducible show nextK _ _ _ _ _ _ _; simp (disch := omega) [go_sem, *, ilt_false])
                  | (refine wantK_split (fun hc => ?_) (fun hc => ?_) <;> (try simp only [Bool.not_eq_true', Bool.not_eq_false', Bool.not_eq_eq_eq_not, Bool.not_true, Bool.not_false, decide_eq_true_eq, decide_eq_false_iff_not, Int.not_lt, Int.not_le] at hc) <;> (try (exfalso; omega)) <;> (try simp (disch := omega) [go_sem, *, wrap64_id, upd_ne, mk3_true, flatten_replicate_one, stepK_if, ilt_true, ilt_false, ile_true, ile_false, Try.ntmps3]))
                  | (refine ac_cond_h fun Kt Kf ht hf => ?_; simp (disch := omega) [go_sem, *]; try (refine ⟨fun hc => ?_, fun hc => ?_⟩ <;> try (exfalso; omega))))
                refine round_end (by simp [go_sem]) (Sub.refl _) ⟨i + 1, _, _, w2, v, by omega, Two.mono A2.out ?_, al2.out, idw2.out, idv.out, ww2.out, wv.out, by omega, by omega, by omega, rfl⟩ (by simp [intAt, go_sem]; omega)
                omega
            · skip
              have ba : (s.a == (P : Int)) = false := by simp; omega
              have bc : (s.a == (Q : Int)) = false := by simp; omega
              have cc : ¬ conc P Q s := by unfold conc; omega
              have kl : s.kind ≤ 1 := by omega
              have kg : 1 ≤ s.kind := by omega
              have kb1 : (s.kind == 1) = true := by simp; omega
              have kb2 : (s.kind == 2) = false := by simp; omega
              have kb6 : (s.kind == 6) = false := by simp; omega
              replace ck : Hide _ := ck
              replace c1 : Hide _ := c1
              replace c3 : Hide _ := c3
              replace cc : Hide _ := cc
              have al2 : Hide (Alone P Q w2 v) := alO.out (by unfold conc; simp only [beq_iff_eq, beq_eq_false_iff_ne] at *; omega) (by omega)
              clear alB alO hr hok hw2 hpl hkk
              repeat' (first
                | (refine ac_seq_h fun K hK => ?_)
                | (refine ac_region_h fun K hK => ?_; simp (disch := omega) [go_sem, *, wrap64_id, ile_false])
                | (refine ac_draw_h mixed (by kernel_rfl) fun K hK => ?_; simp (disch := omega) [go_sem, *, wrap64_id, upd_ne, mk3_true, flatten_replicate_one, stepK_if, ilt_true, ilt_false, ile_true, ile_false, Try.ntmps3])
                | (apply Hide.out hK; clear hK K; try with_reducible dsimp only [thenA])
                | (apply Hide.out ht; clear ht hf Kt Kf)
                | (apply Hide.out hf; clear ht hf Kt Kf)
                | (clear hK K; apply Hide.out hK; clear hK K; try with_reducible dsimp only [thenA])
                | (clear hK K; clear hK K; apply Hide.out hK; clear hK K; try with_reducible dsimp only [thenA])
                | (refine ac_block ?_)
                | (refine ac_skip ?_; simp only [thenA, blockA])
                | (refine ac_exit ?_; simp only [thenA, blockA, if_true, if_false, Nat.reduceEqDiff])
                | (with_reducible show nextK _ _ _ _ _ _ _; simp (disch := omega) [go_sem, *, ilt_false])
                | (refine wantK_split (fun hc => ?_) (fun hc => ?_) <;> (try simp only [Bool.not_eq_true', Bool.not_eq_false', Bool.not_eq_eq_eq_not, Bool.not_true, Bool.not_false, decide_eq_true_eq, decide_eq_false_iff_not, Int.not_lt, Int.not_le] at hc) <;> (try (exfalso; omega)) <;> (try simp (disch := omega) [go_sem, *, wrap64_id, upd_ne, mk3_true, flatten_replicate_one, stepK_if, ilt_true, ilt_false, ile_true, ile_false, Try.ntmps3]))
                | (refine ac_cond_h fun Kt Kf ht hf => ?_; simp (disch := omega) [go_sem, *]; try (refine ⟨fun hc => ?_, fun hc => ?_⟩ <;> try (exfalso; omega))))
              refine round_end (by simp [go_sem]) (Sub.refl _) ⟨i + 1, _, _, w2, v, by omega, Two.mono A2.out ?_, al2.out, idw2.out, idv.out, ww2.out, wv.out, by omega, by omega, by omega, rfl⟩ (by simp [intAt, go_sem]; omega)
              omega
        have ck1 := ck
        clear ck
        by_cases ck : s.kind = 2
        · skip
          have cc : conc P Q s := .inr (.inl ck)
          have kl : s.kind ≤ 2 := by omega
          have kg : 2 ≤ s.kind := by omega
          have kb1 : (s.kind == 1) = false := by simp; omega
          have kb2 : (s.kind == 2) = true := by simp; omega
          have kb6 : (s.kind == 6) = false := by simp; omega
          replace ck : Hide _ := ck
          replace cc : Hide _ := cc
          have al2 : Hide (Alone P Q w2 v2) := alB.out (by unfold conc; exact cc.out)
          clear alB alO hr hok hw2 hpl hkk
          repeat' (first
            | (refine ac_seq_h fun K hK => ?_)
            | (refine ac_region_h fun K hK => ?_; simp (disch := omega) [go_sem, *])
            | (refine ac_draw_h mixed (by kernel_rfl) fun K hK => ?_; simp (disch := omega) [go_sem, *, wrap64_id, upd_ne, mk3_true, flatten_replicate_one, stepK_if, ilt_true, ilt_false, ile_true, ile_false, Try.ntmps3])
            | (apply Hide.out hK; clear hK K; try with_reducible dsimp only [thenA])
            | (apply Hide.out ht; clear ht hf Kt Kf)
            | (apply Hide.out hf; clear ht hf Kt Kf)
            | (clear hK K; apply Hide.out hK; clear hK K; try with_reducible dsimp only [thenA])
            | (clear hK K; clear hK K; apply Hide.out hK; clear hK K; try with_reducible dsimp only [thenA])
            | (refine ac_block ?_)
            | (refine ac_skip ?_; simp only [thenA])
            | (refine ac_exit ?_; simp only [thenA, blockA, if_true, if_false, Nat.reduceEqDiff])
            | (with_reducible show nextK _ _ _ _ _ _ _; simp (disch := omega) [go_sem, *, ilt_false])
            | (refine wantK_split (fun hc => ?_) (fun hc => ?_) <;> (try simp only [Bool.not_eq_true', Bool.not_eq_false', Bool.not_eq_eq_eq_not, Bool.not_true, Bool.not_false, decide_eq_true_eq, decide_eq_false_iff_not, Int.not_lt, Int.not_le] at hc) <;> (try (exfalso; omega)) <;> (try simp (disch := omega) [go_sem, *, wrap64_id, upd_ne, mk3_true, flatten_replicate_one, stepK_if, ilt_true, ilt_false, ile_true, ile_false, Try.ntmps3]))
            | (refine ac_cond_h fun Kt Kf ht hf => ?_; simp (disch := omega) [go_sem, *]; try (refine ⟨fun hc => ?_, fun hc => ?_⟩ <;> try (exfalso; omega))))
          refine Two.do2 A2.out (by omega) wv.out (by omega) s _ (fun H3 n3 hn3 A3 => ?_)
          rw [← hv2.out] at A3
          replace A3 : Hide _ := A3
          repeat' (first
            | (refine ac_seq_h fun K hK => ?_)
            | (refine ac_region_h fun K hK => ?_; simp (disch := omega) [go_sem, *, wrap64_id, ile_false])
            | (refine ac_draw_h mixed (by kernel_rfl) fun K hK => ?_; simp (disch := omega) [go_sem, *, wrap64_id, upd_ne, mk3_true, flatten_replicate_one, stepK_if, ilt_true, ilt_false, ile_true, ile_false, Try.ntmps3])
            | (apply Hide.out hK; clear hK K; try with_reducible dsimp only [thenA])
            | (apply Hide.out ht; clear ht hf Kt Kf)
            | (apply Hide.out hf; clear ht hf Kt Kf)
            | (clear hK K; apply Hide.out hK; clear hK K; try with_reducible dsimp only [thenA])
            | (clear hK K; clear hK K; apply Hide.out hK; clear hK K; try with_reducible dsimp only [thenA])
            | (refine ac_block ?_)
            | (refine ac_skip ?_; simp only [thenA, blockA])
            | (refine ac_exit ?_; simp only [thenA, blockA, if_true, if_false, Nat.reduceEqDiff])
            | (with_reducible show nextK _ _ _ _ _ _ _; simp (disch := omega) [go_sem, *, wrap64_id, upd_ne, mk3_true, flatten_replicate_one, stepK_if, ilt_true, ilt_false, ile_true, ile_false, Try.ntmps3])
            | (refine wantK_split (fun hc => ?_) (fun hc => ?_) <;> (try simp only [Bool.not_eq_true', Bool.not_eq_false', Bool.not_eq_eq_eq_not, Bool.not_true, Bool.not_false, decide_eq_true_eq, decide_eq_false_iff_not, Int.not_lt, Int.not_le] at hc) <;> (try (exfalso; omega)) <;> (try simp (disch := omega) [go_sem, *, wrap64_id, upd_ne, mk3_true, flatten_replicate_one, stepK_if, ilt_true, ilt_false, ile_true, ile_false, Try.ntmps3]))
            | (refine ac_cond_h fun Kt Kf ht hf => ?_; simp (disch := omega) [go_sem, *]; try (refine ⟨fun hc => ?_, fun hc => ?_⟩ <;> try (exfalso; omega))))
          refine round_end (by simp [go_sem]) (Sub.refl _) ⟨i + 1, _, _, w2, v2, by omega, Two.mono A3.out ?_, al2.out, idw2.out, idv2.out, ww2.out, wv2.out, by omega, by omega, by omega, rfl⟩ (by simp [intAt, go_sem]; omega)
          omega
        have ck2 := ck
        clear ck
        by_cases ck : s.kind = 6
        · by_cases c1 : s.a = P
          · skip
            have ba : (s.a == (P : Int)) = true := by simp; omega
            have cc : conc P Q s := .inr (.inr ⟨ck, .inl c1⟩)
            have kl : s.kind ≤ 6 := by omega
            have kg : 6 ≤ s.kind := by omega
            have kb1 : (s.kind == 1) = false := by simp; omega
            have kb2 : (s.kind == 2) = false := by simp; omega
            have kb6 : (s.kind == 6) = true := by simp; omega
            replace ck : Hide _ := ck
            replace c1 : Hide _ := c1
            replace cc : Hide _ := cc
            have al2 : Hide (Alone P Q w2 v2) := alB.out (by unfold conc; exact cc.out)
            clear alB alO hr hok hw2 hpl hkk
            repeat' (first
              | (refine ac_seq_h fun K hK => ?_)
              | (refine ac_region_h fun K hK => ?_; simp (disch := omega) [go_sem, *])
              | (refine ac_draw_h mixed (by kernel_rfl) fun K hK => ?_; simp (disch := omega) [go_sem, *, wrap64_id, upd_ne, mk3_true, flatten_replicate_one, stepK_if, ilt_true, ilt_false, ile_true, ile_false, Try.ntmps3])
              | (apply Hide.out hK; clear hK K; try with_reducible dsimp only [thenA])
              | (apply Hide.out ht; clear ht hf Kt Kf)
              | (apply Hide.out hf; clear ht hf Kt Kf)
              | (clear hK K; apply Hide.out hK; clear hK K; try with_reducible dsimp only [thenA])
              | (clear hK K; clear hK K; apply Hide.out hK; clear hK K; try with_reducible dsimp only [thenA])
              | (refine ac_block ?_)
              | (refine ac_skip ?_; simp only [thenA])
              | (refine ac_exit ?_; simp only [thenA, blockA, if_true, if_false, Nat.reduceEqDiff])
              | (with_reducible show nextK _ _ _ _ _ _ _; simp (disch := omega) [go_sem, *, ilt_false])
              | (refine wantK_split (fun hc => ?_) (fun hc => ?_) <;> (try simp only [Bool.not_eq_true', Bool.not_eq_false', Bool.not_eq_eq_eq_not, Bool.not_true, Bool.not_false, decide_eq_true_eq, decide_eq_false_iff_not, Int.not_lt, Int.not_le] at hc) <;> (try (exfalso; omega)) <;> (try simp (disch := omega) [go_sem, *, wrap64_id, upd_ne, mk3_true, flatten_replicate_one, stepK_if, ilt_true, ilt_false, ile_true, ile_false, Try.ntmps3]))
              | (refine ac_cond_h fun Kt Kf ht hf => ?_; simp (disch := omega) [go_sem, *]; try (refine ⟨fun hc => ?_, fun hc => ?_⟩ <;> try (exfalso; omega))))
            refine Two.do2 A2.out (by omega) wv.out (by omega) s _ (fun H3 n3 hn3 A3 => ?_)
            rw [← hv2.out] at A3
            replace A3 : Hide _ := A3
            repeat' (first
              | (refine ac_seq_h fun K hK => ?_)
              | (refine ac_region_h fun K hK => ?_; simp (disch := omega) [go_sem, *, wrap64_id, ile_true, ile_false])
              | (refine ac_draw_h mixed (by kernel_rfl) fun K hK => ?_; simp (disch := omega) [go_sem, *, wrap64_id, upd_ne, mk3_true, flatten_replicate_one, stepK_if, ilt_true, ilt_false, ile_true, ile_false, Try.ntmps3])
              | (apply Hide.out hK; clear hK K; try with_reducible dsimp only [thenA])
              | (apply Hide.out ht; clear ht hf Kt Kf)
              | (apply Hide.out hf; clear ht hf Kt Kf)
              | (clear hK K; apply Hide.out hK; clear hK K; try with_reducible dsimp only [thenA])
              | (clear hK K; clear hK K; apply Hide.out hK; clear hK K; try with_reducible dsimp only [thenA])
              | (refine ac_block ?_)
              | (refine ac_skip ?_; simp only [thenA, blockA])
              | (refine ac_exit ?_; simp only [thenA, blockA, if_true, if_false, Nat.reduceEqDiff])
              | (with_reducible show nextK _ _ _ _ _ _ _; simp (disch := omega) [go_sem, *, wrap64_id, upd_ne, mk3_true, flatten_replicate_one, stepK_if, ilt_true, ilt_false, ile_true, ile_false, Try.ntmps3])
              | (refine wantK_split (fun hc => ?_) (fun hc => ?_) <;> (try simp only [Bool.not_eq_true', Bool.not_eq_false', Bool.not_eq_eq_eq_not, Bool.not_true, Bool.not_false, decide_eq_true_eq, decide_eq_false_iff_not, Int.not_lt, Int.not_le] at hc) <;> (try (exfalso; omega)) <;> (try simp (disch := omega) [go_sem, *, wrap64_id, upd_ne, mk3_true, flatten_replicate_one, stepK_if, ilt_true, ilt_false, ile_true, ile_false, Try.ntmps3]))
              | (refine ac_cond_h fun Kt Kf ht hf => ?_; simp (disch := omega) [go_sem, *]; try (refine ⟨fun hc => ?_, fun hc => ?_⟩ <;> try (exfalso; omega))))
            refine round_end (by simp [go_sem]) (Sub.refl _) ⟨i + 1, _, _, w2, v2, by omega, Two.mono A3.out ?_, al2.out, idw2.out, idv2.out, ww2.out, wv2.out, by omega, by omega, by omega, rfl⟩ (by simp [intAt, go_sem]; omega)
            omega
          by_cases c3 : s.a = Q
          · skip
            have ba : (s.a == (P : Int)) = false := by simp; omega
            have bc : (s.a == (Q : Int)) = true := by simp; omega
            have cc : conc P Q s := .inr (.inr ⟨ck, .inr c3⟩)
            have kl : s.kind ≤ 6 := by omega
            have kg : 6 ≤ s.kind := by omega
            have kb1 : (s.kind == 1) = false := by simp; omega
            have kb2 : (s.kind == 2) = false := by simp; omega
            have kb6 : (s.kind == 6) = true := by simp; omega
            replace ck : Hide _ := ck
            replace c1 : Hide _ := c1
            replace c3 : Hide _ := c3
            replace cc : Hide _ := cc
            have al2 : Hide (Alone P Q w2 v2) := alB.out (by unfold conc; exact cc.out)
            clear alB alO hr hok hw2 hpl hkk
            repeat' (first
              | (refine ac_seq_h fun K hK => ?_)
              | (refine ac_region_h fun K hK => ?_; simp (disch := omega) [go_sem, *])
              | (refine ac_draw_h mixed (by kernel_rfl) fun K hK => ?_; simp (disch := omega) [go_sem, *, wrap64_id, upd_ne, mk3_true, flatten_replicate_one, stepK_if, ilt_true, ilt_false, ile_true, ile_false, Try.ntmps3])
              | (apply Hide.out hK; clear hK K; try with_reducible dsimp only [thenA])
              | (apply Hide.out ht; clear ht hf Kt Kf)
              | (apply Hide.out hf; clear ht hf Kt Kf)
              | (clear hK K; apply Hide.out hK; clear hK K; try with_reducible dsimp only [thenA])
              | (clear hK K; clear hK K; apply Hide.out hK; clear hK K; try with_reducible dsimp only [thenA])
              | (refine ac_block ?_)
              | (refine ac_skip ?_; simp only [thenA])
              | (refine ac_exit ?_; simp only [thenA, blockA, if_true, if_false, Nat.reduceEqDiff])
              | (with_reducible show nextK _ _ _ _ _ _ _; simp (disch := omega) [go_sem, *, ilt_false])
              | (refine wantK_split (fun hc => ?_) (fun hc => ?_) <;> (try simp only [Bool.not_eq_true', Bool.not_eq_false', Bool.not_eq_eq_eq_not, Bool.not_true, Bool.not_false, decide_eq_true_eq, decide_eq_false_iff_not, Int.not_lt, Int.not_le] at hc) <;> (try (exfalso; omega)) <;> (try simp (disch := omega) [go_sem, *, wrap64_id, upd_ne, mk3_true, flatten_replicate_one, stepK_if, ilt_true, ilt_false, ile_true, ile_false, Try.ntmps3]))
              | (refine ac_cond_h fun Kt Kf ht hf => ?_; simp (disch := omega) [go_sem, *]; try (refine ⟨fun hc => ?_, fun hc => ?_⟩ <;> try (exfalso; omega))))
            refine Two.do2 A2.out (by omega) wv.out (by omega) s _ (fun H3 n3 hn3 A3 => ?_)
            rw [← hv2.out] at A3
            replace A3 : Hide _ := A3
            repeat' (first
              | (refine ac_seq_h fun K hK => ?_)
              | (refine ac_region_h fun K hK => ?_; simp (disch := omega) [go_sem, *, wrap64_id, ile_true, ile_false])
              | (refine ac_draw_h mixed (by kernel_rfl) fun K hK => ?_; simp (disch := omega) [go_sem, *, wrap64_id, upd_ne, mk3_true, flatten_replicate_one, stepK_if, ilt_true, ilt_false, ile_true, ile_false, Try.ntmps3])
              | (apply Hide.out hK; clear hK K; try with_reducible dsimp only [thenA])
              | (apply Hide.out ht; clear ht hf Kt Kf)
              | (apply Hide.out hf; clear ht hf Kt Kf)
              | (clear hK K; apply Hide.out hK; clear hK K; try with_reducible dsimp only [thenA])
              | (clear hK K; clear hK K; apply Hide.out hK; clear hK K; try with_reducible dsimp only [thenA])
              | (refine ac_block ?_)
              | (refine ac_skip ?_; simp only [thenA, blockA])
              | (refine ac_exit ?_; simp only [thenA, blockA, if_true, if_false, Nat.reduceEqDiff])
              | (with_reducible show nextK _ _ _ _ _ _ _; simp (disch := omega) [go_sem, *, wrap64_id, upd_ne, mk3_true, flatten_replicate_one, stepK_if, ilt_true, ilt_false, ile_true, ile_false, Try.ntmps3])
              | (refine wantK_split (fun hc => ?_) (fun hc => ?_) <;> (try simp only [Bool.not_eq_true', Bool.not_eq_false', Bool.not_eq_eq_eq_not, Bool.not_true, Bool.not_false, decide_eq_true_eq, decide_eq_false_iff_not, Int.not_lt, Int.not_le] at hc) <;> (try (exfalso; omega)) <;> (try simp (disch := omega) [go_sem, *, wrap64_id, upd_ne, mk3_true, flatten_replicate_one, stepK_if, ilt_true, ilt_false, ile_true, ile_false, Try.ntmps3]))
              | (refine ac_cond_h fun Kt Kf ht hf => ?_; simp (disch := omega) [go_sem, *]; try (refine ⟨fun hc => ?_, fun hc => ?_⟩ <;> try (exfalso; omega))))
            refine round_end (by simp [go_sem]) (Sub.refl _) ⟨i + 1, _, _, w2, v2, by omega, Two.mono A3.out ?_, al2.out, idw2.out, idv2.out, ww2.out, wv2.out, by omega, by omega, by omega, rfl⟩ (by simp [intAt, go_sem]; omega)
            omega
          · skip
            have ba : (s.a == (P : Int)) = false := by simp; omega
            have bc : (s.a == (Q : Int)) = false := by simp; omega
            have cc : ¬ conc P Q s := by unfold conc; omega
            have kl : s.kind ≤ 6 := by omega
            have kg : 6 ≤ s.kind := by omega
            have kb1 : (s.kind == 1) = false := by simp; omega
            have kb2 : (s.kind == 2) = false := by simp; omega
            have kb6 : (s.kind == 6) = true := by simp; omega
            replace ck : Hide _ := ck
            replace c1 : Hide _ := c1
            replace c3 : Hide _ := c3
            replace cc : Hide _ := cc
            have al2 : Hide (Alone P Q w2 v) := alO.out (by unfold conc; simp only [beq_iff_eq, beq_eq_false_iff_ne] at *; omega) (by omega)
            clear alB alO hr hok hw2 hpl hkk
            repeat' (first
              | (refine ac_seq_h fun K hK => ?_)
              | (refine ac_region_h fun K hK => ?_; simp (disch := omega) [go_sem, *, wrap64_id, ile_true, ile_false])
              | (refine ac_draw_h mixed (by kernel_rfl) fun K hK => ?_; simp (disch := omega) [go_sem, *, wrap64_id, upd_ne, mk3_true, flatten_replicate_one, stepK_if, ilt_true, ilt_false, ile_true, ile_false, Try.ntmps3])
              | (apply Hide.out hK; clear hK K; try with_reducible dsimp only [thenA])
              | (apply Hide.out ht; clear ht hf Kt Kf)
              | (apply Hide.out hf; clear ht hf Kt Kf)
              | (clear hK K; apply Hide.out hK; clear hK K; try with_reducible dsimp only [thenA])
              | (clear hK K; clear hK K; apply Hide.out hK; clear hK K; try with_reducible dsimp only [thenA])
              | (refine ac_block ?_)
              | (refine ac_skip ?_; simp only [thenA, blockA])
              | (refine ac_exit ?_; simp only [thenA, blockA, if_true, if_false, Nat.reduceEqDiff])
              | (with_reducible show nextK _ _ _ _ _ _ _; simp (disch := omega) [go_sem, *, ilt_false])
              | (refine wantK_split (fun hc => ?_) (fun hc => ?_) <;> (try simp only [Bool.not_eq_true', Bool.not_eq_false', Bool.not_eq_eq_eq_not, Bool.not_true, Bool.not_false, decide_eq_true_eq, decide_eq_false_iff_not, Int.not_lt, Int.not_le] at hc) <;> (try (exfalso; omega)) <;> (try simp (disch := omega) [go_sem, *, wrap64_id, upd_ne, mk3_true, flatten_replicate_one, stepK_if, ilt_true, ilt_false, ile_true, ile_false, Try.ntmps3]))
              | (refine ac_cond_h fun Kt Kf ht hf => ?_; simp (disch := omega) [go_sem, *]; try (refine ⟨fun hc => ?_, fun hc => ?_⟩ <;> try (exfalso; omega))))
            refine round_end (by simp [go_sem]) (Sub.refl _) ⟨i + 1, _, _, w2, v, by omega, Two.mono A2.out ?_, al2.out, idw2.out, idv.out, ww2.out, wv.out, by omega, by omega, by omega, rfl⟩ (by simp [intAt, go_sem]; omega)
            omega
        have kl : s.kind ≤ 5 := by omega
        have kg : 3 ≤ s.kind := by omega
        have kb1 : (s.kind == 1) = false := by simp; omega
        have kb2 : (s.kind == 2) = false := by simp; omega
        have kb6 : (s.kind == 6) = false := by simp; omega
        have hk3 : Hide (s.kind = 3 ∨ s.kind = 4 ∨ s.kind = 5) := by show s.kind = 3 ∨ s.kind = 4 ∨ s.kind = 5; omega
        clear alB alO hkk ck ck1 ck2 hlv2 wv2 idv2 hv2 v2
        rcases hpl.out with ⟨e1, e2⟩ | ⟨j, m, e1, e2, e3, e4⟩
        · have al2 : Hide (Alone P Q w2 v) := by show Alone P Q w2 v; rw [hw2.out]; exact Alone.mailOther al.out ww.out hk3.out hok.out e2
          have at0l : at0 < 0 := by omega
          replace e1 : Hide _ := e1
          replace e2 : Hide _ := e2
          clear hw2 hpl hr hok
          repeat' (first
            | (refine ac_seq_h fun K hK => ?_)
            | (refine ac_region_h fun K hK => ?_; simp (disch := omega) [go_sem, *, wrap64_id, ile_false])
            | (refine ac_draw_h mixed (by kernel_rfl) fun K hK => ?_; simp (disch := omega) [go_sem, *, wrap64_id, upd_ne, mk3_true, flatten_replicate_one, stepK_if, ilt_true, ilt_false, ile_true, ile_false, Try.ntmps3])
            | (apply Hide.out hK; clear hK K; try with_reducible dsimp only [thenA])
            | (apply Hide.out ht; clear ht hf Kt Kf)
            | (apply Hide.out hf; clear ht hf Kt Kf)
            | (clear hK K; apply Hide.out hK; clear hK K; try with_reducible dsimp only [thenA])
            | (clear hK K; clear hK K; apply Hide.out hK; clear hK K; try with_reducible dsimp only [thenA])
            | (refine ac_block ?_)
            | (refine ac_skip ?_; simp only [thenA, blockA])
            | (refine ac_exit ?_; simp only [thenA, blockA, if_true, if_false, Nat.reduceEqDiff])
            | (with_reducible show nextK _ _ _ _ _ _ _; simp (disch := omega) [go_sem, *, ilt_false])
            | (refine wantK_split (fun hc => ?_) (fun hc => ?_) <;> (try simp only [Bool.not_eq_true', Bool.not_eq_false', Bool.not_eq_eq_eq_not, Bool.not_true, Bool.not_false, decide_eq_true_eq, decide_eq_false_iff_not, Int.not_lt, Int.not_le] at hc) <;> (try (exfalso; omega)) <;> (try simp (disch := omega) [go_sem, *, wrap64_id, upd_ne, mk3_true, flatten_replicate_one, stepK_if, ilt_true, ilt_false, ile_true, ile_false, Try.ntmps3]))
            | (refine ac_cond_h fun Kt Kf ht hf => ?_; simp (disch := omega) [go_sem, *]; try (refine ⟨fun hc => ?_, fun hc => ?_⟩ <;> try (exfalso; omega))))
          refine round_end (by simp [go_sem]) (Sub.refl _) ⟨i + 1, _, _, w2, v, by omega, Two.mono A2.out ?_, al2.out, idw2.out, idv.out, ww2.out, wv.out, by omega, by omega, by omega, rfl⟩ (by simp [intAt, go_sem]; omega)
          omega
        · obtain ⟨m', f1, f2⟩ := Alone.mailBoth al.out idw.out idv.out hk3.out hok.out hr.out e1 e2 e3
          obtain ⟨J, hJ⟩ : ∃ J, Hide (J = ((w.mails.take j).filter (btw P Q)).length) := ⟨_, rfl⟩
          rw [← hJ.out] at f1 e4
          rw [← hw2.out] at f2
          have hJl : J < v.mails.length := (List.getElem?_eq_some_iff.1 f1).1
          have hJe : v.mails[J] = m' := (List.getElem?_eq_some_iff.1 f1).2
          obtain rfl : at0 = J := by rw [e4]; simp
          have hlv2 := (doW_last wv.out ⟨s.kind, 0, 0, m'.id, ByteArray.empty⟩).1
          have wv2 : Hide (Wok (doW v ⟨s.kind, 0, 0, m'.id, ByteArray.empty⟩).1) := wv.out.step _
          have idv2 : Hide (Ids (doW v ⟨s.kind, 0, 0, m'.id, ByteArray.empty⟩).1) := Ids.step idv.out _
          obtain ⟨v2, hv2⟩ : ∃ v2, Hide (v2 = (doW v ⟨s.kind, 0, 0, m'.id, ByteArray.empty⟩).1) := ⟨_, rfl⟩
          rw [← hv2.out] at hlv2 wv2 idv2 f2
          replace e1 : Hide _ := e1
          replace e2 : Hide _ := e2
          replace e3 : Hide _ := e3
          replace e4 : Hide _ := e4
          replace f1 : Hide _ := f1
          replace f2 : Hide _ := f2
          clear hw2 hpl hr hok
          obtain ⟨Z, hZ1, hZ2⟩ := At.mails (Two.right A2.out) wv.out
          obtain ⟨z1, z2, z3, rfl, hz⟩ := hZ1
          obtain rfl := hz (by intro e; rw [e] at hJl; simp at hJl)
          have hmlv := wv.out.ml
          replace hz : Hide _ := hz
          replace hZ2 : Hide _ := hZ2
          repeat' (first
            | (refine ac_seq_h fun K hK => ?_)
            | (refine ac_region_h fun K hK => ?_; simp (disch := omega) [go_sem, *, ile_true])
            | (refine ac_draw_h mixed (by kernel_rfl) fun K hK => ?_; simp (disch := omega) [go_sem, *, wrap64_id, upd_ne, mk3_true, flatten_replicate_one, stepK_if, ilt_true, ilt_false, ile_true, ile_false, Try.ntmps3])
            | (apply Hide.out hK; clear hK K; try with_reducible dsimp only [thenA])
            | (apply Hide.out ht; clear ht hf Kt Kf)
            | (apply Hide.out hf; clear ht hf Kt Kf)
            | (clear hK K; apply Hide.out hK; clear hK K; try with_reducible dsimp only [thenA])
            | (clear hK K; clear hK K; apply Hide.out hK; clear hK K; try with_reducible dsimp only [thenA])
            | (refine ac_block ?_)
            | (refine ac_skip ?_; simp only [thenA])
            | (refine ac_exit ?_; simp only [thenA, blockA, if_true, if_false, Nat.reduceEqDiff])
            | (with_reducible show nextK _ _ _ _ _ _ _; simp (disch := omega) [go_sem, *, ilt_false])
            | (refine wantK_split (fun hc => ?_) (fun hc => ?_) <;> (try simp only [Bool.not_eq_true', Bool.not_eq_false', Bool.not_eq_eq_eq_not, Bool.not_true, Bool.not_false, decide_eq_true_eq, decide_eq_false_iff_not, Int.not_lt, Int.not_le] at hc) <;> (try (exfalso; omega)) <;> (try simp (disch := omega) [go_sem, *, wrap64_id, upd_ne, mk3_true, flatten_replicate_one, stepK_if, ilt_true, ilt_false, ile_true, ile_false, Try.ntmps3]))
            | (refine ac_cond_h fun Kt Kf ht hf => ?_; simp (disch := omega) [go_sem, *]; try (refine ⟨fun hc => ?_, fun hc => ?_⟩ <;> try (exfalso; omega))))
          refine APureAt.call (hZ2.out _) ?_
          clear hZ2
          repeat' (first
            | (refine ac_seq_h fun K hK => ?_)
            | (refine ac_region_h fun K hK => ?_; simp (disch := omega) [go_sem, *, ile_false])
            | (apply Hide.out hK; clear hK K; try with_reducible dsimp only [thenA])
            | (apply Hide.out ht; clear ht hf Kt Kf)
            | (apply Hide.out hf; clear ht hf Kt Kf)
            | (clear hK K; apply Hide.out hK; clear hK K; try with_reducible dsimp only [thenA])
            | (clear hK K; clear hK K; apply Hide.out hK; clear hK K; try with_reducible dsimp only [thenA])
            | (refine ac_block ?_)
            | (refine ac_skip ?_; simp only [thenA])
            | (refine ac_exit ?_; simp only [thenA, blockA, if_true, if_false, Nat.reduceEqDiff])
            | (with_reducible show nextK _ _ _ _ _ _ _; simp (disch := omega) [go_sem, *])
            | (refine wantK_split (fun hc => ?_) (fun hc => ?_) <;> (try simp only [Bool.not_eq_true', Bool.not_eq_false', Bool.not_eq_eq_eq_not, Bool.not_true, Bool.not_false, decide_eq_true_eq, decide_eq_false_iff_not, Int.not_lt, Int.not_le] at hc) <;> (try (exfalso; omega)) <;> (try simp (disch := omega) [go_sem, *, wrap64_id, upd_ne, mk3_true, flatten_replicate_one, stepK_if, ilt_true, ilt_false, ile_true, ile_false, Try.ntmps3]))
            | (refine ac_cond_h fun Kt Kf ht hf => ?_; simp (disch := omega) [go_sem, *]; try (refine ⟨fun hc => ?_, fun hc => ?_⟩ <;> try (exfalso; omega))))
          refine ac_draw3_h [18] mixed (by kernel_rfl) (fun x hx => by simp at hx; subst hx; exact ⟨_, by simp [go_sem]; rfl⟩) fun K2 hK2 => ?_
          simp (disch := omega) [go_sem, *]
          refine Two.do2 A2.out (by omega) wv.out (by omega) ⟨s.kind, 0, 0, m'.id, ByteArray.empty⟩ _ (fun H3 n3 hn3 A3 => ?_)
          rw [← hv2.out] at A3
          replace A3 : Hide _ := A3
          simp (disch := omega) [go_sem, *]
          refine hK2.out _ ?_
          clear hK2 K2
          repeat' (first
            | (refine ac_seq_h fun K hK => ?_)
            | (refine ac_region_h fun K hK => ?_; simp (disch := omega) [go_sem, *, wrap64_id])
            | (refine ac_draw_h mixed (by kernel_rfl) fun K hK => ?_; simp (disch := omega) [go_sem, *, wrap64_id, upd_ne, mk3_true, flatten_replicate_one, stepK_if, ilt_true, ilt_false, ile_true, ile_false, Try.ntmps3])
            | (apply Hide.out hK; clear hK K; try with_reducible dsimp only [thenA])
            | (apply Hide.out ht; clear ht hf Kt Kf)
            | (apply Hide.out hf; clear ht hf Kt Kf)
            | (clear hK K; apply Hide.out hK; clear hK K; try with_reducible dsimp only [thenA])
            | (clear hK K; clear hK K; apply Hide.out hK; clear hK K; try with_reducible dsimp only [thenA])
            | (refine ac_block ?_)
            | (refine ac_skip ?_; simp only [thenA, blockA])
            | (refine ac_exit ?_; simp only [thenA, blockA, if_true, if_false, Nat.reduceEqDiff])
            | (with_reducible show nextK _ _ _ _ _ _ _; simp (disch := omega) [go_sem, *, wrap64_id, upd_ne, mk3_true, flatten_replicate_one, stepK_if, ilt_true, ilt_false, ile_true, ile_false, Try.ntmps3])
            | (refine wantK_split (fun hc => ?_) (fun hc => ?_) <;> (try simp only [Bool.not_eq_true', Bool.not_eq_false', Bool.not_eq_eq_eq_not, Bool.not_true, Bool.not_false, decide_eq_true_eq, decide_eq_false_iff_not, Int.not_lt, Int.not_le] at hc) <;> (try (exfalso; omega)) <;> (try simp (disch := omega) [go_sem, *, wrap64_id, upd_ne, mk3_true, flatten_replicate_one, stepK_if, ilt_true, ilt_false, ile_true, ile_false, Try.ntmps3]))
            | (refine ac_cond_h fun Kt Kf ht hf => ?_; simp (disch := omega) [go_sem, *, wrap64_id, upd_ne, mk3_true, flatten_replicate_one, stepK_if, ilt_true, ilt_false, ile_true, ile_false, Try.ntmps3]; try (refine ⟨fun hc => ?_, fun hc => ?_⟩ <;> try (exfalso; omega))))
          refine round_end (by simp [go_sem]) (Sub.refl _) ⟨i + 1, _, _, w2, v2, by omega, Two.mono A3.out ?_, f2.out, idw2.out, idv2.out, ww2.out, wv2.out, by omega, by omega, by omega, rfl⟩ (by simp [intAt, go_sem]; omega)
          omega
      · have hd1 := fun k => At.due (Two.left A.out) ww.out (P : Int) (Q : Int) k
        have hd2 := fun k => At.due (Two.right A.out) wv.out (P : Int) (Q : Int) k
        rw [Alone.dues al.out] at hd2
        obtain ⟨X1, hX1, cX1⟩ := At.heard (Two.left A.out) ww.out (Q : Int) (P : Int)
        obtain ⟨Y1, hY1, cY1⟩ := At.heard (Two.right A.out) wv.out (Q : Int) (P : Int)
        obtain ⟨X2, hX2, cX2⟩ := At.heard (Two.left A.out) ww.out (P : Int) (Q : Int)
        obtain ⟨Y2, hY2, cY2⟩ := At.heard (Two.right A.out) wv.out (P : Int) (Q : Int)
        rw [Alone.hr1 al.out] at hY1
        rw [Alone.hr2 al.out] at hY2
        have ho1 := fun k => At.open (Two.left A.out) ww.out (P : Int) (Q : Int) k
        have ho2 := fun k => At.open (Two.right A.out) wv.out (P : Int) (Q : Int) k
        have ho3 := fun k => At.open (Two.left A.out) ww.out (Q : Int) (P : Int) k
        have ho4 := fun k => At.open (Two.right A.out) wv.out (Q : Int) (P : Int) k
        rw [Alone.op1 al.out] at ho2
        rw [Alone.op2 al.out] at ho4
        obtain ⟨_, _, _, _, _, l1⟩ := once_law ww.out (P : Int) (Q : Int)
        obtain ⟨_, _, _, _, _, l2⟩ := once_law ww.out (Q : Int) (P : Int)
        obtain ⟨x1, x2, x3, rfl, hx⟩ := hX1
        obtain ⟨y1, y2, y3, rfl, hy⟩ := hY1
        obtain ⟨u1, u2, u3, rfl, hu⟩ := hX2
        obtain ⟨z1, z2, z3, rfl, hz⟩ := hY2
        have hs1 := same_spec (heardW w Q P) (heardW w Q P) x1 x2 y1 y2 x3 y3 hx hy l1 l1
        have hs2 := same_spec (heardW w P Q) (heardW w P Q) u1 u2 z1 z2 u3 z3 hu hz l2 l2
        rw [same_refl] at hs1 hs2
        obtain ⟨_, _, _, _, _, hf, hb0⟩ := Two.left A.out
        generalize dueW w P Q = D at *
        generalize heardW w P Q = E1 at *
        generalize heardW w Q P = E2 at *
        generalize openW w P Q = O1 at *
        generalize openW w Q P = O2 at *
        obtain ⟨D1, D2⟩ := D
        clear hx hy hu hz l1 l2 A al idw idv ww wv
        replace hf : Hide _ := hf
        repeat' (first
          | (refine ac_seq_h fun K hK => ?_)
          | (refine ac_region_h fun K hK => ?_; simp (disch := omega) [go_sem, *, ilt_false ])
          | (refine ac_draw_h mixed (by kernel_rfl) fun K hK => ?_; simp (disch := omega) [go_sem, *, wrap64_id, upd_ne, mk3_true, flatten_replicate_one, stepK_if, ilt_true, ilt_false, ile_true, ile_false, Try.ntmps3 ])
          | (apply Hide.out hK; clear hK K; try with_reducible dsimp only [thenA])
          | (apply Hide.out ht; clear ht hf Kt Kf)
          | (apply Hide.out hf; clear ht hf Kt Kf)
          | (clear hK K; apply Hide.out hK; clear hK K; try with_reducible dsimp only [thenA])
          | (clear hK K; clear hK K; apply Hide.out hK; clear hK K; try with_reducible dsimp only [thenA])
          | (with_reducible refine APure.call (c7) ?_; try simp (disch := omega) [go_sem, *, wrap64_id, upd_ne, mk3_true, flatten_replicate_one, stepK_if, ilt_true, ilt_false, ile_true, ile_false, Try.ntmps3 ])
          | (with_reducible refine APureAt.call (hd1 _) ?_; try simp (disch := omega) [go_sem, * ])
          | (with_reducible refine APureAt.call (hd2 _) ?_; try simp (disch := omega) [go_sem, * ])
          | (with_reducible refine APure.call (worlds_spec) ?_; try simp (disch := omega) [go_sem, * ])
          | (with_reducible refine APureAt.call (cX1 _) ?_; try simp (disch := omega) [go_sem, * ])
          | (with_reducible refine APureAt.call (cY1 _) ?_; try simp (disch := omega) [go_sem, * ])
          | (with_reducible refine APureAt.call (cX2 _) ?_; try simp (disch := omega) [go_sem, * ])
          | (with_reducible refine APureAt.call (cY2 _) ?_; try simp (disch := omega) [go_sem, * ])
          | (with_reducible refine APure.call (hs1) ?_; try simp (disch := omega) [go_sem, * ])
          | (with_reducible refine APure.call (hs2) ?_; try simp (disch := omega) [go_sem, * ])
          | (with_reducible refine APureAt.call (ho1 _) ?_; try simp (disch := omega) [go_sem, * ])
          | (with_reducible refine APureAt.call (ho2 _) ?_; try simp (disch := omega) [go_sem, * ])
          | (with_reducible refine APureAt.call (ho3 _) ?_; try simp (disch := omega) [go_sem, * ])
          | (with_reducible refine APureAt.call (ho4 _) ?_; try simp (disch := omega) [go_sem, * ])
          | (refine ac_block ?_)
          | (refine ac_skip ?_; simp only [thenA, blockA])
          | (refine ac_exit ?_; simp only [thenA, blockA, if_true])
          | (with_reducible show nextK _ _ _ _ _ _ _; simp (disch := omega) [go_sem, *, wrap64_id, upd_ne, mk3_true, flatten_replicate_one, stepK_if, ilt_true, ilt_false, ile_true, ile_false, Try.ntmps3 ])
          | (refine wantK_split (fun hc => ?_) (fun hc => ?_) <;> (try simp only [Bool.not_eq_true', Bool.not_eq_false', Bool.not_eq_eq_eq_not, Bool.not_true, Bool.not_false, decide_eq_true_eq, decide_eq_false_iff_not, Int.not_lt, Int.not_le] at hc) <;> (try (exfalso; omega)) <;> (try simp (disch := omega) [go_sem, *, wrap64_id, upd_ne, mk3_true, flatten_replicate_one, stepK_if, ilt_true, ilt_false, ile_true, ile_false, Try.ntmps3 ]))
          | (refine ac_cond_h fun Kt Kf ht hf => ?_; simp (disch := omega) [go_sem, * ]; try (refine ⟨fun hc => ?_, fun hc => ?_⟩ <;> try (exfalso; omega))))
        refine ac_ret ?_
        refine ⟨by simp, _, (by simp (disch := omega) [go_sem] <;> rfl), ?_⟩
        refine ret_id ⟨fun k hk => hf.out k (by omega), by simp [go_sem, below], by simp [go_sem], rfl, rfl⟩
end Go.AM
