/- The program's numbers of a condition. Conditions: as each theorem says. -/
import Derived.Test.YtbpbgiedemkciaaGreatDoorDa
namespace Go.AM
open Go.Proofs Cw
set_option maxRecDepth 10000
set_option maxHeartbeats 4000000
theorem ask_leaf0n (H : AHeap) (n : Nat) (v1 v2 v3 v4 : AV) (m : Nat) (hmn : m < n) (hm : H m = some (.cells [.fslc true true 0 [], v1, v2, v3, v4])) (o v : Int) (nl fu : Bool) (s : Nat) (hv1 : 0 ≤ v) (hv2 : v ≤ 10000)
    (hsc : ([v1, v2, v3, v4] : List AV).all AV.scalar = true) : ACalls Tryz.prog 108 [encC (.mk 1 0 o v nl fu s []), .ptr m 0] H n fun r h' n' => r = .tup [] ∧ ∃ k2, n ≤ k2 ∧ k2 < n' ∧ h' m = some (.cells [.slc k2 0 2 1, v1, v2, v3, v4]) ∧ h' k2 = some (.cells [iv .i64 v, iv .i64 (min (v + 1) 10000)]) ∧ ∀ x, x < n → x ≠ m → h' x = H x := by
  refine ACalls.entry (by kernel_rfl) fun hb _ => calls_of Tryz.func108 rfl (by kernel_rfl) (by simp [Tryz.ntmps108]) ?_
  simp only [List.all_cons, List.all_nil, Bool.and_true, Bool.and_eq_true] at hsc
  obtain ⟨s0, s1, s2, s3⟩ := hsc
  simp only [encC, encL]
  have hap := fun nm (h0 : AHeap) (a b : Bool) (w : Int) => ap49_nil nm h0 a b [v, w] (by simp) (by simp)
  simp only [List.map_cons, List.map_nil, List.length_cons, List.length_nil, Nat.zero_add, Nat.reduceAdd] at hap
  repeat' (first | (refine ac_seq_h fun K hK => ?_) | (refine ac_region_h fun K hK => ?_; simp (disch := omega) [go_sem, *, Tryz.ntmps108]) | (apply Hide.out hK; clear hK K; try with_reducible dsimp only [thenA]) | (apply Hide.out ht; clear ht hf Kt Kf) | (refine ac_cond_h fun Kt Kf ht hf => ?_; simp (disch := omega) [go_sem, *]; try (refine ⟨fun hc => ?_, fun hc => ?_⟩ <;> try (exfalso; omega))))
  refine ac_chain_h [16, 19] (fun h' => h' n = some (.cells [iv .i64 1, iv .i64 0, iv .i64 o, iv .i64 v, .fslc nl fu s []]) ∧ h' m = some (.cells [.fslc true true 0 [], v1, v2, v3, v4])) mixed (by kernel_rfl) (by simp (disch := omega) [go_sem, upd_ne, hm]) fun K hK => ?_
  simp (disch := omega) [go_sem, *]
  repeat' (first | (refine aC_c (by simp [go_sem]) (by decide) (fun h' hh => by (try dsimp only at hh); (try simp (disch := omega) [go_sem, *, wrap64_id, ilt_true]); first | exact rfl | exact ⟨rfl, rfl, rfl⟩) ?_; try simp only [pS_some]) | (refine aC_x (by simp [go_sem]) (by decide) (by (try simp (disch := omega) [go_sem, *, upd_ne]); first | exact rfl | exact ⟨rfl, rfl⟩ | exact ⟨rfl, rfl, rfl⟩) (by first | exact .inl rfl | (right; simp (disch := omega) [go_sem, upd_ne, hm])) ?_; try simp only [pS_some, pS_none]) | (refine aC_end ?_; apply Hide.out hK; clear hK K; try with_reducible dsimp only [thenA]))
  repeat' (first | (refine ac_seq_h fun K hK => ?_) | (refine ac_region_h fun K hK => ?_; simp (disch := omega) [go_sem, *, upd_ne]) | (apply Hide.out hK; clear hK K; try with_reducible dsimp only [thenA]) | (refine ac_block ?_))
  refine ac_rounds 1 ?_
  unfold ACRounds
  repeat' (first | (refine ac_seq_h fun K hK => ?_) | (refine ac_region_h fun K hK => ?_; simp (disch := omega) [go_sem, *]) | (apply Hide.out hK; clear hK K; try with_reducible dsimp only [thenA]) | (apply Hide.out hf; clear ht hf Kt Kf) | (refine ac_exit ?_; simp only [thenA, blockA, if_true]) | (refine ac_cond_h fun Kt Kf ht hf => ?_; simp (disch := omega) [go_sem, *]; try (refine ⟨fun hc => ?_, fun hc => ?_⟩ <;> try (exfalso; omega))))
  refine ⟨by simp, [], (by rfl), ret_id ⟨rfl, n + 1 + 3 + 16, by omega, by omega, by simp (disch := omega) only [upd_same], by simp (disch := omega) only [upd_ne, upd_same], fun x hx h1 => by simp (disch := omega) only [upd_ne]⟩⟩
theorem ask_leaf0s (H : AHeap) (n : Nat) (v1 v2 v3 v4 : AV) (m k : Nat) (l : List Int) (hl : l.length ≤ 1000000) (hmn : m < n) (hkn : k < n) (hkm : k ≠ m) (hm : H m = some (.cells [.slc k 0 l.length 1, v1, v2, v3, v4])) (hk : H k = some (.cells (l.map (iv .i64)))) (o v : Int) (nl fu : Bool) (s : Nat) (hv1 : 0 ≤ v) (hv2 : v ≤ 10000)
    (hsc : ([v1, v2, v3, v4] : List AV).all AV.scalar = true) : ACalls Tryz.prog 108 [encC (.mk 1 0 o v nl fu s []), .ptr m 0] H n fun r h' n' => r = .tup [] ∧ ∃ k2, n ≤ k2 ∧ k2 < n' ∧ h' m = some (.cells [.slc k2 0 (l.length + 2) 1, v1, v2, v3, v4]) ∧ h' k2 = some (.cells (l.map (iv .i64) ++ [iv .i64 v, iv .i64 (min (v + 1) 10000)])) ∧ ∀ x, x < n → x ≠ m → x ≠ k → h' x = H x := by
  refine ACalls.entry (by kernel_rfl) fun hb _ => calls_of Tryz.func108 rfl (by kernel_rfl) (by simp [Tryz.ntmps108]) ?_
  simp only [List.all_cons, List.all_nil, Bool.and_true, Bool.and_eq_true] at hsc
  obtain ⟨s0, s1, s2, s3⟩ := hsc
  simp only [encC, encL]
  have hap := fun nm (a b : Bool) (w : Int) => ap49_s nm k (H.upd n (some (.cells [iv .i64 1, iv .i64 0, iv .i64 o, iv .i64 v, .fslc nl fu s []]))) a b l [v, w] (by rw [upd_ne _ _ _ _ (by omega)]; exact hk) (by simp) (by simp; omega)
  simp only [List.map_append, List.map_cons, List.map_nil, List.length_cons, List.length_nil, Nat.zero_add, Nat.reduceAdd] at hap
  repeat' (first | (refine ac_seq_h fun K hK => ?_) | (refine ac_region_h fun K hK => ?_; simp (disch := omega) [go_sem, *, Tryz.ntmps108]) | (apply Hide.out hK; clear hK K; try with_reducible dsimp only [thenA]) | (apply Hide.out ht; clear ht hf Kt Kf) | (refine ac_cond_h fun Kt Kf ht hf => ?_; simp (disch := omega) [go_sem, *]; try (refine ⟨fun hc => ?_, fun hc => ?_⟩ <;> try (exfalso; omega))))
  refine ac_chain_h [16, 19] (fun h' => h' n = some (.cells [iv .i64 1, iv .i64 0, iv .i64 o, iv .i64 v, .fslc nl fu s []]) ∧ h' m = some (.cells [.slc k 0 l.length 1, v1, v2, v3, v4])) mixed (by kernel_rfl) (by simp (disch := omega) [go_sem, upd_ne, hm]) fun K hK => ?_
  simp (disch := omega) [go_sem, *]
  repeat' (first | (refine aC_c (by simp [go_sem]) (by decide) (fun h' hh => by (try dsimp only at hh); (try simp (disch := omega) [go_sem, *, wrap64_id, ilt_true]); first | exact rfl | exact ⟨rfl, rfl, rfl⟩) ?_; try simp only [pS_some]) | (refine aC_x (by simp [go_sem]) (by decide) (by (try simp (disch := omega) [go_sem, *, upd_ne]); first | exact rfl | exact ⟨rfl, rfl⟩ | exact ⟨rfl, rfl, rfl⟩) (by first | exact .inl rfl | (right; simp (disch := omega) [go_sem, upd_ne, hm])) ?_; try simp only [pS_some, pS_none]) | (refine aC_end ?_; apply Hide.out hK; clear hK K; try with_reducible dsimp only [thenA]))
  repeat' (first | (refine ac_seq_h fun K hK => ?_) | (refine ac_region_h fun K hK => ?_; simp (disch := omega) [go_sem, *, upd_ne]) | (apply Hide.out hK; clear hK K; try with_reducible dsimp only [thenA]) | (refine ac_block ?_))
  refine ac_rounds 1 ?_
  unfold ACRounds
  repeat' (first | (refine ac_seq_h fun K hK => ?_) | (refine ac_region_h fun K hK => ?_; simp (disch := omega) [go_sem, *]) | (apply Hide.out hK; clear hK K; try with_reducible dsimp only [thenA]) | (apply Hide.out hf; clear ht hf Kt Kf) | (refine ac_exit ?_; simp only [thenA, blockA, if_true]) | (refine ac_cond_h fun Kt Kf ht hf => ?_; simp (disch := omega) [go_sem, *]; try (refine ⟨fun hc => ?_, fun hc => ?_⟩ <;> try (exfalso; omega))))
  refine ⟨by simp, [], (by rfl), ret_id ⟨rfl, n + 1 + 3 + 16, by omega, by omega, by simp (disch := omega) only [upd_same], by simp (disch := omega) only [upd_ne, upd_same], fun x hx h1 h2 => by simp (disch := omega) only [upd_ne]⟩⟩
theorem ask_leaf1n (H : AHeap) (n : Nat) (v0 v2 v3 v4 : AV) (m : Nat) (hmn : m < n) (hm : H m = some (.cells [v0, .fslc true true 0 [], v2, v3, v4])) (o v : Int) (nl fu : Bool) (s : Nat) (hv1 : 0 ≤ v) (hv2 : v ≤ 10000)
    (hsc : ([v0, v2, v3, v4] : List AV).all AV.scalar = true) : ACalls Tryz.prog 108 [encC (.mk 1 1 o v nl fu s []), .ptr m 0] H n fun r h' n' => r = .tup [] ∧ ∃ k2, n ≤ k2 ∧ k2 < n' ∧ h' m = some (.cells [v0, .slc k2 0 2 1, v2, v3, v4]) ∧ h' k2 = some (.cells [iv .i64 v, iv .i64 (min (v + 1) 10000)]) ∧ ∀ x, x < n → x ≠ m → h' x = H x := by
  refine ACalls.entry (by kernel_rfl) fun hb _ => calls_of Tryz.func108 rfl (by kernel_rfl) (by simp [Tryz.ntmps108]) ?_
  simp only [List.all_cons, List.all_nil, Bool.and_true, Bool.and_eq_true] at hsc
  obtain ⟨s0, s1, s2, s3⟩ := hsc
  simp only [encC, encL]
  have hap := fun nm (h0 : AHeap) (a b : Bool) (w : Int) => ap49_nil nm h0 a b [v, w] (by simp) (by simp)
  simp only [List.map_cons, List.map_nil, List.length_cons, List.length_nil, Nat.zero_add, Nat.reduceAdd] at hap
  repeat' (first | (refine ac_seq_h fun K hK => ?_) | (refine ac_region_h fun K hK => ?_; simp (disch := omega) [go_sem, *, Tryz.ntmps108]) | (apply Hide.out hK; clear hK K; try with_reducible dsimp only [thenA]) | (apply Hide.out ht; clear ht hf Kt Kf) | (refine ac_cond_h fun Kt Kf ht hf => ?_; simp (disch := omega) [go_sem, *]; try (refine ⟨fun hc => ?_, fun hc => ?_⟩ <;> try (exfalso; omega))))
  refine ac_chain_h [16, 19] (fun h' => h' n = some (.cells [iv .i64 1, iv .i64 1, iv .i64 o, iv .i64 v, .fslc nl fu s []]) ∧ h' m = some (.cells [v0, .fslc true true 0 [], v2, v3, v4])) mixed (by kernel_rfl) (by simp (disch := omega) [go_sem, upd_ne, hm]) fun K hK => ?_
  simp (disch := omega) [go_sem, *]
  repeat' (first | (refine aC_c (by simp [go_sem]) (by decide) (fun h' hh => by (try dsimp only at hh); (try simp (disch := omega) [go_sem, *, wrap64_id, ilt_true, ile_true]); first | exact rfl | exact ⟨rfl, rfl, rfl⟩) ?_; try simp only [pS_some]) | (refine aC_x (by simp [go_sem]) (by decide) (by (try simp (disch := omega) [go_sem, *, upd_ne]); first | exact rfl | exact ⟨rfl, rfl⟩ | exact ⟨rfl, rfl, rfl⟩) (by first | exact .inl rfl | (right; simp (disch := omega) [go_sem, upd_ne, hm])) ?_; try simp only [pS_some, pS_none]) | (refine aC_end ?_; apply Hide.out hK; clear hK K; try with_reducible dsimp only [thenA]))
  repeat' (first | (refine ac_seq_h fun K hK => ?_) | (refine ac_region_h fun K hK => ?_; simp (disch := omega) [go_sem, *, upd_ne]) | (apply Hide.out hK; clear hK K; try with_reducible dsimp only [thenA]) | (refine ac_block ?_))
  refine ac_rounds 1 ?_
  unfold ACRounds
  repeat' (first | (refine ac_seq_h fun K hK => ?_) | (refine ac_region_h fun K hK => ?_; simp (disch := omega) [go_sem, *]) | (apply Hide.out hK; clear hK K; try with_reducible dsimp only [thenA]) | (apply Hide.out hf; clear ht hf Kt Kf) | (refine ac_exit ?_; simp only [thenA, blockA, if_true]) | (refine ac_cond_h fun Kt Kf ht hf => ?_; simp (disch := omega) [go_sem, *]; try (refine ⟨fun hc => ?_, fun hc => ?_⟩ <;> try (exfalso; omega))))
  refine ⟨by simp, [], (by rfl), ret_id ⟨rfl, n + 1 + 3 + 16, by omega, by omega, by simp (disch := omega) only [upd_same], by simp (disch := omega) only [upd_ne, upd_same], fun x hx h1 => by simp (disch := omega) only [upd_ne]⟩⟩
theorem ask_leaf1s (H : AHeap) (n : Nat) (v0 v2 v3 v4 : AV) (m k : Nat) (l : List Int) (hl : l.length ≤ 1000000) (hmn : m < n) (hkn : k < n) (hkm : k ≠ m) (hm : H m = some (.cells [v0, .slc k 0 l.length 1, v2, v3, v4])) (hk : H k = some (.cells (l.map (iv .i64)))) (o v : Int) (nl fu : Bool) (s : Nat) (hv1 : 0 ≤ v) (hv2 : v ≤ 10000)
    (hsc : ([v0, v2, v3, v4] : List AV).all AV.scalar = true) : ACalls Tryz.prog 108 [encC (.mk 1 1 o v nl fu s []), .ptr m 0] H n fun r h' n' => r = .tup [] ∧ ∃ k2, n ≤ k2 ∧ k2 < n' ∧ h' m = some (.cells [v0, .slc k2 0 (l.length + 2) 1, v2, v3, v4]) ∧ h' k2 = some (.cells (l.map (iv .i64) ++ [iv .i64 v, iv .i64 (min (v + 1) 10000)])) ∧ ∀ x, x < n → x ≠ m → x ≠ k → h' x = H x := by
  refine ACalls.entry (by kernel_rfl) fun hb _ => calls_of Tryz.func108 rfl (by kernel_rfl) (by simp [Tryz.ntmps108]) ?_
  simp only [List.all_cons, List.all_nil, Bool.and_true, Bool.and_eq_true] at hsc
  obtain ⟨s0, s1, s2, s3⟩ := hsc
  simp only [encC, encL]
  have hap := fun nm (a b : Bool) (w : Int) => ap49_s nm k (H.upd n (some (.cells [iv .i64 1, iv .i64 1, iv .i64 o, iv .i64 v, .fslc nl fu s []]))) a b l [v, w] (by rw [upd_ne _ _ _ _ (by omega)]; exact hk) (by simp) (by simp; omega)
  simp only [List.map_append, List.map_cons, List.map_nil, List.length_cons, List.length_nil, Nat.zero_add, Nat.reduceAdd] at hap
  repeat' (first | (refine ac_seq_h fun K hK => ?_) | (refine ac_region_h fun K hK => ?_; simp (disch := omega) [go_sem, *, Tryz.ntmps108]) | (apply Hide.out hK; clear hK K; try with_reducible dsimp only [thenA]) | (apply Hide.out ht; clear ht hf Kt Kf) | (refine ac_cond_h fun Kt Kf ht hf => ?_; simp (disch := omega) [go_sem, *]; try (refine ⟨fun hc => ?_, fun hc => ?_⟩ <;> try (exfalso; omega))))
  refine ac_chain_h [16, 19] (fun h' => h' n = some (.cells [iv .i64 1, iv .i64 1, iv .i64 o, iv .i64 v, .fslc nl fu s []]) ∧ h' m = some (.cells [v0, .slc k 0 l.length 1, v2, v3, v4])) mixed (by kernel_rfl) (by simp (disch := omega) [go_sem, upd_ne, hm]) fun K hK => ?_
  simp (disch := omega) [go_sem, *]
  repeat' (first | (refine aC_c (by simp [go_sem]) (by decide) (fun h' hh => by (try dsimp only at hh); (try simp (disch := omega) [go_sem, *, wrap64_id, ilt_true, ile_true]); first | exact rfl | exact ⟨rfl, rfl, rfl⟩) ?_; try simp only [pS_some]) | (refine aC_x (by simp [go_sem]) (by decide) (by (try simp (disch := omega) [go_sem, *, upd_ne]); first | exact rfl | exact ⟨rfl, rfl⟩ | exact ⟨rfl, rfl, rfl⟩) (by first | exact .inl rfl | (right; simp (disch := omega) [go_sem, upd_ne, hm])) ?_; try simp only [pS_some, pS_none]) | (refine aC_end ?_; apply Hide.out hK; clear hK K; try with_reducible dsimp only [thenA]))
  repeat' (first | (refine ac_seq_h fun K hK => ?_) | (refine ac_region_h fun K hK => ?_; simp (disch := omega) [go_sem, *, upd_ne]) | (apply Hide.out hK; clear hK K; try with_reducible dsimp only [thenA]) | (refine ac_block ?_))
  refine ac_rounds 1 ?_
  unfold ACRounds
  repeat' (first | (refine ac_seq_h fun K hK => ?_) | (refine ac_region_h fun K hK => ?_; simp (disch := omega) [go_sem, *]) | (apply Hide.out hK; clear hK K; try with_reducible dsimp only [thenA]) | (apply Hide.out hf; clear ht hf Kt Kf) | (refine ac_exit ?_; simp only [thenA, blockA, if_true]) | (refine ac_cond_h fun Kt Kf ht hf => ?_; simp (disch := omega) [go_sem, *]; try (refine ⟨fun hc => ?_, fun hc => ?_⟩ <;> try (exfalso; omega))))
  refine ⟨by simp, [], (by rfl), ret_id ⟨rfl, n + 1 + 3 + 16, by omega, by omega, by simp (disch := omega) only [upd_same], by simp (disch := omega) only [upd_ne, upd_same], fun x hx h1 h2 => by simp (disch := omega) only [upd_ne]⟩⟩
theorem ask_leaf2n (H : AHeap) (n : Nat) (v0 v1 v3 v4 : AV) (m : Nat) (hmn : m < n) (hm : H m = some (.cells [v0, v1, .fslc true true 0 [], v3, v4])) (o v : Int) (nl fu : Bool) (s : Nat) (hv1 : 0 ≤ v) (hv2 : v ≤ 10000)
    (hsc : ([v0, v1, v3, v4] : List AV).all AV.scalar = true) : ACalls Tryz.prog 108 [encC (.mk 1 2 o v nl fu s []), .ptr m 0] H n fun r h' n' => r = .tup [] ∧ ∃ k2, n ≤ k2 ∧ k2 < n' ∧ h' m = some (.cells [v0, v1, .slc k2 0 2 1, v3, v4]) ∧ h' k2 = some (.cells [iv .i64 v, iv .i64 (min (v + 1) 10000)]) ∧ ∀ x, x < n → x ≠ m → h' x = H x := by
  refine ACalls.entry (by kernel_rfl) fun hb _ => calls_of Tryz.func108 rfl (by kernel_rfl) (by simp [Tryz.ntmps108]) ?_
  simp only [List.all_cons, List.all_nil, Bool.and_true, Bool.and_eq_true] at hsc
  obtain ⟨s0, s1, s2, s3⟩ := hsc
  simp only [encC, encL]
  have hap := fun nm (h0 : AHeap) (a b : Bool) (w : Int) => ap49_nil nm h0 a b [v, w] (by simp) (by simp)
  simp only [List.map_cons, List.map_nil, List.length_cons, List.length_nil, Nat.zero_add, Nat.reduceAdd] at hap
  repeat' (first | (refine ac_seq_h fun K hK => ?_) | (refine ac_region_h fun K hK => ?_; simp (disch := omega) [go_sem, *, Tryz.ntmps108]) | (apply Hide.out hK; clear hK K; try with_reducible dsimp only [thenA]) | (apply Hide.out ht; clear ht hf Kt Kf) | (refine ac_cond_h fun Kt Kf ht hf => ?_; simp (disch := omega) [go_sem, *]; try (refine ⟨fun hc => ?_, fun hc => ?_⟩ <;> try (exfalso; omega))))
  refine ac_chain_h [16, 19] (fun h' => h' n = some (.cells [iv .i64 1, iv .i64 2, iv .i64 o, iv .i64 v, .fslc nl fu s []]) ∧ h' m = some (.cells [v0, v1, .fslc true true 0 [], v3, v4])) mixed (by kernel_rfl) (by simp (disch := omega) [go_sem, upd_ne, hm]) fun K hK => ?_
  simp (disch := omega) [go_sem, *]
  repeat' (first | (refine aC_c (by simp [go_sem]) (by decide) (fun h' hh => by (try dsimp only at hh); (try simp (disch := omega) [go_sem, *, wrap64_id, ilt_true, ile_true]); first | exact rfl | exact ⟨rfl, rfl, rfl⟩) ?_; try simp only [pS_some]) | (refine aC_x (by simp [go_sem]) (by decide) (by (try simp (disch := omega) [go_sem, *, upd_ne]); first | exact rfl | exact ⟨rfl, rfl⟩ | exact ⟨rfl, rfl, rfl⟩) (by first | exact .inl rfl | (right; simp (disch := omega) [go_sem, upd_ne, hm])) ?_; try simp only [pS_some, pS_none]) | (refine aC_end ?_; apply Hide.out hK; clear hK K; try with_reducible dsimp only [thenA]))
  repeat' (first | (refine ac_seq_h fun K hK => ?_) | (refine ac_region_h fun K hK => ?_; simp (disch := omega) [go_sem, *, upd_ne]) | (apply Hide.out hK; clear hK K; try with_reducible dsimp only [thenA]) | (refine ac_block ?_))
  refine ac_rounds 1 ?_
  unfold ACRounds
  repeat' (first | (refine ac_seq_h fun K hK => ?_) | (refine ac_region_h fun K hK => ?_; simp (disch := omega) [go_sem, *]) | (apply Hide.out hK; clear hK K; try with_reducible dsimp only [thenA]) | (apply Hide.out hf; clear ht hf Kt Kf) | (refine ac_exit ?_; simp only [thenA, blockA, if_true]) | (refine ac_cond_h fun Kt Kf ht hf => ?_; simp (disch := omega) [go_sem, *]; try (refine ⟨fun hc => ?_, fun hc => ?_⟩ <;> try (exfalso; omega))))
  refine ⟨by simp, [], (by rfl), ret_id ⟨rfl, n + 1 + 3 + 16, by omega, by omega, by simp (disch := omega) only [upd_same], by simp (disch := omega) only [upd_ne, upd_same], fun x hx h1 => by simp (disch := omega) only [upd_ne]⟩⟩
theorem ask_leaf2s (H : AHeap) (n : Nat) (v0 v1 v3 v4 : AV) (m k : Nat) (l : List Int) (hl : l.length ≤ 1000000) (hmn : m < n) (hkn : k < n) (hkm : k ≠ m) (hm : H m = some (.cells [v0, v1, .slc k 0 l.length 1, v3, v4])) (hk : H k = some (.cells (l.map (iv .i64)))) (o v : Int) (nl fu : Bool) (s : Nat) (hv1 : 0 ≤ v) (hv2 : v ≤ 10000)
    (hsc : ([v0, v1, v3, v4] : List AV).all AV.scalar = true) : ACalls Tryz.prog 108 [encC (.mk 1 2 o v nl fu s []), .ptr m 0] H n fun r h' n' => r = .tup [] ∧ ∃ k2, n ≤ k2 ∧ k2 < n' ∧ h' m = some (.cells [v0, v1, .slc k2 0 (l.length + 2) 1, v3, v4]) ∧ h' k2 = some (.cells (l.map (iv .i64) ++ [iv .i64 v, iv .i64 (min (v + 1) 10000)])) ∧ ∀ x, x < n → x ≠ m → x ≠ k → h' x = H x := by
  refine ACalls.entry (by kernel_rfl) fun hb _ => calls_of Tryz.func108 rfl (by kernel_rfl) (by simp [Tryz.ntmps108]) ?_
  simp only [List.all_cons, List.all_nil, Bool.and_true, Bool.and_eq_true] at hsc
  obtain ⟨s0, s1, s2, s3⟩ := hsc
  simp only [encC, encL]
  have hap := fun nm (a b : Bool) (w : Int) => ap49_s nm k (H.upd n (some (.cells [iv .i64 1, iv .i64 2, iv .i64 o, iv .i64 v, .fslc nl fu s []]))) a b l [v, w] (by rw [upd_ne _ _ _ _ (by omega)]; exact hk) (by simp) (by simp; omega)
  simp only [List.map_append, List.map_cons, List.map_nil, List.length_cons, List.length_nil, Nat.zero_add, Nat.reduceAdd] at hap
  repeat' (first | (refine ac_seq_h fun K hK => ?_) | (refine ac_region_h fun K hK => ?_; simp (disch := omega) [go_sem, *, Tryz.ntmps108]) | (apply Hide.out hK; clear hK K; try with_reducible dsimp only [thenA]) | (apply Hide.out ht; clear ht hf Kt Kf) | (refine ac_cond_h fun Kt Kf ht hf => ?_; simp (disch := omega) [go_sem, *]; try (refine ⟨fun hc => ?_, fun hc => ?_⟩ <;> try (exfalso; omega))))
  refine ac_chain_h [16, 19] (fun h' => h' n = some (.cells [iv .i64 1, iv .i64 2, iv .i64 o, iv .i64 v, .fslc nl fu s []]) ∧ h' m = some (.cells [v0, v1, .slc k 0 l.length 1, v3, v4])) mixed (by kernel_rfl) (by simp (disch := omega) [go_sem, upd_ne, hm]) fun K hK => ?_
  simp (disch := omega) [go_sem, *]
  repeat' (first | (refine aC_c (by simp [go_sem]) (by decide) (fun h' hh => by (try dsimp only at hh); (try simp (disch := omega) [go_sem, *, wrap64_id, ilt_true, ile_true]); first | exact rfl | exact ⟨rfl, rfl, rfl⟩) ?_; try simp only [pS_some]) | (refine aC_x (by simp [go_sem]) (by decide) (by (try simp (disch := omega) [go_sem, *, upd_ne]); first | exact rfl | exact ⟨rfl, rfl⟩ | exact ⟨rfl, rfl, rfl⟩) (by first | exact .inl rfl | (right; simp (disch := omega) [go_sem, upd_ne, hm])) ?_; try simp only [pS_some, pS_none]) | (refine aC_end ?_; apply Hide.out hK; clear hK K; try with_reducible dsimp only [thenA]))
  repeat' (first | (refine ac_seq_h fun K hK => ?_) | (refine ac_region_h fun K hK => ?_; simp (disch := omega) [go_sem, *, upd_ne]) | (apply Hide.out hK; clear hK K; try with_reducible dsimp only [thenA]) | (refine ac_block ?_))
  refine ac_rounds 1 ?_
  unfold ACRounds
  repeat' (first | (refine ac_seq_h fun K hK => ?_) | (refine ac_region_h fun K hK => ?_; simp (disch := omega) [go_sem, *]) | (apply Hide.out hK; clear hK K; try with_reducible dsimp only [thenA]) | (apply Hide.out hf; clear ht hf Kt Kf) | (refine ac_exit ?_; simp only [thenA, blockA, if_true]) | (refine ac_cond_h fun Kt Kf ht hf => ?_; simp (disch := omega) [go_sem, *]; try (refine ⟨fun hc => ?_, fun hc => ?_⟩ <;> try (exfalso; omega))))
  refine ⟨by simp, [], (by rfl), ret_id ⟨rfl, n + 1 + 3 + 16, by omega, by omega, by simp (disch := omega) only [upd_same], by simp (disch := omega) only [upd_ne, upd_same], fun x hx h1 h2 => by simp (disch := omega) only [upd_ne]⟩⟩
theorem ask_leaf3n (H : AHeap) (n : Nat) (v0 v1 v2 v4 : AV) (m : Nat) (hmn : m < n) (hm : H m = some (.cells [v0, v1, v2, .fslc true true 0 [], v4])) (o v : Int) (nl fu : Bool) (s : Nat) (hv1 : 0 ≤ v) (hv2 : v ≤ 10000)
    (hsc : ([v0, v1, v2, v4] : List AV).all AV.scalar = true) : ACalls Tryz.prog 108 [encC (.mk 1 3 o v nl fu s []), .ptr m 0] H n fun r h' n' => r = .tup [] ∧ ∃ k2, n ≤ k2 ∧ k2 < n' ∧ h' m = some (.cells [v0, v1, v2, .slc k2 0 2 1, v4]) ∧ h' k2 = some (.cells [iv .i64 v, iv .i64 (min (v + 1) 10000)]) ∧ ∀ x, x < n → x ≠ m → h' x = H x := by
  refine ACalls.entry (by kernel_rfl) fun hb _ => calls_of Tryz.func108 rfl (by kernel_rfl) (by simp [Tryz.ntmps108]) ?_
  simp only [List.all_cons, List.all_nil, Bool.and_true, Bool.and_eq_true] at hsc
  obtain ⟨s0, s1, s2, s3⟩ := hsc
  simp only [encC, encL]
  have hap := fun nm (h0 : AHeap) (a b : Bool) (w : Int) => ap49_nil nm h0 a b [v, w] (by simp) (by simp)
  simp only [List.map_cons, List.map_nil, List.length_cons, List.length_nil, Nat.zero_add, Nat.reduceAdd] at hap
  repeat' (first | (refine ac_seq_h fun K hK => ?_) | (refine ac_region_h fun K hK => ?_; simp (disch := omega) [go_sem, *, Tryz.ntmps108]) | (apply Hide.out hK; clear hK K; try with_reducible dsimp only [thenA]) | (apply Hide.out ht; clear ht hf Kt Kf) | (refine ac_cond_h fun Kt Kf ht hf => ?_; simp (disch := omega) [go_sem, *]; try (refine ⟨fun hc => ?_, fun hc => ?_⟩ <;> try (exfalso; omega))))
  refine ac_chain_h [16, 19] (fun h' => h' n = some (.cells [iv .i64 1, iv .i64 3, iv .i64 o, iv .i64 v, .fslc nl fu s []]) ∧ h' m = some (.cells [v0, v1, v2, .fslc true true 0 [], v4])) mixed (by kernel_rfl) (by simp (disch := omega) [go_sem, upd_ne, hm]) fun K hK => ?_
  simp (disch := omega) [go_sem, *]
  repeat' (first | (refine aC_c (by simp [go_sem]) (by decide) (fun h' hh => by (try dsimp only at hh); (try simp (disch := omega) [go_sem, *, wrap64_id, ilt_true, ile_true]); first | exact rfl | exact ⟨rfl, rfl, rfl⟩) ?_; try simp only [pS_some]) | (refine aC_x (by simp [go_sem]) (by decide) (by (try simp (disch := omega) [go_sem, *, upd_ne]); first | exact rfl | exact ⟨rfl, rfl⟩ | exact ⟨rfl, rfl, rfl⟩) (by first | exact .inl rfl | (right; simp (disch := omega) [go_sem, upd_ne, hm])) ?_; try simp only [pS_some, pS_none]) | (refine aC_end ?_; apply Hide.out hK; clear hK K; try with_reducible dsimp only [thenA]))
  repeat' (first | (refine ac_seq_h fun K hK => ?_) | (refine ac_region_h fun K hK => ?_; simp (disch := omega) [go_sem, *, upd_ne]) | (apply Hide.out hK; clear hK K; try with_reducible dsimp only [thenA]) | (refine ac_block ?_))
  refine ac_rounds 1 ?_
  unfold ACRounds
  repeat' (first | (refine ac_seq_h fun K hK => ?_) | (refine ac_region_h fun K hK => ?_; simp (disch := omega) [go_sem, *]) | (apply Hide.out hK; clear hK K; try with_reducible dsimp only [thenA]) | (apply Hide.out hf; clear ht hf Kt Kf) | (refine ac_exit ?_; simp only [thenA, blockA, if_true]) | (refine ac_cond_h fun Kt Kf ht hf => ?_; simp (disch := omega) [go_sem, *]; try (refine ⟨fun hc => ?_, fun hc => ?_⟩ <;> try (exfalso; omega))))
  refine ⟨by simp, [], (by rfl), ret_id ⟨rfl, n + 1 + 3 + 16, by omega, by omega, by simp (disch := omega) only [upd_same], by simp (disch := omega) only [upd_ne, upd_same], fun x hx h1 => by simp (disch := omega) only [upd_ne]⟩⟩
theorem ask_leaf3s (H : AHeap) (n : Nat) (v0 v1 v2 v4 : AV) (m k : Nat) (l : List Int) (hl : l.length ≤ 1000000) (hmn : m < n) (hkn : k < n) (hkm : k ≠ m) (hm : H m = some (.cells [v0, v1, v2, .slc k 0 l.length 1, v4])) (hk : H k = some (.cells (l.map (iv .i64)))) (o v : Int) (nl fu : Bool) (s : Nat) (hv1 : 0 ≤ v) (hv2 : v ≤ 10000)
    (hsc : ([v0, v1, v2, v4] : List AV).all AV.scalar = true) : ACalls Tryz.prog 108 [encC (.mk 1 3 o v nl fu s []), .ptr m 0] H n fun r h' n' => r = .tup [] ∧ ∃ k2, n ≤ k2 ∧ k2 < n' ∧ h' m = some (.cells [v0, v1, v2, .slc k2 0 (l.length + 2) 1, v4]) ∧ h' k2 = some (.cells (l.map (iv .i64) ++ [iv .i64 v, iv .i64 (min (v + 1) 10000)])) ∧ ∀ x, x < n → x ≠ m → x ≠ k → h' x = H x := by
  refine ACalls.entry (by kernel_rfl) fun hb _ => calls_of Tryz.func108 rfl (by kernel_rfl) (by simp [Tryz.ntmps108]) ?_
  simp only [List.all_cons, List.all_nil, Bool.and_true, Bool.and_eq_true] at hsc
  obtain ⟨s0, s1, s2, s3⟩ := hsc
  simp only [encC, encL]
  have hap := fun nm (a b : Bool) (w : Int) => ap49_s nm k (H.upd n (some (.cells [iv .i64 1, iv .i64 3, iv .i64 o, iv .i64 v, .fslc nl fu s []]))) a b l [v, w] (by rw [upd_ne _ _ _ _ (by omega)]; exact hk) (by simp) (by simp; omega)
  simp only [List.map_append, List.map_cons, List.map_nil, List.length_cons, List.length_nil, Nat.zero_add, Nat.reduceAdd] at hap
  repeat' (first | (refine ac_seq_h fun K hK => ?_) | (refine ac_region_h fun K hK => ?_; simp (disch := omega) [go_sem, *, Tryz.ntmps108]) | (apply Hide.out hK; clear hK K; try with_reducible dsimp only [thenA]) | (apply Hide.out ht; clear ht hf Kt Kf) | (refine ac_cond_h fun Kt Kf ht hf => ?_; simp (disch := omega) [go_sem, *]; try (refine ⟨fun hc => ?_, fun hc => ?_⟩ <;> try (exfalso; omega))))
  refine ac_chain_h [16, 19] (fun h' => h' n = some (.cells [iv .i64 1, iv .i64 3, iv .i64 o, iv .i64 v, .fslc nl fu s []]) ∧ h' m = some (.cells [v0, v1, v2, .slc k 0 l.length 1, v4])) mixed (by kernel_rfl) (by simp (disch := omega) [go_sem, upd_ne, hm]) fun K hK => ?_
  simp (disch := omega) [go_sem, *]
  repeat' (first | (refine aC_c (by simp [go_sem]) (by decide) (fun h' hh => by (try dsimp only at hh); (try simp (disch := omega) [go_sem, *, wrap64_id, ilt_true, ile_true]); first | exact rfl | exact ⟨rfl, rfl, rfl⟩) ?_; try simp only [pS_some]) | (refine aC_x (by simp [go_sem]) (by decide) (by (try simp (disch := omega) [go_sem, *, upd_ne]); first | exact rfl | exact ⟨rfl, rfl⟩ | exact ⟨rfl, rfl, rfl⟩) (by first | exact .inl rfl | (right; simp (disch := omega) [go_sem, upd_ne, hm])) ?_; try simp only [pS_some, pS_none]) | (refine aC_end ?_; apply Hide.out hK; clear hK K; try with_reducible dsimp only [thenA]))
  repeat' (first | (refine ac_seq_h fun K hK => ?_) | (refine ac_region_h fun K hK => ?_; simp (disch := omega) [go_sem, *, upd_ne]) | (apply Hide.out hK; clear hK K; try with_reducible dsimp only [thenA]) | (refine ac_block ?_))
  refine ac_rounds 1 ?_
  unfold ACRounds
  repeat' (first | (refine ac_seq_h fun K hK => ?_) | (refine ac_region_h fun K hK => ?_; simp (disch := omega) [go_sem, *]) | (apply Hide.out hK; clear hK K; try with_reducible dsimp only [thenA]) | (apply Hide.out hf; clear ht hf Kt Kf) | (refine ac_exit ?_; simp only [thenA, blockA, if_true]) | (refine ac_cond_h fun Kt Kf ht hf => ?_; simp (disch := omega) [go_sem, *]; try (refine ⟨fun hc => ?_, fun hc => ?_⟩ <;> try (exfalso; omega))))
  refine ⟨by simp, [], (by rfl), ret_id ⟨rfl, n + 1 + 3 + 16, by omega, by omega, by simp (disch := omega) only [upd_same], by simp (disch := omega) only [upd_ne, upd_same], fun x hx h1 h2 => by simp (disch := omega) only [upd_ne]⟩⟩
theorem ask_leaf4n (H : AHeap) (n : Nat) (v0 v1 v2 v3 : AV) (m : Nat) (hmn : m < n) (hm : H m = some (.cells [v0, v1, v2, v3, .fslc true true 0 []])) (o v : Int) (nl fu : Bool) (s : Nat) (hv1 : 0 ≤ v) (hv2 : v ≤ 10000)
    (hsc : ([v0, v1, v2, v3] : List AV).all AV.scalar = true) : ACalls Tryz.prog 108 [encC (.mk 1 4 o v nl fu s []), .ptr m 0] H n fun r h' n' => r = .tup [] ∧ ∃ k2, n ≤ k2 ∧ k2 < n' ∧ h' m = some (.cells [v0, v1, v2, v3, .slc k2 0 2 1]) ∧ h' k2 = some (.cells [iv .i64 v, iv .i64 (min (v + 1) 10000)]) ∧ ∀ x, x < n → x ≠ m → h' x = H x := by
  refine ACalls.entry (by kernel_rfl) fun hb _ => calls_of Tryz.func108 rfl (by kernel_rfl) (by simp [Tryz.ntmps108]) ?_
  simp only [List.all_cons, List.all_nil, Bool.and_true, Bool.and_eq_true] at hsc
  obtain ⟨s0, s1, s2, s3⟩ := hsc
  simp only [encC, encL]
  have hap := fun nm (h0 : AHeap) (a b : Bool) (w : Int) => ap49_nil nm h0 a b [v, w] (by simp) (by simp)
  simp only [List.map_cons, List.map_nil, List.length_cons, List.length_nil, Nat.zero_add, Nat.reduceAdd] at hap
  repeat' (first | (refine ac_seq_h fun K hK => ?_) | (refine ac_region_h fun K hK => ?_; simp (disch := omega) [go_sem, *, Tryz.ntmps108]) | (apply Hide.out hK; clear hK K; try with_reducible dsimp only [thenA]) | (apply Hide.out ht; clear ht hf Kt Kf) | (refine ac_cond_h fun Kt Kf ht hf => ?_; simp (disch := omega) [go_sem, *]; try (refine ⟨fun hc => ?_, fun hc => ?_⟩ <;> try (exfalso; omega))))
  refine ac_chain_h [16, 19] (fun h' => h' n = some (.cells [iv .i64 1, iv .i64 4, iv .i64 o, iv .i64 v, .fslc nl fu s []]) ∧ h' m = some (.cells [v0, v1, v2, v3, .fslc true true 0 []])) mixed (by kernel_rfl) (by simp (disch := omega) [go_sem, upd_ne, hm]) fun K hK => ?_
  simp (disch := omega) [go_sem, *]
  repeat' (first | (refine aC_c (by simp [go_sem]) (by decide) (fun h' hh => by (try dsimp only at hh); (try simp (disch := omega) [go_sem, *, wrap64_id, ilt_true, ile_true]); first | exact rfl | exact ⟨rfl, rfl, rfl⟩) ?_; try simp only [pS_some]) | (refine aC_x (by simp [go_sem]) (by decide) (by (try simp (disch := omega) [go_sem, *, upd_ne]); first | exact rfl | exact ⟨rfl, rfl⟩ | exact ⟨rfl, rfl, rfl⟩) (by first | exact .inl rfl | (right; simp (disch := omega) [go_sem, upd_ne, hm])) ?_; try simp only [pS_some, pS_none]) | (refine aC_end ?_; apply Hide.out hK; clear hK K; try with_reducible dsimp only [thenA]))
  repeat' (first | (refine ac_seq_h fun K hK => ?_) | (refine ac_region_h fun K hK => ?_; simp (disch := omega) [go_sem, *, upd_ne]) | (apply Hide.out hK; clear hK K; try with_reducible dsimp only [thenA]) | (refine ac_block ?_))
  refine ac_rounds 1 ?_
  unfold ACRounds
  repeat' (first | (refine ac_seq_h fun K hK => ?_) | (refine ac_region_h fun K hK => ?_; simp (disch := omega) [go_sem, *]) | (apply Hide.out hK; clear hK K; try with_reducible dsimp only [thenA]) | (apply Hide.out hf; clear ht hf Kt Kf) | (refine ac_exit ?_; simp only [thenA, blockA, if_true]) | (refine ac_cond_h fun Kt Kf ht hf => ?_; simp (disch := omega) [go_sem, *]; try (refine ⟨fun hc => ?_, fun hc => ?_⟩ <;> try (exfalso; omega))))
  refine ⟨by simp, [], (by rfl), ret_id ⟨rfl, n + 1 + 3 + 16, by omega, by omega, by simp (disch := omega) only [upd_same], by simp (disch := omega) only [upd_ne, upd_same], fun x hx h1 => by simp (disch := omega) only [upd_ne]⟩⟩
theorem ask_leaf4s (H : AHeap) (n : Nat) (v0 v1 v2 v3 : AV) (m k : Nat) (l : List Int) (hl : l.length ≤ 1000000) (hmn : m < n) (hkn : k < n) (hkm : k ≠ m) (hm : H m = some (.cells [v0, v1, v2, v3, .slc k 0 l.length 1])) (hk : H k = some (.cells (l.map (iv .i64)))) (o v : Int) (nl fu : Bool) (s : Nat) (hv1 : 0 ≤ v) (hv2 : v ≤ 10000)
    (hsc : ([v0, v1, v2, v3] : List AV).all AV.scalar = true) : ACalls Tryz.prog 108 [encC (.mk 1 4 o v nl fu s []), .ptr m 0] H n fun r h' n' => r = .tup [] ∧ ∃ k2, n ≤ k2 ∧ k2 < n' ∧ h' m = some (.cells [v0, v1, v2, v3, .slc k2 0 (l.length + 2) 1]) ∧ h' k2 = some (.cells (l.map (iv .i64) ++ [iv .i64 v, iv .i64 (min (v + 1) 10000)])) ∧ ∀ x, x < n → x ≠ m → x ≠ k → h' x = H x := by
  refine ACalls.entry (by kernel_rfl) fun hb _ => calls_of Tryz.func108 rfl (by kernel_rfl) (by simp [Tryz.ntmps108]) ?_
  simp only [List.all_cons, List.all_nil, Bool.and_true, Bool.and_eq_true] at hsc
  obtain ⟨s0, s1, s2, s3⟩ := hsc
  simp only [encC, encL]
  have hap := fun nm (a b : Bool) (w : Int) => ap49_s nm k (H.upd n (some (.cells [iv .i64 1, iv .i64 4, iv .i64 o, iv .i64 v, .fslc nl fu s []]))) a b l [v, w] (by rw [upd_ne _ _ _ _ (by omega)]; exact hk) (by simp) (by simp; omega)
  simp only [List.map_append, List.map_cons, List.map_nil, List.length_cons, List.length_nil, Nat.zero_add, Nat.reduceAdd] at hap
  repeat' (first | (refine ac_seq_h fun K hK => ?_) | (refine ac_region_h fun K hK => ?_; simp (disch := omega) [go_sem, *, Tryz.ntmps108]) | (apply Hide.out hK; clear hK K; try with_reducible dsimp only [thenA]) | (apply Hide.out ht; clear ht hf Kt Kf) | (refine ac_cond_h fun Kt Kf ht hf => ?_; simp (disch := omega) [go_sem, *]; try (refine ⟨fun hc => ?_, fun hc => ?_⟩ <;> try (exfalso; omega))))
  refine ac_chain_h [16, 19] (fun h' => h' n = some (.cells [iv .i64 1, iv .i64 4, iv .i64 o, iv .i64 v, .fslc nl fu s []]) ∧ h' m = some (.cells [v0, v1, v2, v3, .slc k 0 l.length 1])) mixed (by kernel_rfl) (by simp (disch := omega) [go_sem, upd_ne, hm]) fun K hK => ?_
  simp (disch := omega) [go_sem, *]
  repeat' (first | (refine aC_c (by simp [go_sem]) (by decide) (fun h' hh => by (try dsimp only at hh); (try simp (disch := omega) [go_sem, *, wrap64_id, ilt_true, ile_true]); first | exact rfl | exact ⟨rfl, rfl, rfl⟩) ?_; try simp only [pS_some]) | (refine aC_x (by simp [go_sem]) (by decide) (by (try simp (disch := omega) [go_sem, *, upd_ne]); first | exact rfl | exact ⟨rfl, rfl⟩ | exact ⟨rfl, rfl, rfl⟩) (by first | exact .inl rfl | (right; simp (disch := omega) [go_sem, upd_ne, hm])) ?_; try simp only [pS_some, pS_none]) | (refine aC_end ?_; apply Hide.out hK; clear hK K; try with_reducible dsimp only [thenA]))
  repeat' (first | (refine ac_seq_h fun K hK => ?_) | (refine ac_region_h fun K hK => ?_; simp (disch := omega) [go_sem, *, upd_ne]) | (apply Hide.out hK; clear hK K; try with_reducible dsimp only [thenA]) | (refine ac_block ?_))
  refine ac_rounds 1 ?_
  unfold ACRounds
  repeat' (first | (refine ac_seq_h fun K hK => ?_) | (refine ac_region_h fun K hK => ?_; simp (disch := omega) [go_sem, *]) | (apply Hide.out hK; clear hK K; try with_reducible dsimp only [thenA]) | (apply Hide.out hf; clear ht hf Kt Kf) | (refine ac_exit ?_; simp only [thenA, blockA, if_true]) | (refine ac_cond_h fun Kt Kf ht hf => ?_; simp (disch := omega) [go_sem, *]; try (refine ⟨fun hc => ?_, fun hc => ?_⟩ <;> try (exfalso; omega))))
  refine ⟨by simp, [], (by rfl), ret_id ⟨rfl, n + 1 + 3 + 16, by omega, by omega, by simp (disch := omega) only [upd_same], by simp (disch := omega) only [upd_ne, upd_same], fun x hx h1 h2 => by simp (disch := omega) only [upd_ne]⟩⟩
end Go.AM

namespace Go.AM
open Go.Proofs Cw
set_option maxRecDepth 10000
/-- a row's slice: nil, or all cells of an object -/
def rowV (K : Nat → Nat) (L : Nat → List Int) (i : Nat) : AV := if L i = [] then .fslc true true 0 [] else .slc (K i) 0 (L i).length 1
theorem rowV_sc (K : Nat → Nat) (L : Nat → List Int) (i : Nat) : (rowV K L i).scalar = true := by unfold rowV; split <;> rfl
structure RowsAt (m : Nat) (L : Nat → List Int) (K : Nat → Nat) (n : Nat) (H : AHeap) : Prop where
  hm : H m = some (.cells [rowV K L 0, rowV K L 1, rowV K L 2, rowV K L 3, rowV K L 4])
  row : ∀ i, i < 5 → L i ≠ [] → H (K i) = some (.cells ((L i).map (iv .i64)))
  ne : ∀ i, i < 5 → L i ≠ [] → K i ≠ m
  lt : ∀ i, i < 5 → L i ≠ [] → K i < n
  inj : ∀ i j, i < 5 → j < 5 → L i ≠ [] → L j ≠ [] → K i = K j → i = j
  mn : m < n
theorem RowsAt.upd {m : Nat} {L : Nat → List Int} {K : Nat → Nat} {n : Nat} {H : AHeap} (R : RowsAt m L K n H) {x n2 : Nat} (h1 : n ≤ x) (h2 : n ≤ n2) (o : Option AObj) : RowsAt m L K n2 (H.upd x o) :=
  ⟨by rw [upd_ne _ _ _ _ (by have := R.mn; omega)]; exact R.hm, fun i hi hl => by rw [upd_ne _ _ _ _ (by have := R.lt i hi hl; omega)]; exact R.row i hi hl, R.ne, fun i hi hl => Nat.lt_of_lt_of_le (R.lt i hi hl) h2, R.inj, Nat.lt_of_lt_of_le R.mn h2⟩
theorem RowsAt.up {m : Nat} {L : Nat → List Int} {K : Nat → Nat} {n : Nat} {H : AHeap} (R : RowsAt m L K n H) {n2 : Nat} (h2 : n ≤ n2) : RowsAt m L K n2 H :=
  ⟨R.hm, R.row, R.ne, fun i hi hl => Nat.lt_of_lt_of_le (R.lt i hi hl) h2, R.inj, Nat.lt_of_lt_of_le R.mn h2⟩
/-- behind a call that appends A -/
def AskPost (m : Nat) (L : Nat → List Int) (K : Nat → Nat) (A : Nat → List Int) (n : Nat) (H : AHeap) (r : AV) (h' : AHeap) (n' : Nat) : Prop :=
  r = .tup [] ∧ n ≤ n' ∧ ∃ K', RowsAt m (fun i => L i ++ A i) K' n' h' ∧ (∀ i, i < 5 → (L i ≠ [] → K' i = K i ∨ n ≤ K' i) ∧ (L i = [] → A i ≠ [] → n ≤ K' i)) ∧ ∀ x, x < n → x ≠ m → (∀ i, i < 5 → L i ≠ [] → x ≠ K i) → h' x = H x
theorem leaf_post {m : Nat} {L : Nat → List Int} {K : Nat → Nat} {n : Nat} {H : AHeap} (R : RowsAt m L K n H) (f : Nat) (hf : f < 5) (A : Nat → List Int) (hA : ∀ j, j ≠ f → A j = []) (hAf : A f ≠ []) {h' : AHeap} {k2 n' : Nat} (h1 : n ≤ k2) (h2 : k2 < n')
    (hm' : ∀ K' L', (∀ j, j < 5 → rowV K' L' j = if j = f then .slc k2 0 (L f ++ A f).length 1 else rowV K L j) → h' m = some (.cells [rowV K' L' 0, rowV K' L' 1, rowV K' L' 2, rowV K' L' 3, rowV K' L' 4]))
    (hk2 : h' k2 = some (.cells ((L f ++ A f).map (iv .i64)))) (hx : ∀ x, x < n → x ≠ m → (L f ≠ [] → x ≠ K f) → h' x = H x) : AskPost m L K A n H (.tup []) h' n' := by
  have hmn := R.mn
  have hLA : ∀ j, j ≠ f → L j ++ A j = L j := fun j hj => by rw [hA j hj, List.append_nil]
  refine ⟨rfl, by omega, fun j => if j = f then k2 else K j, ⟨?_, ?_, ?_, ?_, ?_, by omega⟩, fun i hi => ?_, fun x h3 h4 h5 => hx x h3 h4 (h5 f hf)⟩
  · apply hm'
    intro j hj
    unfold rowV
    by_cases e : j = f
    · subst e; simp [hAf]
    · simp only [e, if_false, hLA j e]
  · intro i hi hl
    by_cases e : i = f
    · subst e; simpa using hk2
    · simp only [e, if_false, hLA i e] at hl ⊢
      rw [hx _ (R.lt i hi hl) (R.ne i hi hl) (fun h e2 => e (R.inj i f hi hf hl h e2))]
      exact R.row i hi hl
  · intro i hi hl
    by_cases e : i = f
    · simp only [e, if_true]; omega
    · simp only [e, if_false, hLA i e] at hl ⊢; exact R.ne i hi hl
  · intro i hi hl
    by_cases e : i = f
    · simp only [e, if_true]; omega
    · simp only [e, if_false, hLA i e] at hl ⊢; have := R.lt i hi hl; omega
  · intro i j hi hj hli hlj e2
    by_cases ei : i = f
    · by_cases ej : j = f
      · rw [ei, ej]
      · simp only [ei, ej, if_true, if_false, hLA j ej] at e2 hlj
        have := R.lt j hj hlj; omega
    · by_cases ej : j = f
      · simp only [ei, ej, if_true, if_false, hLA i ei] at e2 hli
        have := R.lt i hi hli; omega
      · simp only [ei, ej, if_false, hLA i ei, hLA j ej] at e2 hli hlj
        exact R.inj i j hi hj hli hlj e2
  · by_cases e : i = f
    · exact ⟨fun _ => by right; simp [e]; exact h1, fun _ _ => by simp [e]; exact h1⟩
    · exact ⟨fun _ => by left; simp [e], fun _ h => absurd (hA i e) h⟩
theorem ask_leaf0 {m : Nat} {L : Nat → List Int} {K : Nat → Nat} {n : Nat} {H : AHeap} (R : RowsAt m L K n H) (o v : Int) (nl fu : Bool) (s : Nat) (hv1 : 0 ≤ v) (hv2 : v ≤ 10000) (hl : (L 0).length ≤ 1000000) (A : Nat → List Int) (hA : ∀ j, j ≠ 0 → A j = []) (hAf : A 0 = [v, min (v + 1) 10000]) :
    ACalls Tryz.prog 108 [encC (.mk 1 0 o v nl fu s []), .ptr m 0] H n (AskPost m L K A n H) := by
  have hm := R.hm
  have hsc : ([rowV K L 1, rowV K L 2, rowV K L 3, rowV K L 4] : List AV).all AV.scalar = true := by simp [rowV_sc]
  by_cases h0 : L 0 = []
  · have e0 : rowV K L 0 = .fslc true true 0 [] := by rw [rowV, if_pos h0]
    rw [e0] at hm
    refine (ask_leaf0n H n (rowV K L 1) (rowV K L 2) (rowV K L 3) (rowV K L 4) m R.mn hm o v nl fu s hv1 hv2 hsc).mono fun r h' n' ⟨hr, k2, h1, h2, h3, h4, h5⟩ => ?_
    subst hr
    refine leaf_post R 0 (by omega) A hA (by rw [hAf]; simp) h1 h2 (fun K' L' hj => ?_) (by rw [h0, hAf]; simpa using h4) (fun x a b _ => h5 x a b)
    rw [h3, hj 0 (by omega), hj 1 (by omega), hj 2 (by omega), hj 3 (by omega), hj 4 (by omega), h0, hAf]; rfl
  · have e0 : rowV K L 0 = .slc (K 0) 0 (L 0).length 1 := by rw [rowV, if_neg h0]
    rw [e0] at hm
    refine (ask_leaf0s H n (rowV K L 1) (rowV K L 2) (rowV K L 3) (rowV K L 4) m (K 0) (L 0) hl R.mn (R.lt 0 (by omega) h0) (R.ne 0 (by omega) h0) hm (R.row 0 (by omega) h0) o v nl fu s hv1 hv2 hsc).mono fun r h' n' ⟨hr, k2, h1, h2, h3, h4, h5⟩ => ?_
    subst hr
    refine leaf_post R 0 (by omega) A hA (by rw [hAf]; simp) h1 h2 (fun K' L' hj => ?_) (by rw [hAf]; simpa using h4) (fun x a b c => h5 x a b (c h0))
    rw [h3, hj 0 (by omega), hj 1 (by omega), hj 2 (by omega), hj 3 (by omega), hj 4 (by omega), hAf, List.length_append]; rfl
theorem ask_leaf1 {m : Nat} {L : Nat → List Int} {K : Nat → Nat} {n : Nat} {H : AHeap} (R : RowsAt m L K n H) (o v : Int) (nl fu : Bool) (s : Nat) (hv1 : 0 ≤ v) (hv2 : v ≤ 10000) (hl : (L 1).length ≤ 1000000) (A : Nat → List Int) (hA : ∀ j, j ≠ 1 → A j = []) (hAf : A 1 = [v, min (v + 1) 10000]) :
    ACalls Tryz.prog 108 [encC (.mk 1 1 o v nl fu s []), .ptr m 0] H n (AskPost m L K A n H) := by
  have hm := R.hm
  have hsc : ([rowV K L 0, rowV K L 2, rowV K L 3, rowV K L 4] : List AV).all AV.scalar = true := by simp [rowV_sc]
  by_cases h0 : L 1 = []
  · have e0 : rowV K L 1 = .fslc true true 0 [] := by rw [rowV, if_pos h0]
    rw [e0] at hm
    refine (ask_leaf1n H n (rowV K L 0) (rowV K L 2) (rowV K L 3) (rowV K L 4) m R.mn hm o v nl fu s hv1 hv2 hsc).mono fun r h' n' ⟨hr, k2, h1, h2, h3, h4, h5⟩ => ?_
    subst hr
    refine leaf_post R 1 (by omega) A hA (by rw [hAf]; simp) h1 h2 (fun K' L' hj => ?_) (by rw [h0, hAf]; simpa using h4) (fun x a b _ => h5 x a b)
    rw [h3, hj 0 (by omega), hj 1 (by omega), hj 2 (by omega), hj 3 (by omega), hj 4 (by omega), h0, hAf]; rfl
  · have e0 : rowV K L 1 = .slc (K 1) 0 (L 1).length 1 := by rw [rowV, if_neg h0]
    rw [e0] at hm
    refine (ask_leaf1s H n (rowV K L 0) (rowV K L 2) (rowV K L 3) (rowV K L 4) m (K 1) (L 1) hl R.mn (R.lt 1 (by omega) h0) (R.ne 1 (by omega) h0) hm (R.row 1 (by omega) h0) o v nl fu s hv1 hv2 hsc).mono fun r h' n' ⟨hr, k2, h1, h2, h3, h4, h5⟩ => ?_
    subst hr
    refine leaf_post R 1 (by omega) A hA (by rw [hAf]; simp) h1 h2 (fun K' L' hj => ?_) (by rw [hAf]; simpa using h4) (fun x a b c => h5 x a b (c h0))
    rw [h3, hj 0 (by omega), hj 1 (by omega), hj 2 (by omega), hj 3 (by omega), hj 4 (by omega), hAf, List.length_append]; rfl
theorem ask_leaf2 {m : Nat} {L : Nat → List Int} {K : Nat → Nat} {n : Nat} {H : AHeap} (R : RowsAt m L K n H) (o v : Int) (nl fu : Bool) (s : Nat) (hv1 : 0 ≤ v) (hv2 : v ≤ 10000) (hl : (L 2).length ≤ 1000000) (A : Nat → List Int) (hA : ∀ j, j ≠ 2 → A j = []) (hAf : A 2 = [v, min (v + 1) 10000]) :
    ACalls Tryz.prog 108 [encC (.mk 1 2 o v nl fu s []), .ptr m 0] H n (AskPost m L K A n H) := by
  have hm := R.hm
  have hsc : ([rowV K L 0, rowV K L 1, rowV K L 3, rowV K L 4] : List AV).all AV.scalar = true := by simp [rowV_sc]
  by_cases h0 : L 2 = []
  · have e0 : rowV K L 2 = .fslc true true 0 [] := by rw [rowV, if_pos h0]
    rw [e0] at hm
    refine (ask_leaf2n H n (rowV K L 0) (rowV K L 1) (rowV K L 3) (rowV K L 4) m R.mn hm o v nl fu s hv1 hv2 hsc).mono fun r h' n' ⟨hr, k2, h1, h2, h3, h4, h5⟩ => ?_
    subst hr
    refine leaf_post R 2 (by omega) A hA (by rw [hAf]; simp) h1 h2 (fun K' L' hj => ?_) (by rw [h0, hAf]; simpa using h4) (fun x a b _ => h5 x a b)
    rw [h3, hj 0 (by omega), hj 1 (by omega), hj 2 (by omega), hj 3 (by omega), hj 4 (by omega), h0, hAf]; rfl
  · have e0 : rowV K L 2 = .slc (K 2) 0 (L 2).length 1 := by rw [rowV, if_neg h0]
    rw [e0] at hm
    refine (ask_leaf2s H n (rowV K L 0) (rowV K L 1) (rowV K L 3) (rowV K L 4) m (K 2) (L 2) hl R.mn (R.lt 2 (by omega) h0) (R.ne 2 (by omega) h0) hm (R.row 2 (by omega) h0) o v nl fu s hv1 hv2 hsc).mono fun r h' n' ⟨hr, k2, h1, h2, h3, h4, h5⟩ => ?_
    subst hr
    refine leaf_post R 2 (by omega) A hA (by rw [hAf]; simp) h1 h2 (fun K' L' hj => ?_) (by rw [hAf]; simpa using h4) (fun x a b c => h5 x a b (c h0))
    rw [h3, hj 0 (by omega), hj 1 (by omega), hj 2 (by omega), hj 3 (by omega), hj 4 (by omega), hAf, List.length_append]; rfl
theorem ask_leaf3 {m : Nat} {L : Nat → List Int} {K : Nat → Nat} {n : Nat} {H : AHeap} (R : RowsAt m L K n H) (o v : Int) (nl fu : Bool) (s : Nat) (hv1 : 0 ≤ v) (hv2 : v ≤ 10000) (hl : (L 3).length ≤ 1000000) (A : Nat → List Int) (hA : ∀ j, j ≠ 3 → A j = []) (hAf : A 3 = [v, min (v + 1) 10000]) :
    ACalls Tryz.prog 108 [encC (.mk 1 3 o v nl fu s []), .ptr m 0] H n (AskPost m L K A n H) := by
  have hm := R.hm
  have hsc : ([rowV K L 0, rowV K L 1, rowV K L 2, rowV K L 4] : List AV).all AV.scalar = true := by simp [rowV_sc]
  by_cases h0 : L 3 = []
  · have e0 : rowV K L 3 = .fslc true true 0 [] := by rw [rowV, if_pos h0]
    rw [e0] at hm
    refine (ask_leaf3n H n (rowV K L 0) (rowV K L 1) (rowV K L 2) (rowV K L 4) m R.mn hm o v nl fu s hv1 hv2 hsc).mono fun r h' n' ⟨hr, k2, h1, h2, h3, h4, h5⟩ => ?_
    subst hr
    refine leaf_post R 3 (by omega) A hA (by rw [hAf]; simp) h1 h2 (fun K' L' hj => ?_) (by rw [h0, hAf]; simpa using h4) (fun x a b _ => h5 x a b)
    rw [h3, hj 0 (by omega), hj 1 (by omega), hj 2 (by omega), hj 3 (by omega), hj 4 (by omega), h0, hAf]; rfl
  · have e0 : rowV K L 3 = .slc (K 3) 0 (L 3).length 1 := by rw [rowV, if_neg h0]
    rw [e0] at hm
    refine (ask_leaf3s H n (rowV K L 0) (rowV K L 1) (rowV K L 2) (rowV K L 4) m (K 3) (L 3) hl R.mn (R.lt 3 (by omega) h0) (R.ne 3 (by omega) h0) hm (R.row 3 (by omega) h0) o v nl fu s hv1 hv2 hsc).mono fun r h' n' ⟨hr, k2, h1, h2, h3, h4, h5⟩ => ?_
    subst hr
    refine leaf_post R 3 (by omega) A hA (by rw [hAf]; simp) h1 h2 (fun K' L' hj => ?_) (by rw [hAf]; simpa using h4) (fun x a b c => h5 x a b (c h0))
    rw [h3, hj 0 (by omega), hj 1 (by omega), hj 2 (by omega), hj 3 (by omega), hj 4 (by omega), hAf, List.length_append]; rfl
theorem ask_leaf4 {m : Nat} {L : Nat → List Int} {K : Nat → Nat} {n : Nat} {H : AHeap} (R : RowsAt m L K n H) (o v : Int) (nl fu : Bool) (s : Nat) (hv1 : 0 ≤ v) (hv2 : v ≤ 10000) (hl : (L 4).length ≤ 1000000) (A : Nat → List Int) (hA : ∀ j, j ≠ 4 → A j = []) (hAf : A 4 = [v, min (v + 1) 10000]) :
    ACalls Tryz.prog 108 [encC (.mk 1 4 o v nl fu s []), .ptr m 0] H n (AskPost m L K A n H) := by
  have hm := R.hm
  have hsc : ([rowV K L 0, rowV K L 1, rowV K L 2, rowV K L 3] : List AV).all AV.scalar = true := by simp [rowV_sc]
  by_cases h0 : L 4 = []
  · have e0 : rowV K L 4 = .fslc true true 0 [] := by rw [rowV, if_pos h0]
    rw [e0] at hm
    refine (ask_leaf4n H n (rowV K L 0) (rowV K L 1) (rowV K L 2) (rowV K L 3) m R.mn hm o v nl fu s hv1 hv2 hsc).mono fun r h' n' ⟨hr, k2, h1, h2, h3, h4, h5⟩ => ?_
    subst hr
    refine leaf_post R 4 (by omega) A hA (by rw [hAf]; simp) h1 h2 (fun K' L' hj => ?_) (by rw [h0, hAf]; simpa using h4) (fun x a b _ => h5 x a b)
    rw [h3, hj 0 (by omega), hj 1 (by omega), hj 2 (by omega), hj 3 (by omega), hj 4 (by omega), h0, hAf]; rfl
  · have e0 : rowV K L 4 = .slc (K 4) 0 (L 4).length 1 := by rw [rowV, if_neg h0]
    rw [e0] at hm
    refine (ask_leaf4s H n (rowV K L 0) (rowV K L 1) (rowV K L 2) (rowV K L 3) m (K 4) (L 4) hl R.mn (R.lt 4 (by omega) h0) (R.ne 4 (by omega) h0) hm (R.row 4 (by omega) h0) o v nl fu s hv1 hv2 hsc).mono fun r h' n' ⟨hr, k2, h1, h2, h3, h4, h5⟩ => ?_
    subst hr
    refine leaf_post R 4 (by omega) A hA (by rw [hAf]; simp) h1 h2 (fun K' L' hj => ?_) (by rw [hAf]; simpa using h4) (fun x a b c => h5 x a b (c h0))
    rw [h3, hj 0 (by omega), hj 1 (by omega), hj 2 (by omega), hj 3 (by omega), hj 4 (by omega), hAf, List.length_append]; rfl
end Go.AM

namespace Go.AM
open Go.Proofs Cw
set_option maxRecDepth 10000
set_option maxHeartbeats 4000000
theorem asked_one (k : Int) (hk : (k == 1) = false) {m : Nat} {L : Nat → List Int} {J : Nat → Nat} {n : Nat} {H : AHeap} (R : RowsAt m L J n H) (fu : Bool) (x : Cnd) (A : Nat → List Int)
    (kx : ∀ (K : Nat → Nat) (n : Nat) (H : AHeap), RowsAt m L K n H → ACalls Tryz.prog 108 [encC x, .ptr m 0] H n (AskPost m L K A n H)) :
    ACalls Tryz.prog 108 [encC (.mk k 0 0 0 false fu 5 [x]), .ptr m 0] H n (AskPost m L J A n H) := by
  refine ACalls.entry (by kernel_rfl) fun hb _ => calls_of Tryz.func108 rfl (by kernel_rfl) (by simp [Tryz.ntmps108]) ?_
  obtain ⟨xk, xf, xo, xn, xnl, xfu, xsz, xks⟩ := x
  simp only [encC, encL] at kx ⊢
  replace kx : Hide _ := kx
  replace R : Hide _ := R
  repeat' (first | (refine ac_seq_h fun K hK => ?_) | (refine ac_region_h fun K hK => ?_; simp (disch := omega) [go_sem, *, Tryz.ntmps108]) | (apply Hide.out hK; clear hK K; try with_reducible dsimp only [thenA]) | (apply Hide.out hf; clear ht hf Kt Kf) | (refine ac_block ?_) | (refine ac_skip ?_; simp only [thenA]) | (refine ac_cond_h fun Kt Kf ht hf => ?_; simp (disch := omega) [go_sem, *]; try (refine ⟨fun hc => ?_, fun hc => ?_⟩ <;> try (exfalso; omega))))
  refine ac_rounds 2 ?_
  unfold ACRounds
  repeat' (first | (refine ac_seq_h fun K hK => ?_) | (refine ac_region_h fun K hK => ?_; simp (disch := omega) [go_sem, *, ilt_true]) | (apply Hide.out hK; clear hK K; try with_reducible dsimp only [thenA]) | (apply Hide.out ht; clear ht hf Kt Kf) | (refine ac_block ?_) | (refine ac_skip ?_; simp only [thenA]) | (refine ac_cond_h fun Kt Kf ht hf => ?_; simp (disch := omega) [go_sem, *]; try (refine ⟨fun hc => ?_, fun hc => ?_⟩ <;> try (exfalso; omega))))
  refine .inl ((kx.out J _ _ (by exact ((R.out.upd (by omega) (n2 := n + 1 + 3 + 4 + 1 + 2) (by omega) _).upd (by omega) (n2 := n + 1 + 3 + 4 + 1 + 2) (by omega) _).upd (by omega) (by omega) _)).mono fun r h' n' hp => ?_)
  obtain ⟨rfl, hn', K', R', hk', hx'⟩ := hp
  replace R' : Hide _ := R'
  replace hk' : Hide _ := hk'
  replace hx' : Hide _ := hx'
  repeat' (first | (refine ac_seq_h fun K hK => ?_) | (refine ac_region_h fun K hK => ?_; simp (disch := omega) [go_sem, *, wrap64_id]) | (apply Hide.out hK; clear hK K; try with_reducible dsimp only [thenA]) | (apply Hide.out hf; clear ht hf Kt Kf) | (refine ac_exit ?_; simp only [thenA, blockA, if_true]) | (refine ac_cond_h fun Kt Kf ht hf => ?_; simp (disch := omega) [go_sem, *]; try (refine ⟨fun hc => ?_, fun hc => ?_⟩ <;> try (exfalso; omega))))
  refine ⟨by simp, [], (by rfl), ret_id ⟨rfl, by omega, K', R'.out.up (by omega), fun i hi => ⟨fun hl => ((hk'.out i hi).1 hl).imp id (by omega), fun h1 h2 => by have := (hk'.out i hi).2 h1 h2; omega⟩, fun x a b c => by rw [hx'.out x (by omega) b c]; simp (disch := omega) only [upd_ne]⟩⟩
theorem asked_two (k : Int) (hk : (k == 1) = false) {m : Nat} {L : Nat → List Int} {J : Nat → Nat} {n : Nat} {H : AHeap} (R : RowsAt m L J n H) (fu : Bool) (x y : Cnd) (A B : Nat → List Int)
    (kx : ∀ (K : Nat → Nat) (n : Nat) (H : AHeap), RowsAt m L K n H → ACalls Tryz.prog 108 [encC x, .ptr m 0] H n (AskPost m L K A n H))
    (ky : ∀ (K : Nat → Nat) (n : Nat) (H : AHeap), RowsAt m (fun i => L i ++ A i) K n H → ACalls Tryz.prog 108 [encC y, .ptr m 0] H n (AskPost m (fun i => L i ++ A i) K B n H)) :
    ACalls Tryz.prog 108 [encC (.mk k 0 0 0 false fu 5 [x, y]), .ptr m 0] H n (AskPost m L J (fun i => A i ++ B i) n H) := by
  refine ACalls.entry (by kernel_rfl) fun hb _ => calls_of Tryz.func108 rfl (by kernel_rfl) (by simp [Tryz.ntmps108]) ?_
  obtain ⟨xk, xf, xo, xn, xnl, xfu, xsz, xks⟩ := x
  obtain ⟨yk, yf, yo, yn, ynl, yfu, ysz, yks⟩ := y
  simp only [encC, encL] at kx ky ⊢
  replace kx : Hide _ := kx
  replace ky : Hide _ := ky
  replace R : Hide _ := R
  repeat' (first | (refine ac_seq_h fun K hK => ?_) | (refine ac_region_h fun K hK => ?_; simp (disch := omega) [go_sem, *, Tryz.ntmps108]) | (apply Hide.out hK; clear hK K; try with_reducible dsimp only [thenA]) | (apply Hide.out hf; clear ht hf Kt Kf) | (refine ac_block ?_) | (refine ac_skip ?_; simp only [thenA]) | (refine ac_cond_h fun Kt Kf ht hf => ?_; simp (disch := omega) [go_sem, *]; try (refine ⟨fun hc => ?_, fun hc => ?_⟩ <;> try (exfalso; omega))))
  refine ac_rounds 3 ?_
  unfold ACRounds
  repeat' (first | (refine ac_seq_h fun K hK => ?_) | (refine ac_region_h fun K hK => ?_; simp (disch := omega) [go_sem, *, ilt_true]) | (apply Hide.out hK; clear hK K; try with_reducible dsimp only [thenA]) | (apply Hide.out ht; clear ht hf Kt Kf) | (refine ac_block ?_) | (refine ac_skip ?_; simp only [thenA]) | (refine ac_cond_h fun Kt Kf ht hf => ?_; simp (disch := omega) [go_sem, *]; try (refine ⟨fun hc => ?_, fun hc => ?_⟩ <;> try (exfalso; omega))))
  refine .inl ((kx.out J _ _ (by exact ((R.out.upd (by omega) (n2 := n + 1 + 3 + 4 + 1 + 2) (by omega) _).upd (by omega) (n2 := n + 1 + 3 + 4 + 1 + 2) (by omega) _).upd (by omega) (by omega) _)).mono fun r h' n' hp => ?_)
  obtain ⟨rfl, hn', K', R', hk', hx'⟩ := hp
  replace R' : Hide _ := R'
  replace hk' : Hide _ := hk'
  replace hx' : Hide _ := hx'
  repeat' (first | (refine ac_seq_h fun K hK => ?_) | (refine ac_region_h fun K hK => ?_; simp (disch := omega) [go_sem, *, wrap64_id, ilt_true, ile_true]) | (apply Hide.out hK; clear hK K; try with_reducible dsimp only [thenA]) | (apply Hide.out ht; clear ht hf Kt Kf) | (refine ac_block ?_) | (refine ac_skip ?_; simp only [thenA]) | (refine ac_cond_h fun Kt Kf ht hf => ?_; simp (disch := omega) [go_sem, *]; try (refine ⟨fun hc => ?_, fun hc => ?_⟩ <;> try (exfalso; omega))))
  refine .inl ((ky.out K' _ _ (by exact ((R'.out.upd (by omega) (n2 := n' + 2 + 1 + 2) (by omega) _).upd (by omega) (by omega) _))).mono fun r h2 n2 hp => ?_)
  obtain ⟨rfl, hn2, K2, R2, hk2, hx2⟩ := hp
  replace R2 : Hide _ := R2
  replace hk2 : Hide _ := hk2
  replace hx2 : Hide _ := hx2
  repeat' (first | (refine ac_seq_h fun K hK => ?_) | (refine ac_region_h fun K hK => ?_; simp (disch := omega) [go_sem, *, wrap64_id]) | (apply Hide.out hK; clear hK K; try with_reducible dsimp only [thenA]) | (apply Hide.out hf; clear ht hf Kt Kf) | (refine ac_exit ?_; simp only [thenA, blockA, if_true]) | (refine ac_cond_h fun Kt Kf ht hf => ?_; simp (disch := omega) [go_sem, *]; try (refine ⟨fun hc => ?_, fun hc => ?_⟩ <;> try (exfalso; omega))))
  have R3 := R2.out
  simp only [List.append_assoc] at R3
  refine ⟨by simp, [], (by rfl), ret_id ⟨rfl, by omega, K2, R3.up (by omega), fun i hi => ⟨fun hl => ?_, fun h1 h2 => ?_⟩, fun x a b c => ?_⟩⟩
  · have hla : L i ++ A i ≠ [] := by intro e; exact hl (List.append_eq_nil_iff.1 e).1
    rcases (hk2.out i hi).1 hla with e | e
    · rcases (hk'.out i hi).1 hl with e' | e'
      · left; rw [e, e']
      · right; omega
    · right; omega
  · by_cases hA : A i = []
    · have := (hk2.out i hi).2 (by simp [h1, hA]) (by simpa [hA] using h2); omega
    · have h3 := (hk'.out i hi).2 h1 hA
      rcases (hk2.out i hi).1 (by intro e; exact hA (List.append_eq_nil_iff.1 e).2) with e | e <;> omega
  · rw [hx2.out x (by omega) b fun i hi hla e => ?_]
    · rw [upd_ne _ _ _ _ (by omega), upd_ne _ _ _ _ (by omega), hx'.out x (by omega) b c]
      simp (disch := omega) only [upd_ne]
    · by_cases hl : L i = []
      · have := (hk'.out i hi).2 hl (by simpa [hl] using hla); omega
      · rcases (hk'.out i hi).1 hl with e' | e'
        · exact c i hi hl (by rw [e, e'])
        · omega
theorem asked_spec : ∀ (N : Nat) (x : Cnd), tot x ≤ N → wf x → ok x = true → ∀ (m : Nat) (L : Nat → List Int) (J : Nat → Nat) (n : Nat) (H : AHeap), RowsAt m L J n H → (∀ i, i < 5 → (L i).length + 2 * tot x ≤ 1000000) →
    ACalls Tryz.prog 108 [encC x, .ptr m 0] H n (AskPost m L J (fun i => Cw.ask i x) n H)
  | 0, x, hN, _, _ => by have := tot_pos x; omega
  | N + 1, .mk k f o v nl fu s ks, hN, hw, hok => by
    intro m L J n H R hL
    rcases ok_cases hok with ⟨rfl, rfl, hf, ho, hv⟩ | ⟨rfl, x, rfl, hx, rfl, rfl, rfl⟩ | ⟨hk, x, y, rfl, hx, hy, rfl, rfl, rfl⟩
    · simp only [wi, Bool.and_eq_true, decide_eq_true_eq] at hf hv
      have hA : ∀ (q : Int) (j : Nat), q ≠ j → Cw.ask (j : Int) (.mk 1 q o v nl fu s []) = [] := fun q j h => by simp [Cw.ask, askL, h]
      have hB : ∀ (j : Nat), Cw.ask (j : Int) (.mk 1 (j : Int) o v nl fu s []) = [v, min (v + 1) 10000] := fun j => by simp [Cw.ask, askL]
      have hf5 : f = 0 ∨ f = 1 ∨ f = 2 ∨ f = 3 ∨ f = 4 := by omega
      rcases hf5 with rfl | rfl | rfl | rfl | rfl
      · exact ask_leaf0 R o v nl fu s hv.1 hv.2 (by have := hL 0 (by omega); omega) _ (fun j hj => hA 0 j (by omega)) (hB 0)
      · exact ask_leaf1 R o v nl fu s hv.1 hv.2 (by have := hL 1 (by omega); omega) _ (fun j hj => hA 1 j (by omega)) (hB 1)
      · exact ask_leaf2 R o v nl fu s hv.1 hv.2 (by have := hL 2 (by omega); omega) _ (fun j hj => hA 2 j (by omega)) (hB 2)
      · exact ask_leaf3 R o v nl fu s hv.1 hv.2 (by have := hL 3 (by omega); omega) _ (fun j hj => hA 3 j (by omega)) (hB 3)
      · exact ask_leaf4 R o v nl fu s hv.1 hv.2 (by have := hL 4 (by omega); omega) _ (fun j hj => hA 4 j (by omega)) (hB 4)
    · obtain ⟨rfl, rfl⟩ := hw.1.resolve_left (by simp)
      simp only [tot, totL] at hL hN
      have e1 : (fun i : Nat => Cw.ask (i : Int) (.mk 2 0 0 0 false fu 5 [x])) = fun i : Nat => Cw.ask (i : Int) x := by funext i; simp [Cw.ask, askL]
      rw [e1]
      exact asked_one 2 rfl R fu x _ fun K n H R => asked_spec N x (by omega) hw.2.1 hx m L K n H R fun i hi => by have := hL i hi; omega
    · obtain ⟨rfl, rfl⟩ := hw.1.resolve_left (by simp)
      simp only [tot, totL] at hL hN
      have hk1 : (k == 1) = false := by rcases hk with rfl | rfl <;> rfl
      have hk2 : ¬ k = 1 := by omega
      have e1 : (fun i : Nat => Cw.ask (i : Int) (.mk k 0 0 0 false fu 5 [x, y])) = fun i : Nat => Cw.ask (i : Int) x ++ Cw.ask (i : Int) y := by funext i; simp [Cw.ask, askL, hk2]
      rw [e1]
      exact asked_two k hk1 R fu x y _ _ (fun K n H R => asked_spec N x (by omega) hw.2.1 hx m L K n H R fun i hi => by have := hL i hi; omega)
        (fun K n H R => asked_spec N y (by omega) hw.2.2.1 hy m _ K n H R fun i hi => by have := hL i hi; have := length_ask (i : Int) x; simp only [List.length_append]; omega)
end Go.AM
