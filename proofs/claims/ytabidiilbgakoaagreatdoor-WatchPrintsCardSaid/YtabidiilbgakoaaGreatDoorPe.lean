/- strings.Builder: text written to it and read from it. Conditions: as each theorem says. -/
import Derived.Test.YtabidiilbgakoaaGreatDoorPa
namespace Go.AM
open Go.Proofs Cw Du
set_option maxRecDepth 10000
set_option maxHeartbeats 4000000
@[go_sem] theorem lay131 : lay Tryz.prog 131 = some (2, true) := by kernel_rfl
@[go_sem] theorem szOf131 : szOf Tryz.prog 131 = some 2 := by kernel_rfl
@[go_sem] theorem zerOf131 : zerOf Tryz.prog 131 = some (.agg [.c (.pointer none), .fslc true true 0 []]) := by kernel_rfl
@[go_sem] theorem fldOf131_0 : fldOf Tryz.prog 131 0 = some (0, 1) := by kernel_rfl
@[go_sem] theorem fldOf131_1 : fldOf Tryz.prog 131 1 = some (1, 1) := by kernel_rfl
@[go_sem] theorem sizesOk131 : sizesOk Tryz.prog 131 = true := by kernel_rfl
@[go_sem] theorem typed131 : (@Vars.typed Go.Proofs.SAN.vars).contains 131 = true := by kernel_rfl
@[go_sem] theorem nt131 : 131 ∈ (@Vars.typed Go.Proofs.SAN.vars) := by decide
@[go_sem] theorem lay128 : lay Tryz.prog 128 = some (1, false) := by kernel_rfl
@[go_sem] theorem szOf128 : szOf Tryz.prog 128 = some 1 := by kernel_rfl
@[go_sem] theorem zerOf128 : zerOf Tryz.prog 128 = some (.c (.pointer none)) := by kernel_rfl
@[go_sem] theorem kdOf128 : kdOf Tryz.prog 128 = .ptr 131 := by kernel_rfl
@[go_sem] theorem typed128 : (@Vars.typed Go.Proofs.SAN.vars).contains 128 = false := by kernel_rfl
@[go_sem] theorem nt128 : ¬ (128 ∈ (@Vars.typed Go.Proofs.SAN.vars)) := by decide
@[go_sem] theorem lay239 : lay Tryz.prog 239 = some (1, false) := by kernel_rfl
@[go_sem] theorem szOf239 : szOf Tryz.prog 239 = some 1 := by kernel_rfl
@[go_sem] theorem zerOf239 : zerOf Tryz.prog 239 = some (.c (.pointer none)) := by kernel_rfl
@[go_sem] theorem typed239 : (@Vars.typed Go.Proofs.SAN.vars).contains 239 = false := by kernel_rfl
@[go_sem] theorem nt239 : ¬ (239 ∈ (@Vars.typed Go.Proofs.SAN.vars)) := by decide
@[go_sem] theorem isUnsB1 : isUns Tryz.prog 128 239 = true := by kernel_rfl
@[go_sem] theorem isUnsB2 : isUns Tryz.prog 239 128 = true := by kernel_rfl
theorem bytesOf_bytesA (b : ByteArray) : bytesOf (bytesA b) = some b.data.toList := by
  unfold bytesA
  induction b.data.toList with
  | nil => rfl
  | cons x r ih =>
    have hx : x.toNat < 256 := x.toNat_lt
    simp only [List.map_cons, bytesOf, ih, byteOf, iv]
    rw [if_pos ⟨by omega, by omega⟩]
    simp
theorem bytesA_app (a b : ByteArray) : bytesA a ++ bytesA b = bytesA (a ++ b) := by simp [bytesA]
theorem noEsc {x : AV} {h : AHeap} {n : Nat} {K : AV → AHeap → Nat → Prop} (hk : K x h n) : GCalls Tryz.prog 185 [x] h n K :=
  .inr (evExt_ok SAN.xt_ok (g := 185) (k := 0) (by simp [SAN.xt]) (o := (x, h, n)) rfl hk)
theorem uns1 {o : Nat} {a b : AV} {H : AHeap} (ho : H o = some (.tcells 131 (some 2) [a, b])) : aUns Tryz.prog 128 239 (.ptr o 0) H = some (.ptr o 0) := by
  have u1 : Tryz.prog.underlying 128 = some (.pointer 131) := by kernel_rfl
  have u2 : Tryz.prog.underlying 239 = some .unsafePointer := by kernel_rfl
  simp [aUns, ho, u1, u2, szOf131]
theorem uns2 {o : Nat} {a b : AV} {H : AHeap} (ho : H o = some (.tcells 131 (some 2) [a, b])) : aUns Tryz.prog 239 128 (.ptr o 0) H = some (.ptr o 0) := by
  have u1 : Tryz.prog.underlying 128 = some (.pointer 131) := by kernel_rfl
  have u2 : Tryz.prog.underlying 239 = some .unsafePointer := by kernel_rfl
  have u3 : liesAt Tryz.prog Tryz.prog.depth 131 (2 / Tryz.prog.cellsOf 131) 0 131 1 = true := by kernel_rfl
  simp [aUns, ho, u1, u2, u3, szOf131]
theorem neqB (o : Nat) (cn : Bool) : aBin2 Tryz.prog .neq 128 cn (.ptr o 0) (.ptr o 0) = some (bv false) := by
  have : ptrSz Tryz.prog 128 = true := by kernel_rfl
  simp [aBin2, this]
theorem copy_nil {o n : Nat} {X : AV} {H : AHeap} (ho : H o = some (.tcells 131 (some 2) [.c (.pointer none), X])) (_hon : o < n) :
    ACalls Tryz.prog 133 [.ptr o 0] H n fun r h' n' => n ≤ n' ∧ r = .tup [] ∧ h' = H.upd o (some (.tcells 131 (some 2) [.ptr o 0, X])) := by
  refine ACalls.entry (by kernel_rfl) fun hb _ => calls_of Tryz.func133 rfl (by kernel_rfl) (by simp [Tryz.ntmps133]) ?_
  have k1 := uns1 ho
  have k2 := uns2 ho
  repeat' (first | (refine ac_seq_h fun K hK => ?_) | (refine ac_region_h fun K hK => ?_; simp (disch := omega) [go_sem, *, Tryz.ntmps133]) | (apply Hide.out hK; clear hK K; try with_reducible dsimp only [thenA]) | (apply Hide.out ht; clear ht hf Kt Kf) | (refine ac_cond_h fun Kt Kf ht hf => ?_; simp (disch := omega) [go_sem, *]; try (refine ⟨fun hc => ?_, fun hc => ?_⟩ <;> try (exfalso; omega))))
  refine noEsc ?_
  repeat' (first | (apply Hide.out hK; clear hK K; try with_reducible dsimp only [thenA]) | (with_reducible show nextK _ _ _ _ _ _ _; simp (disch := omega) [go_sem, *]))
  exact ⟨.inl rfl, _, rfl, ret_id ⟨by omega, rfl, rfl⟩⟩
theorem copy_self {o n : Nat} {X : AV} {H : AHeap} (ho : H o = some (.tcells 131 (some 2) [.ptr o 0, X])) (_hon : o < n) :
    ACalls Tryz.prog 133 [.ptr o 0] H n fun r h' n' => n ≤ n' ∧ r = .tup [] ∧ h' = H := by
  refine ACalls.entry (by kernel_rfl) fun hb _ => calls_of Tryz.func133 rfl (by kernel_rfl) (by simp [Tryz.ntmps133]) ?_
  repeat' (first | (refine ac_seq_h fun K hK => ?_) | (refine ac_region_h fun K hK => ?_; simp (disch := omega) [go_sem, *, Tryz.ntmps133, neqB]) | (apply Hide.out hK; clear hK K; try with_reducible dsimp only [thenA]) | (apply Hide.out hf; clear ht hf Kt Kf) | (refine ac_skip ?_; simp only) | (refine ac_cond_h fun Kt Kf ht hf => ?_; simp (disch := omega) [go_sem, *]; try (refine ⟨fun hc => ?_, fun hc => ?_⟩ <;> try (exfalso; omega))))
  exact ⟨.inl trivial, _, rfl, ret_id ⟨by omega, rfl, rfl⟩⟩
theorem apS_nil {s : ByteArray} (hs : 0 < s.size) (hz : s.size ≤ 67108864) (nm : Nat) (H : AHeap) : aAppStr Tryz.prog nm 129 9 (.fslc true true 0 []) (sv s) H = some (.slc nm 0 s.size 1, H.upd nm (some (.tcells 5 none (bytesA s)))) := by
  have hk : kdOf Tryz.prog 9 = .string := by kernel_rfl
  have e26 : (2 : Nat) ^ 26 = 67108864 := by decide
  simp [aAppStr, sv, eltOf129, szOf5, byOf5, zerOf5, cellsOf, AV.scalar, hk, hs, e26, hz, iv]
theorem apS_slc {B s : ByteArray} {m : Nat} {H : AHeap} (hm : H m = some (.tcells 5 none (bytesA B))) (hs : 0 < s.size) (hz : B.size + s.size ≤ 67108864) (nm : Nat) : aAppStr Tryz.prog nm 129 9 (.slc m 0 B.size 1) (sv s) H = some (.slc nm 0 (B.size + s.size) 1, (H.upd m none).upd nm (some (.tcells 5 none (bytesA (B ++ s))))) := by
  have hk : kdOf Tryz.prog 9 = .string := by kernel_rfl
  have e26 : (2 : Nat) ^ 26 = 67108864 := by decide
  simp [aAppStr, sv, eltOf129, szOf5, byOf5, zerOf5, cellsOf, AV.scalar, hk, hs, e26, hz, iv, hm, bytesA_length, bytesA_app]
/-- a builder at a name, and the text that it holds -/
structure BufIs (N : Nat) (H : AHeap) (o n : Nat) (B : ByteArray) : Prop where
  lo : N ≤ o
  hi : o < n
  st : (B.size = 0 ∧ H o = some (.tcells 131 (some 2) [.c (.pointer none), .fslc true true 0 []])) ∨
    ∃ m, N ≤ m ∧ m < n ∧ m ≠ o ∧ 0 < B.size ∧ H o = some (.tcells 131 (some 2) [.ptr o 0, .slc m 0 B.size 1]) ∧ H m = some (.tcells 5 none (bytesA B))
theorem write_spec {N o n : Nat} {B s : ByteArray} {H : AHeap} (hB : BufIs N H o n B) (hs : 0 < s.size) (hz : B.size + s.size ≤ 67108864) :
    ACalls Tryz.prog 66 [.ptr o 0, sv s] H n fun r h' n' => n ≤ n' ∧ (∃ z, r = .tup z) ∧ BufIs N h' o n' (B ++ s) ∧ ∀ x, x < N → h' x = H x := by
  refine ACalls.entry (by kernel_rfl) fun hb _ => calls_of Tryz.func66 rfl (by kernel_rfl) (by simp [Tryz.ntmps66]) ?_
  obtain ⟨h1, h2, ⟨h3, h4⟩ | ⟨m, h3, h4, h5, h6, h7, h8⟩⟩ := hB
  · have k := copy_nil h4 (n := n + 4) (by omega)
    repeat' (first | (refine ac_seq_h fun K hK => ?_) | (refine ac_region_h fun K hK => ?_; simp (disch := omega) [go_sem, *, Tryz.ntmps66]) | (apply Hide.out hK; clear hK K; try with_reducible dsimp only [thenA]))
    refine .inl (k.mono fun r h' n' ⟨e1, e2, e3⟩ => ?_)
    subst e2 e3
    clear k
    have ka := apS_nil hs (by omega)
    repeat' (first | (refine ac_seq_h fun K hK => ?_) | (refine ac_region_h fun K hK => ?_; simp (disch := omega) [go_sem, *, upd_ne]) | (apply Hide.out hK; clear hK K; try with_reducible dsimp only [thenA]))
    clear ka
    refine ac_ret ?_
    try dsimp only [thenA, blockA]
    refine ⟨by simp, _, (by first | rfl | (simp (disch := omega) [go_sem, upd_ne] <;> rfl)), ret_id ⟨by omega, ⟨_, rfl⟩, ⟨h1, by omega, .inr ⟨n' + 6, by omega, by omega, by omega, by simp only [ByteArray.size_append]; omega, ?_, ?_⟩⟩, fun x hx => ?_⟩⟩
    · rw [upd_same, ByteArray.size_append, h3, Nat.zero_add]
    · have hB0 : B = ⟨#[]⟩ := by apply ByteArray.ext; exact Array.eq_empty_of_size_eq_zero h3
      rw [upd_ne _ _ _ _ (by omega), upd_same, hB0, nil_app]
    · rw [upd_ne _ _ _ _ (by omega), upd_ne _ _ _ _ (by omega), upd_ne _ _ _ _ (by omega)]
  · have k := copy_self h7 (n := n + 4) (by omega)
    repeat' (first | (refine ac_seq_h fun K hK => ?_) | (refine ac_region_h fun K hK => ?_; simp (disch := omega) [go_sem, *, Tryz.ntmps66]) | (apply Hide.out hK; clear hK K; try with_reducible dsimp only [thenA]))
    refine .inl (k.mono fun r h' n' ⟨e1, e2, e3⟩ => ?_)
    subst e2 e3
    clear k
    have ka := apS_slc h8 hs hz
    repeat' (first | (refine ac_seq_h fun K hK => ?_) | (refine ac_region_h fun K hK => ?_; simp (disch := omega) [go_sem, *, upd_ne]) | (apply Hide.out hK; clear hK K; try with_reducible dsimp only [thenA]))
    clear ka
    refine ac_ret ?_
    try dsimp only [thenA, blockA]
    refine ⟨by simp, _, (by first | rfl | (simp (disch := omega) [go_sem, upd_ne] <;> rfl)), ret_id ⟨by omega, ⟨_, rfl⟩, ⟨h1, by omega, .inr ⟨n' + 6, by omega, by omega, by omega, by simp only [ByteArray.size_append]; omega, ?_, ?_⟩⟩, fun x hx => ?_⟩⟩
    · rw [upd_same, ByteArray.size_append]
    · rw [upd_ne _ _ _ _ (by omega), upd_same]
    · rw [upd_ne _ _ _ _ (by omega), upd_ne _ _ _ _ (by omega), upd_ne _ _ _ _ (by omega)]
theorem unsS {B : ByteArray} {m : Nat} {H : AHeap} (hm : H m = some (.tcells 5 none (bytesA B))) (h0 : 0 < B.size) (hz : B.size ≤ 67108864) : aUnsStr Tryz.prog 208 (.ptr m 0) (iv .i64 B.size) H = some (sv B, H.upd m none) := by
  have u1 : Tryz.prog.underlying 208 = some (.pointer 5) := by kernel_rfl
  have u2 : Tryz.prog.cellsOf 5 = 1 := by kernel_rfl
  have e26 : (2 : Int) ^ 26 = 67108864 := by decide
  have c : (List.take B.size (bytesA B)) = bytesA B := List.take_of_length_le (by rw [bytesA_length]; omega)
  have c2 : (0 : Int) < B.size := by omega
  have c3 : (B.size : Int) ≤ 67108864 := by omega
  simp [aUnsStr, u1, u2, iv, hm, e26, c, c3, h0, bytesA_length, bytesOf_bytesA]
theorem string_spec {N o n : Nat} {B : ByteArray} {H : AHeap} (hB : BufIs N H o n B) (hz : B.size ≤ 67108864) :
    ACalls Tryz.prog 70 [.ptr o 0] H n fun r h' n' => n ≤ n' ∧ r = sv B ∧ ∀ x, x < N → h' x = H x := by
  refine ACalls.entry (by kernel_rfl) fun hb _ => calls_of Tryz.func70 rfl (by kernel_rfl) (by simp [Tryz.ntmps70]) ?_
  obtain ⟨h1, h2, ⟨h3, h4⟩ | ⟨m, h3, h4, h5, h6, h7, h8⟩⟩ := hB
  · have hB0 : B = ByteArray.empty := by apply ByteArray.ext; apply Array.eq_empty_of_size_eq_zero; exact h3
    subst hB0
    repeat' (first | (refine ac_seq_h fun K hK => ?_) | (refine ac_region_h fun K hK => ?_; simp (disch := omega) [go_sem, *, Tryz.ntmps70]) | (apply Hide.out hK; clear hK K; try with_reducible dsimp only [thenA]))
    refine ac_chain_h [10, 11] (fun h' => h' o = some (.tcells 131 (some 2) [.c (.pointer none), .fslc true true 0 []])) mixed (by kernel_rfl) (by simp (disch := omega) [go_sem, h4]) fun K hK => ?_
    simp (disch := omega) [go_sem, *]
    repeat' (first | (refine aC_c (by simp [go_sem]) (by decide) (fun h' hh => by (try dsimp only at hh); (try simp (disch := omega) [go_sem, *, aSliceData]); first | exact rfl | exact ⟨rfl, rfl, rfl⟩) ?_; try simp only [pS_some]) | (refine aC_x (by simp [go_sem]) (by decide) (by (try simp (disch := omega) [go_sem, *, aUnsStr]); first | exact rfl | exact ⟨rfl, rfl⟩ | exact ⟨rfl, rfl, rfl⟩) (by first | exact .inl rfl | (right; simp (disch := omega) [go_sem, h4])) ?_; try simp only [pS_some]) | (refine aC_end ?_; apply Hide.out hK; clear hK K; try with_reducible dsimp only [thenA]))
    repeat' (first | (apply Hide.out hK; clear hK K; try with_reducible dsimp only [thenA]))
    refine ac_ret ?_
    try dsimp only [thenA, blockA]
    exact ⟨by simp, _, (by first | rfl | (simp (disch := omega) [go_sem, upd_ne] <;> rfl)), ret_id ⟨by omega, rfl, fun x hx => rfl⟩⟩
  · have k1 := unsS h8 h6 hz
    repeat' (first | (refine ac_seq_h fun K hK => ?_) | (refine ac_region_h fun K hK => ?_; simp (disch := omega) [go_sem, *, Tryz.ntmps70]) | (apply Hide.out hK; clear hK K; try with_reducible dsimp only [thenA]))
    refine ac_chain_h [10, 11] (fun h' => h' o = some (.tcells 131 (some 2) [.ptr o 0, .slc m 0 B.size 1])) mixed (by kernel_rfl) (by simp (disch := omega) [go_sem, h7]) fun K hK => ?_
    simp (disch := omega) [go_sem, *]
    repeat' (first | (refine aC_c (by simp [go_sem]) (by decide) (fun h' hh => by (try dsimp only at hh); (try simp (disch := omega) [go_sem, *, aSliceData]); first | exact rfl | exact ⟨rfl, rfl, rfl⟩) ?_; try simp only [pS_some]) | (refine aC_x (by simp [go_sem]) (by decide) (by (try simp (disch := omega) [go_sem, *]); first | exact rfl | exact ⟨rfl, rfl⟩ | exact ⟨rfl, rfl, rfl⟩) (by first | exact .inl rfl | (right; simp (disch := omega) [go_sem, upd_ne, h7])) ?_; try simp only [pS_some]) | (refine aC_end ?_; apply Hide.out hK; clear hK K; try with_reducible dsimp only [thenA]))
    repeat' (first | (apply Hide.out hK; clear hK K; try with_reducible dsimp only [thenA]))
    refine ac_ret ?_
    try dsimp only [thenA, blockA]
    exact ⟨by simp, _, (by first | rfl | (simp (disch := omega) [go_sem, upd_ne] <;> rfl)), ret_id ⟨by omega, rfl, fun x hx => upd_ne _ _ _ _ (by omega)⟩⟩
end Go.AM
