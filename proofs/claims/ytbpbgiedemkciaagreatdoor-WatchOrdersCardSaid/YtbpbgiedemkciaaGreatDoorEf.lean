/- Orders: the unused ones, by the specification; names of given orders. Conditions: as each theorem says. -/
import Derived.Test.YtbpbgiedemkciaaGreatDoorEe
namespace Go.AM
open Go.Proofs Cw
set_option maxRecDepth 10000
set_option maxHeartbeats 4000000
end Go.AM

namespace Go.AM
open Go.Proofs Cw
set_option maxRecDepth 10000
set_option maxHeartbeats 4000000
/-- the name of the order that is given -/
def nameG (l : List Ordr) (fs : Fs) : ByteArray := if 0 ≤ giv l fs then (match l[(giv l fs).toNat]? with | some o => o.name | none => ByteArray.empty) else ByteArray.empty
theorem given68 (nl fu : Bool) (s : Nat) (l : List Ordr) (hnl : l = [] ∨ nl = false ∧ s = 7) (hw : okO l) (hl : l.length ≤ 1000000) (fs : Fs) : APure Tryz.prog 68 [.fslc nl fu s (l.map encO), encF fs] (sv (nameG l fs)) := by
  intro h n
  have k1 := decide56 nl fu s l hnl hw hl fs
  have hg : -1 ≤ giv l fs ∧ giv l fs < 0 + (l.length : Int) := giv_range fs l 0 (-1) 0 (by omega) (by omega)
  refine ACalls.pure (ACalls.entry (by kernel_rfl) fun hb _ => calls_of Tryz.func68 rfl (by kernel_rfl) (by simp [Tryz.ntmps68]) ?_)
  obtain ⟨fa, fb, fc, fd, fe⟩ := fs
  unfold nameG
  generalize giv l ⟨fa, fb, fc, fd, fe⟩ = g at *
  clear hw
  by_cases hg0 : 0 ≤ g
  · obtain ⟨k, rfl⟩ : ∃ k : Nat, g = k := ⟨g.toNat, by omega⟩
    have hlt : k < l.length := by omega
    have hne : l ≠ [] := fun e => by rw [e] at hlt; simp at hlt
    obtain ⟨rfl, rfl⟩ := hnl.resolve_left hne
    obtain ⟨⟨nm, rk, ck, cf, co, cn, cl, cu, cs, ks⟩, hx⟩ : ∃ o, l[k] = o := ⟨_, rfl⟩
    have hex : encO l[k] = .agg [sv nm, iv .i64 rk, iv .i64 ck, iv .i64 cf, iv .i64 co, iv .i64 cn, .fslc cl cu cs (encL ks)] := by rw [hx]; rfl
    have hres : (if (0 : Int) ≤ (k : Int) then (match l[((k : Int)).toNat]? with | some o => o.name | none => ByteArray.empty) else ByteArray.empty) = nm := by
      rw [if_pos hg0, Int.toNat_natCast, List.getElem?_eq_getElem hlt, hx]
    rw [hres]
    replace hx : Hide _ := hx
    replace hres : Hide _ := trivial
    replace hnl : Hide _ := trivial
    clear hne
    repeat' (first | (refine ac_seq_h fun K hK => ?_) | (refine ac_region_h fun K hK => ?_; simp (disch := omega) [go_sem, *, Tryz.ntmps68 ]) | (apply Hide.out hK; clear hK K; try with_reducible dsimp only [thenA]) | (apply Hide.out ht; clear ht hf Kt Kf) | (with_reducible refine APure.gcall (k1) ?_; try simp (disch := omega) [go_sem, * ]) | (refine ac_cond_h fun Kt Kf ht hf => ?_; simp (disch := omega) [go_sem, * ]; try (refine ⟨fun hc => ?_, fun hc => ?_⟩ <;> try (exfalso; omega))))
    (refine ac_ret ?_; try dsimp only [thenA, blockA]; refine ⟨by simp, _, (by first | rfl | (simp (disch := omega) [go_sem, upd_ne] <;> rfl)), ?_⟩; refine ret_id ⟨fun k hk => (by first | rfl | (repeat rw [upd_ne _ _ _ _ (by omega)])), (by simp [go_sem, below]), (by simp [go_sem] <;> omega), by simp, by simp⟩)
  · have e1 : g = -1 := by omega
    subst e1
    rw [if_neg hg0, show sv ByteArray.empty = AV.c (Value.string { data := #[] }) from rfl]
    generalize List.map encO l = L at *
    clear hg hg0
    repeat' (first | (refine ac_seq_h fun K hK => ?_) | (refine ac_region_h fun K hK => ?_; simp (disch := omega) [go_sem, *, ile_false, Tryz.ntmps68 ]) | (apply Hide.out hK; clear hK K; try with_reducible dsimp only [thenA]) | (apply Hide.out hf; clear ht hf Kt Kf) | (with_reducible refine APure.gcall (k1) ?_; try simp (disch := omega) [go_sem, * ]) | (refine ac_skip ?_; simp only [thenA]) | (refine ac_cond_h fun Kt Kf ht hf => ?_; simp (disch := omega) [go_sem, * ]; try (refine ⟨fun hc => ?_, fun hc => ?_⟩ <;> try (exfalso; omega))))
    (refine ac_ret ?_; try dsimp only [thenA, blockA]; refine ⟨by simp, _, (by first | rfl | (simp (disch := omega) [go_sem, upd_ne] <;> rfl)), ?_⟩; refine ret_id ⟨fun k hk => (by first | rfl | (repeat rw [upd_ne _ _ _ _ (by omega)])), (by simp [go_sem, below]), (by simp [go_sem] <;> omega), by simp, by simp⟩)
end Go.AM
