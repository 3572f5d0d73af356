/- Orders as plain data: few, formed. Conditions: as each theorem says. -/
import Derived.Test.YtabidiilbgakoaaGreatDoorEb
import Derived.Test.YtabidiilbgakoaaGreatDoorCg
namespace Go.AM
open Go.Proofs Cw
set_option maxRecDepth 10000
set_option maxHeartbeats 4000000
structure Ordr where
  name : ByteArray
  rank : Int
  cond : Cnd
def encO : Ordr → AV
  | ⟨nm, rk, .mk k f o n nl fu s ks⟩ => .agg [sv nm, iv .i64 rk, iv .i64 k, iv .i64 f, iv .i64 o, iv .i64 n, .fslc nl fu s (encL ks)]
def wfO (l : List Ordr) : Prop := ∀ o ∈ l, wf o.cond
/-- not too large -/
def lit (o : Ordr) : Bool := decide (o.name.size ≤ 40) && decide (tot o.cond ≤ 80)
@[go_sem] theorem cellsO_sc (c : Ordr) : (cellsOf (encO c)).all AV.scalar = true := by obtain ⟨a, b, c⟩ := c; cases c; simp [encO, cellsOf, AV.scalar]
@[go_sem] theorem loadO_enc (c : Ordr) : loadC (7, true) (cellsOf (encO c)) = some (encO c) := by obtain ⟨a, b, c⟩ := c; cases c; simp [encO, cellsOf, loadC]
end Go.AM

namespace Go.AM
open Go.Proofs Cw
set_option maxRecDepth 10000
set_option maxHeartbeats 4000000
def ordOk (o : Ordr) : Bool := nameOk o.name && wi o.rank 0 100 && Cw.formed o.cond
def chk (l : List Ordr) : Int := if 30 < l.length then 2 else if l.all ordOk then 0 else 7
def smO (l : List Ordr) : Prop := ∀ o ∈ l, tot o.cond ≤ 900 ∧ o.name.size ≤ 1000000
theorem formedO107 (nm : ByteArray) (rk : Int) (c : Cnd) (hw : wf c) (hs : nm.size ≤ 1000000) : APure Tryz.prog 77 [encO ⟨nm, rk, c⟩] (bv (ordOk ⟨nm, rk, c⟩)) := by
  intro h n
  have k1 := name152 nm hs
  have k2 := rwithin_spec rk 0 100
  have k3 := formedC_spec c hw
  refine ACalls.pure (ACalls.entry (by kernel_rfl) fun hb _ => calls_of Tryz.func77 rfl (by kernel_rfl) (by simp [Tryz.ntmps77]) ?_)
  have hok : ordOk ⟨nm, rk, c⟩ = (nameOk nm && wi rk 0 100 && Cw.formed c) := rfl
  rw [hok]; clear hok
  generalize nameOk nm = x at *
  generalize wi rk 0 100 = y at *
  generalize Cw.formed c = z at *
  clear hw hs
  obtain ⟨k, f, o, nn, nl2, fu2, s2, ks⟩ := c
  simp only [encC] at k3
  simp only [encO]
  cases x <;> cases y <;> cases z
  all_goals simp only [Bool.and_true, Bool.and_false]
  all_goals repeat' (first | (refine ac_seq_h fun K hK => ?_) | (refine ac_region_h fun K hK => ?_; simp (disch := omega) [go_sem, *, Tryz.ntmps77 ]) | (apply Hide.out hK; clear hK K; try with_reducible dsimp only [thenA]) | (with_reducible refine APure.gcall (k1) ?_; try simp (disch := omega) [go_sem, * ]) | (with_reducible refine APure.gcall (k2) ?_; try simp (disch := omega) [go_sem, * ]) | (with_reducible refine APure.gcall (k3) ?_; try simp (disch := omega) [go_sem, * ]))
  all_goals (refine ac_ret ?_; try dsimp only [thenA, blockA]; refine ⟨by simp, _, (by first | rfl | (simp (disch := omega) [go_sem, upd_ne] <;> rfl)), ?_⟩; refine ret_id ⟨fun k hk => (by first | rfl | (repeat rw [upd_ne _ _ _ _ (by omega)])), (by simp [go_sem, below]), (by simp [go_sem] <;> omega), by simp, by simp⟩)
end Go.AM
