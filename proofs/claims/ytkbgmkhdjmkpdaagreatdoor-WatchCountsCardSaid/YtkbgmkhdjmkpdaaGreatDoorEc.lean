/- Orders as plain data: few, formed. Conditions: as each theorem says. -/
import Derived.Test.YtkbgmkhdjmkpdaaGreatDoorEb
import Derived.Test.YtkbgmkhdjmkpdaaGreatDoorCg
namespace Go.AM
open Go.Proofs Cw
set_option maxRecDepth 10000
set_option maxHeartbeats 4000000
structure Ordr where
  name : ByteArray
  rank : Int
  cond : Cnd
def encO : Ordr → AV
  | ⟨nm, rk, .mk k f o n nl fu s ks⟩ => .agg [sv nm, iv .i64 rk, iv .i64 k, iv .i64 f, iv .i64 o, iv .i64 n, .fslc nl fu s (encL ks)]
def wfO (l : List Ordr) : Prop := ∀ o ∈ l, wf o.cond
/-- not too large -/
def lit (o : Ordr) : Bool := decide (o.name.size ≤ 40) && decide (tot o.cond ≤ 80)
@[go_sem] theorem cellsO_sc (c : Ordr) : (cellsOf (encO c)).all AV.scalar = true := by obtain ⟨a, b, c⟩ := c; cases c; simp [encO, cellsOf, AV.scalar]
@[go_sem] theorem loadO_enc (c : Ordr) : loadC (7, true) (cellsOf (encO c)) = some (encO c) := by obtain ⟨a, b, c⟩ := c; cases c; simp [encO, cellsOf, loadC]
end Go.AM

namespace Go.AM
open Go.Proofs Cw
set_option maxRecDepth 10000
set_option maxHeartbeats 4000000
def ordOk (o : Ordr) : Bool := nameOk o.name && wi o.rank 0 100 && Cw.formed o.cond
def chk (l : List Ordr) : Int := if 30 < l.length then 2 else if l.all ordOk then 0 else 7
def smO (l : List Ordr) : Prop := ∀ o ∈ l, tot o.cond ≤ 900 ∧ o.name.size ≤ 1000000
end Go.AM
