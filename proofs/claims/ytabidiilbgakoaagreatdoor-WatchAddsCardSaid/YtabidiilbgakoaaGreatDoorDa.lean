/- Orders with lines: the plain side and small walks. Conditions: as each theorem says. -/
import Derived.Laws.Strings
import Derived.Test.YtabidiilbgakoaaGreatDoorCb
import Derived.Test.YtabidiilbgakoaaGreatDoorEa
namespace Du
open Go
theorem u8 (a b : UInt8) : (a < b) ↔ a.toNat < b.toNat := UInt8.lt_iff_toNat_lt
def bl (a b : ByteArray) : Bool := Op.bytesLess a.toList b.toList
theorem toList_inj {a b : ByteArray} (h : a.toList = b.toList) : a = b := by
  rw [ByteArray.toList_eq, ByteArray.toList_eq] at h
  exact ByteArray.ext (Array.toList_inj.1 h)
def eqB (a b : ByteArray) : Bool := a.toList == b.toList
theorem eqB_iff (a b : ByteArray) : eqB a b = true ↔ a = b := by
  rw [eqB, beq_iff_eq]; exact ⟨toList_inj, fun h => by rw [h]⟩
end Du
namespace Du
structure Lin where
  kind : Int
  tower : ByteArray
  person : ByteArray
  other : ByteArray
  fr : Int
  to : Int
  ev : Int
  nl : Bool
  fu : Bool
  s : Nat
  exc : List Int
end Du
namespace Go.AM
open Go.Proofs Cw Du
set_option maxRecDepth 10000
set_option maxHeartbeats 4000000
def encLn (l : Lin) : AV := .agg [iv .i64 l.kind, sv l.tower, sv l.person, sv l.other, iv .i64 l.fr, iv .i64 l.to, iv .i64 l.ev, .fslc l.nl l.fu l.s (l.exc.map (iv .i64))]
def wfLn (l : Lin) : Prop := l.exc = [] ∨ l.nl = false ∧ l.s = 1
end Go.AM
