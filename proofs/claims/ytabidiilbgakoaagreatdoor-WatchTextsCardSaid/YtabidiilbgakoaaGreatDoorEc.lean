/- Orders as plain data: few, formed. Conditions: as each theorem says. -/
import Derived.Test.YtabidiilbgakoaaGreatDoorEb
import Derived.Test.YtabidiilbgakoaaGreatDoorCg
namespace Go.AM
open Go.Proofs Cw
set_option maxRecDepth 10000
set_option maxHeartbeats 4000000
structure Ordr where
 name:ByteArray
 rank:Int
 cond:Cnd
def zp:Ordr→AV
 | ⟨nm,rk,.mk k f o n nl fu s ks⟩=>.agg [sv nm,iv .i64 rk,iv .i64 k,iv .i64 f,iv .i64 o,iv .i64 n,.fslc nl fu s (ZE ks)]
def wfO (l:List Ordr):Prop:=∀o ∈ l,wf o.cond
def lit (o:Ordr):Bool:=decide (o.name.size≤40) && decide (tot o.cond≤80)
@[go_sem] theorem cellsO_sc (c:Ordr):(cellsOf (zp c)).all AV.scalar=true:=by obtain⟨a,b,c⟩:=c;cases c;simp[zp,cellsOf,AV.scalar]
@[go_sem] theorem loadO_enc (c:Ordr):jB (7,true) (cellsOf (zp c))=some (zp c):=by obtain⟨a,b,c⟩:=c;cases c;simp[zp,cellsOf,jB]
end Go.AM
namespace Go.AM
open Go.Proofs Cw
set_option maxRecDepth 10000
set_option maxHeartbeats 4000000
def Zz (o:Ordr):Bool:=Zn o.name && wi o.rank 0 100 && Cw.formed o.cond
def chk (l:List Ordr):Int:=if 30 < l.length then 2 else if l.all Zz then 0 else 7
def smO (l:List Ordr):Prop:=∀o ∈ l,tot o.cond≤900000∧o.name.size≤1000000
end Go.AM
