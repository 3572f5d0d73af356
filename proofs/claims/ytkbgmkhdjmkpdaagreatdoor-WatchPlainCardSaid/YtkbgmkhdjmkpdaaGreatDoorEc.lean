/- Orders as plain data: few, formed. Conditions: as each theorem says. -/
import Derived.Test.YtkbgmkhdjmkpdaaGreatDoorEb
import Derived.Test.YtkbgmkhdjmkpdaaGreatDoorCg
namespace Go.AM
open Go.Proofs Cw
set_option maxRecDepth 10000
set_option maxHeartbeats 4000000
structure Ordr where
 name:ByteArray
 rank:Int
 cond:Cnd
def ZB:Ordr→AV
 | ⟨nm,rk,.mk k f o n nl fu s ks⟩=>.agg [sv nm,iv .i64 rk,iv .i64 k,iv .i64 f,iv .i64 o,iv .i64 n,.fslc nl fu s (jE ks)]
def wfO (l:List Ordr):Prop:=∀o ∈ l,wf o.cond
def lit (o:Ordr):Bool:=decide (o.name.size≤40) && decide (tot o.cond≤80)
@[go_sem] theorem cellsO_sc (c:Ordr):(cellsOf (ZB c)).all AV.scalar=true:=by obtain⟨a,b,c⟩:=c;cases c;simp[ZB,cellsOf,AV.scalar]
@[go_sem] theorem loadO_enc (c:Ordr):Zt (7,true) (cellsOf (ZB c))=some (ZB c):=by obtain⟨a,b,c⟩:=c;cases c;simp[ZB,cellsOf,Zt]
end Go.AM
namespace Go.AM
open Go.Proofs Cw
set_option maxRecDepth 10000
set_option maxHeartbeats 4000000
def jn (o:Ordr):Bool:=ZX o.name && wi o.rank 0 100 && Cw.formed o.cond
def chk (l:List Ordr):Int:=if 30 < l.length then 2 else if l.all jn then 0 else 7
def smO (l:List Ordr):Prop:=∀o ∈ l,tot o.cond≤900∧o.name.size≤1000000
theorem formedO107 (nm:ByteArray) (rk:Int) (c:Cnd) (hw:wf c) (hs:nm.size≤1000000):zL Tryz.prog 101 [ZB ⟨nm,rk,c⟩] (bv (jn ⟨nm,rk,c⟩)):=by
 intro h n
 have k1:=name152 nm hs
 have k2:=ze rk 0 100
 have k3:=formedC_spec c hw
 refine zS.pure (zS.entry (by kernel_rfl) fun hb _=>zX Tryz.func101 rfl (by kernel_rfl) (by simp[Tryz.ntmps101]) ?_)
 have hok:jn ⟨nm,rk,c⟩=(ZX nm && wi rk 0 100 && Cw.formed c):=rfl
 rw[hok];clear hok
 generalize ZX nm=x at *
 generalize wi rk 0 100=y at *
 generalize Cw.formed c=z at *
 clear hw hs
 obtain⟨k,f,o,nn,nl2,fu2,s2,ks⟩:=c
 simp only[Zg] at k3
 simp only[ZB]
 cases x <;> cases y <;> cases z
 all_goals simp only[Bool.and_true,Bool.and_false]
 all_goals repeat' (first|(refine zF fun K hK=>?_)|(refine zB fun K hK=>?_;simp (disch:=omega) [go_sem, *,Tryz.ntmps101])|(apply zC.out hK;clear hK K;try with_reducible dsimp only[zD])|(with_reducible refine zL.gcall (k1) ?_;try simp (disch:=omega) [go_sem, *])|(with_reducible refine zL.gcall (k2) ?_;try simp (disch:=omega) [go_sem, *])|(with_reducible refine zL.gcall (k3) ?_;try simp (disch:=omega) [go_sem, *]))
 all_goals exact zR
end Go.AM
