/- More of the machine. Conditions: as each theorem says. -/
import Derived.Calls
import Derived.Laws.World
import Derived.Laws.IdiomCopy
import Derived.Laws.Cells
import Derived.Laws.Sem
import Derived.Below
import Derived.Tactics
import Derived.RangeFuncRecord
import Derived.OrdersIn
import Derived.TacticsIn
import Derived.RangeFuncLeaves
import Derived.Laws.Strings
import Derived.Test.YtkbgmkhdjmkpdaaGreatDoorDe
import Derived.Test.YtkbgmkhdjmkpdaaGreatDoorDb
namespace Go.AM
open Go.RowKit
theorem GLe.trans {a b c:Gh} (h:GLe a b) (k:GLe b c):GLe a c:=⟨fun _ _ x=>k.reg _ _ (h.reg _ _ x),fun _ _ x=>k.imm _ _ (h.imm _ _ x),k.own.trans h.own,k.base.trans h.base,fun _ x=>k.lps _ (h.lps _ x)⟩
end Go.AM
namespace Go.AM
open Go.RowKit
theorem Ext.mono {fl fl':Nat} {a b:Gh} (h:Ext fl a b) (hl:fl'≤fl):Ext fl' a b:=⟨fun i hi=>h.reg i (Nat.lt_of_lt_of_le hi hl),h.imm,h.own,h.base,h.lps⟩
end Go.AM
namespace Go.AM
open Go.RowKit
mutual
theorem below.mono {n m:Nat} (h:n≤m):∀x:AV,below n x→below m x
 | .ptr k _,hb=>by simp only[below] at hb ⊢;omega
 | .slc k _ _ _,hb=>by simp only[below] at hb ⊢;omega
 | .map k,hb=>by simp only[below] at hb ⊢;omega
 | .chan k,hb=>by simp only[below] at hb ⊢;omega
 | .yld k,hb=>by simp only[below] at hb ⊢;omega
 | .fptr cs,hb=>by simp only[below] at hb ⊢;exact belowL.mono h cs hb
 | .fslc _ _ _ l,hb=>by simp only[below] at hb ⊢;exact belowL.mono h l hb
 | .func _ f c,hb=>by simp only[below] at hb ⊢;exact⟨belowL.mono h f hb.1,belowL.mono h c hb.2⟩
 | .iface _ x,hb=>by simp only[below] at hb ⊢;exact below.mono h x hb
 | .agg cs,hb=>by simp only[below] at hb ⊢;exact belowL.mono h cs hb
 | .tup cs,hb=>by simp only[below] at hb ⊢;exact belowL.mono h cs hb
 | .undef,_=>by simp[below]
 | .c _,_=>by simp[below]
theorem belowL.mono {n m:Nat} (h:n≤m):∀l:List AV,belowL n l→belowL m l
 | [],_=>by simp[belowL]
 | x :: r,hb=>by simp only[belowL] at hb ⊢;exact⟨below.mono h x hb.1,belowL.mono h r hb.2⟩
end
section
variable {P : Program} {fl : Nat} {K : AV → zI → Nat → Prop} {x : AV} {h : zI} {n : Nat}
end
end Go.AM
namespace Go.AM
open Go.RowKit
theorem Eqv.symm {a b:St} (h:Eqv a b):Eqv b a:=⟨h.1.symm,h.2.1.symm,h.2.2.1.symm,fun t=>(h.2.2.2 t).symm⟩
end Go.AM
namespace Go.AM
open Go.RowKit
def NB (h:zI) (n:Nat):Prop:=∀k,n≤k→h k=none
theorem NB.upd {h:zI} {n k m:Nat} {o:Option AObj} (hb:NB h n) (hk:k < m) (hm:n≤m):NB (h.upd k o) m:=fun j hj=>by
 rw[zG _ _ _ _ (by omega)];exact hb j (by omega)
theorem NB.mono {h:zI} {n m:Nat} (hb:NB h n) (hm:n≤m):NB h m:=fun j hj=>hb j (by omega)
def APureAt [Vars] (P:Program) (f:FuncId) (args:List AV) (h:zI) (n:Nat) (x:AV):Prop:=zS P f args h n fun r h' n'=>r=x∧h'=h∧n'=n
theorem APureAt.call [Vars] {P:Program} {f:FuncId} {args:List AV} {x:AV} {h:zI} {n:Nat} (hp:APureAt P f args h n x) {K:AV→zI→Nat→Prop} (hk:K x h n):zS P f args h n K:=
 hp.mono fun _ _ _ ⟨e1,e2,e3⟩=>by subst e1;subst e2;subst e3;exact hk
end Go.AM
namespace Go.AM
open Go.RowKit
section
variable {P : Program} {fl : Nat} {Q : Exit → St → Prop} {st : St}
end
theorem SubX.refl (l:Nat) (H:zI):SubX l H H:=fun _ _ _ e=>e
theorem SubX.same {l:Nat} {H h:zI} (s:SubX l H h) {n:Nat} {o:AObj} (hn:H n=some o):SubX l H (h.upd n (some o)):=fun k p hk e=>by
 by_cases hkn:k=n
 ·subst hkn;rw[hn] at e;rw[zM];exact e
 ·rw[zG _ _ _ _ hkn];exact s k p hk e
section
variable {P : Program} {fl m nt : Nat} {s : List (Nat × AV)} {ps : Array Tmp} {asg body : Code} {K : AV → zI → Nat → Prop} {st : St}
end
theorem Zp (s b:Nat) (z:AV) (n m:Int) (h:0≤n∧n≤m∧m * b≤140737488355328∧m≤140737488355328):mk3 true s b z n m=some (s,Qe z n.toNat,n.toNat):=by
 unfold mk3;rw[if_pos];exact⟨rfl,h⟩
theorem zh {α:Type} (x:α):∀n,(List.replicate n [x]).flatten=List.replicate n x
 | 0=>rfl
 | n + 1=>by simp[List.replicate_succ,zh x n]
theorem ZT {c:Prop} [Decidable c] (r:Option (AV × zI)) (n:Nat) (K:AV→zI→Nat→Prop) (h:c):ZJ (if c then r else none) n K=ZJ r n K:=by rw[if_pos h]
theorem Z4 [Vars] {b:Bool} {P:Program} {nm:Nat} {o:Op} {s:List (Nat × AV)} {h:zI} {n:Nat} {K:AV→zI→Nat→Prop} (h1:b=true→wantK (some true) P nm o s h n K) (h2:b=false→wantK (some false) P nm o s h n K):wantK (some b) P nm o s h n K:=by
 cases b
 ·exact h2 rfl
 ·exact h1 rfl
end Go.AM
namespace Go.AM
section
variable {P : Program} {ops : Array Oper} {base nt n nm : Nat} {o : Oper} {s : List (Nat × AV)} {h h2 : zI} {x : AV}
theorem JA (x:AV) (s:List (Nat × AV)):pS none x s=s:=rfl
end
end Go.AM
namespace Cw
def Fs.ok (f:Fs):Bool:=wi f.a 0 10000 && wi f.b 0 10000 && wi f.c 0 10000 && wi f.d 0 10000 && wi f.e 0 10000
end Cw
namespace Du
open Go
theorem bl_asymm (x y:List UInt8) (h:Op.bytesLess x y=true):Op.bytesLess y x=false:=by
 cases e:Op.bytesLess y x with
 | false=>rfl
 | true=>have:=qW x y x h e;rw[jv] at this;cases this
end Du
namespace Go.AM
open Go.Proofs Cw
set_option maxRecDepth 10000
set_option maxHeartbeats 4000000
theorem APureAt.gcall {P:Program} {f:FuncId} {args:List AV} {x:AV} {h:zI} {n:Nat} (hp:APureAt P f args h n x) {K:AV→zI→Nat→Prop} (hk:K x h n):GCalls P f args h n K:=.inl (hp.call hk)
end Go.AM
namespace Go.AM
open Go.Proofs Cw Du
set_option maxRecDepth 10000
set_option maxHeartbeats 4000000
theorem JH (x:AV) (r:List AV):flat (x :: r)=cellsOf x ++ flat r:=by simp[flat]
end Go.AM
