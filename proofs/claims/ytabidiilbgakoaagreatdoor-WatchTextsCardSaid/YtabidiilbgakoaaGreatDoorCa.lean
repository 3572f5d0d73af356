/- Conditions as plain data; walks of the small functions. Conditions: as each theorem says. -/
import Derived.Test.YtabidiilbgakoaaGreatDoorTy
namespace Cw
inductive Cnd where
 | mk (k f o n:Int) (nl fu:Bool) (s:Nat) (ks:List Cnd)
mutual
def tot:Cnd→Nat
 | .mk _ _ _ _ _ _ _ ks=>totL ks + 1
def totL:List Cnd→Nat
 | []=>0
 | c :: r=>tot c + totL r
end
theorem Ja:∀c,1≤tot c
 | .mk _ _ _ _ _ _ _ ks=>by simp only[tot];omega
mutual
def cnt:Cnd→Int→Int
 | .mk _ _ _ _ _ _ _ ks,m=>cntL ks 1 m
def cntL:List Cnd→Int→Int→Int
 | [],n,_=>n
 | c :: r,n,m=>if n < m then cntL r (n + cnt c (m - n)) m else n
end
mutual
theorem cnt_min:∀(c:Cnd) (m:Int),1≤m→cnt c m=min (tot c:Int) m
 | .mk _ _ _ _ _ _ _ ks,m,h=>by
  have:=cntL_min ks 1 m (by omega) h
  simp only[cnt,tot]
  omega
theorem cntL_min:∀(l:List Cnd) (n m:Int),1≤n→n≤m→cntL l n m=min (n + (totL l:Int)) m
 | [],n,m,h1,h2=>by simp only[cntL,totL];omega
 | c :: r,n,m,h1,h2=>by
  simp only[cntL,totL]
  have:=Ja c
  by_cases h:n < m
  ·rw[if_pos h]
   have hc:=cnt_min c (m - n) (by omega)
   have hr:=cntL_min r (n + cnt c (m - n)) m (by omega) (by omega)
   omega
  ·rw[if_neg h];omega
end
def wi (a lo hi:Int):Bool:=decide (lo≤a) && decide (a≤hi)
def zw (k f o n:Int) (len:Nat):Bool:=
 if k=1 then wi f 0 4 && wi o 1 6 && wi n 0 10000 && decide (len=0)
 else (decide (k=2) && decide (len=1) || (decide (k=3) || decide (k=4)) && decide (len=2)) && decide (f=0) && decide (o=0) && decide (n=0)
mutual
def ok:Cnd→Bool
 | .mk k f o n _ _ _ ks=>zw k f o n ks.length && okL ks
def okL:List Cnd→Bool
 | []=>true
 | c :: r=>ok c && okL r
end
mutual
def dep:Cnd→Nat
 | .mk _ _ _ _ _ _ _ ks=>depL ks + 1
def depL:List Cnd→Nat
 | []=>0
 | c :: r=>max (dep c) (depL r)
end
mutual
def vis:Cnd→Nat
 | .mk k f o n _ _ _ ks=>1 + (if zw k f o n ks.length then visL ks else 0)
def visL:List Cnd→Nat
 | []=>0
 | c :: r=>vis c + (if ok c then visL r else 0)
end
mutual
theorem vis_le:∀c,vis c≤tot c
 | .mk k f o n _ _ _ ks=>by have:=visL_le ks;simp only[vis,tot];split <;> omega
theorem visL_le:∀l,visL l≤totL l
 | []=>by simp[visL,totL]
 | c :: r=>by have:=vis_le c;have:=visL_le r;simp only[visL,totL];split <;> omega
end
mutual
theorem vis_ok:∀c,ok c=true→vis c=tot c
 | .mk k f o n _ _ _ ks,h=>by
  simp only[ok,Bool.and_eq_true] at h
  simp only[vis,tot,h.1,if_true,visL_ok ks h.2];omega
theorem visL_ok:∀l,okL l=true→visL l=totL l
 | [],_=>rfl
 | c :: r,h=>by
  simp only[okL,Bool.and_eq_true] at h
  simp only[visL,totL,h.1,if_true,vis_ok c h.1,visL_ok r h.2]
end
mutual
theorem dep_le:∀c,dep c≤tot c
 | .mk _ _ _ _ _ _ _ ks=>by have:=depL_le ks;simp only[dep,tot];omega
theorem depL_le:∀l,depL l≤totL l
 | []=>by simp[depL,totL]
 | c :: r=>by have:=dep_le c;have:=depL_le r;simp only[depL,totL];omega
end
def formed (c:Cnd):Bool:=ok c && decide (tot c≤60) && decide (dep c≤12)
structure Fs where
 a:Int
 b:Int
 c:Int
 d:Int
 e:Int
def Fs.at (f:Fs) (i:Int):Int:=if i=0 then f.a else if i=1 then f.b else if i=2 then f.c else if i=3 then f.d else f.e
def Fs.ok (f:Fs):Bool:=wi f.a 0 10000 && wi f.b 0 10000 && wi f.c 0 10000 && wi f.d 0 10000 && wi f.e 0 10000
def cmpr (a op b:Int):Bool:=
 if op=1 then a == b else if op=2 then a != b else if op=3 then decide (a < b) else if op=4 then decide (a≤b) else if op=5 then decide (a > b) else decide (a ≥ b)
mutual
def holds:Cnd→Fs→Bool
 | .mk k f o n _ _ _ ks,fs=>if k=1 then cmpr (fs.at f) o n else match holdsL ks fs with
  | [x]=>!x
  | [x,y]=>if k=3 then x && y else x || y
  | _=>false
def holdsL:List Cnd→Fs→List Bool
 | [],_=>[]
 | c :: r,fs=>holds c fs :: holdsL r fs
end
mutual
def same:Cnd→Cnd→Bool
 | .mk k f o n _ _ _ ks,.mk k' f' o' n' _ _ _ ks'=>decide (k=k') && decide (f=f') && decide (o=o') && decide (n=n') && decide (ks.length=ks'.length) && sameL ks ks'
def sameL:List Cnd→List Cnd→Bool
 | [],_=>true
 | c :: r,l=>match l with
  | []=>true
  | d :: q=>same c d && sameL r q
end
end Cw
namespace Go.AM
open Go.Proofs Cw
set_option maxRecDepth 10000
set_option maxHeartbeats 4000000
theorem zK.gcall {P:Program} {f:FuncId} {args:List AV} {x:AV} (hp:zK P f args x) {h:zI} {n:Nat} {K:AV→zI→Nat→Prop} (hk:K x h n):GCalls P f args h n K:=.inl (hp.call hk)
theorem APureAt.gcall {P:Program} {f:FuncId} {args:List AV} {x:AV} {h:zI} {n:Nat} (hp:APureAt P f args h n x) {K:AV→zI→Nat→Prop} (hk:K x h n):GCalls P f args h n K:=.inl (hp.call hk)
theorem ATurn.gcall {P:Program} {f:FuncId} {args:List AV} {x:AV} {h H:zI} {n:Nat} (hp:ATurn P f args h n x H) {K:AV→zI→Nat→Prop} (hk:K x H n):GCalls P f args h n K:=.inl (hp.call hk)
attribute [go_sem] aIdxArr QN
mutual
def zn:Cnd→AV
 | .mk k f o n nl fu s ks=>.agg [iv .i64 k,iv .i64 f,iv .i64 o,iv .i64 n,.fslc nl fu s (ZE ks)]
def ZE:List Cnd→List AV
 | []=>[]
 | c :: r=>zn c :: ZE r
end
mutual
def wf:Cnd→Prop
 | .mk _ _ _ _ nl _ s ks=>(ks=[]∨nl=false∧s=5)∧wfL ks
def wfL:List Cnd→Prop
 | []=>True
 | c :: r=>wf c∧wfL r
end
theorem encL_get:∀(l:List Cnd) (i:Nat),(ZE l)[i]? = (l[i]?).map zn
 | [],i=>by simp[ZE]
 | c :: r,0=>by simp[ZE]
 | c :: r,i + 1=>by simp[ZE,encL_get r i]
theorem Zy:∀l:List Cnd,(ZE l).length=l.length
 | []=>rfl
 | c :: r=>by simp[ZE,Zy r]
theorem wfL_get:∀{l:List Cnd},wfL l→∀{i:Nat} {c:Cnd},l[i]? = some c→wf c
 | [],_,i,c,h=>by simp at h
 | d :: r,hw,0,c,h=>by simp at h;subst h;exact hw.1
 | d :: r,hw,i + 1,c,h=>wfL_get hw.2 (i:=i) (by simpa using h)
@[go_sem] theorem cellsC_sc (c:Cnd):(cellsOf (zn c)).all AV.scalar=true:=by cases c;simp[zn,cellsOf,AV.scalar]
@[go_sem] theorem loadC_enc (c:Cnd):jB (5,true) (cellsOf (zn c))=some (zn c):=by cases c;simp[zn,cellsOf,jB]
theorem jD (a lo hi:Int):zK Tryz.prog 43 [iv .i64 a,iv .i64 lo,iv .i64 hi] (bv (wi a lo hi)):=by
 intro h n
 refine zQ.pure (zQ.entry (by kernel_rfl) fun hb _=>za Tryz.func43 rfl (by kernel_rfl) (by simp[Tryz.ntmps43]) ?_)
 by_cases h1:lo≤a <;> by_cases h2:a≤hi
 ·have:wi a lo hi=true:=by simp[wi,h1,h2]
  rw[this];clear this
  repeat' (first|(refine zF fun K hK=>?_)|(refine zA fun K hK=>?_;simp (disch:=omega) [go_sem, *,Tryz.ntmps43])|(apply zC.out hK;clear hK K;try with_reducible dsimp only[zG]))
  exact zR
 ·have:wi a lo hi=false:=by simp[wi,h1,h2]
  rw[this];clear this
  repeat' (first|(refine zF fun K hK=>?_)|(refine zA fun K hK=>?_;simp (disch:=omega) [go_sem, *,Tryz.ntmps43])|(apply zC.out hK;clear hK K;try with_reducible dsimp only[zG]))
  exact zR
 ·have:wi a lo hi=false:=by simp[wi,h1]
  rw[this];clear this
  repeat' (first|(refine zF fun K hK=>?_)|(refine zA fun K hK=>?_;simp (disch:=omega) [go_sem, *,Tryz.ntmps43])|(apply zC.out hK;clear hK K;try with_reducible dsimp only[zG]))
  exact zR
 ·have:wi a lo hi=false:=by simp[wi,h1]
  rw[this];clear this
  repeat' (first|(refine zF fun K hK=>?_)|(refine zA fun K hK=>?_;simp (disch:=omega) [go_sem, *,Tryz.ntmps43])|(apply zC.out hK;clear hK K;try with_reducible dsimp only[zG]))
  exact zR
end Go.AM
namespace Go.AM
open Go.Proofs Cw
set_option maxRecDepth 10000
set_option maxHeartbeats 4000000
end Go.AM
namespace Go.AM
open Go.Proofs
@[go_sem] theorem nt54:¬(54 ∈ (@Vars.typed Go.Proofs.SAN.vars)):=by decide
@[go_sem] theorem nt3:¬(3 ∈ (@Vars.typed Go.Proofs.SAN.vars)):=by decide
@[go_sem] theorem so226:ZO Tryz.prog 226=false:=by kernel_rfl
@[go_sem] theorem bA226:qR Tryz.prog 226 [(0,iv .i64 0),(1,iv .i64 2),(2,iv .i64 1),(3,iv .i64 6),(4,iv .i64 5),(5,iv .i64 4),(6,iv .i64 3)]=some (.agg [iv .i64 0,iv .i64 2,iv .i64 1,iv .i64 6,iv .i64 5,iv .i64 4,iv .i64 3]):=by kernel_rfl
mutual
@[go_sem] theorem belowC (n:Nat):∀c:Cw.Cnd,below n (zn c)
 | .mk k f o nn nl fu s ks=>by simp only[zn,below,belowL,belowK n ks,and_true]
@[go_sem] theorem belowK (n:Nat):∀l:List Cw.Cnd,belowL n (ZE l)
 | []=>by simp only[ZE,belowL]
 | c :: r=>by simp only[ZE,belowL,belowC n c,belowK n r,and_true]
end
end Go.AM
