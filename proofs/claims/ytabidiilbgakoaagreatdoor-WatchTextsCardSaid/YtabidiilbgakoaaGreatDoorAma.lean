/- The abstract machine: values, objects, the relation to a world, and operations. Conditions: as each theorem says. -/
import Derived.Calls
import Derived.Laws.World
import Derived.Laws.IdiomCopy
import Derived.Laws.Cells
import Derived.Laws.Sem
import Derived.Below
import Derived.Tactics
import Derived.RangeFuncRecord
import Derived.Laws.Entries
import Derived.Laws.StructEq
import Derived.Laws.Append
import Derived.Laws.MakeOwn
import Derived.WalkSpells
import Derived.Laws.Small
import Derived.ChangeKeysEq
namespace Go.AM
open Go.RowKit
inductive AV where
 | undef
 | c (v:Value)
 | ptr (n off:Nat)
 | fptr (cells:List AV)
 | slc (n off len s:Nat)
 | fslc (nl full:Bool) (s:Nat) (l:List AV)
 | map (n:Nat)
 | func (fn:Fn) (first captured:List AV)
 | iface (t:TypeId) (v:AV)
 | agg (cells:List AV)
 | tup (vs:List AV)
 | chan (n:Nat)
 | yld (n:Nat)
inductive AObj where
 | cells (l:List AV)
 | map (clk:Nat) (bs:List Nat) (es:List (Value × AV))
 | chan (cap:Nat) (buf:List AV) (closed:Bool)
 | loop (st:LoopState) (pend:Option Code) (nt:Nat) (s:List (Nat × AV)) (ps:Array Tmp) (asg body:Code)
 | iter (m since c0:Nat) (seen:List Nat)
 | tcells (e:TypeId) (tot:Option Nat) (l:List AV)
def get:List (Nat × AV)→Nat→AV
 | [],_=>.undef|(k,v) :: r,t=>if t=k then v else get r t
abbrev zI:=Nat→Option AObj
def zI.upd (h:zI) (n:Nat) (o:Option AObj):zI:=fun k=>if k=n then o else h k
theorem zD (h:zI) (n:Nat) (o:Option AObj):h.upd n o n=o:=by simp[zI.upd]
theorem zB (h:zI) (n m:Nat) (o:Option AObj) (hne:m≠n):h.upd n o m=h m:=by simp[zI.upd,hne]
structure Gh where
 reg:Nat→Option (Nat × Nat × Nat)
 imm:Addr→Option Value
 own:List Nat
 base:List Nat × List Deferred × (Addr→Option Value)
 lps:List Nat
def AV.scalar:AV→Bool
 | .undef | .agg _ | .tup _=>false
 | _=>true
def cellsOf:AV→List AV
 | .agg cs=>cs
 | x=>[x]
def ImmAt (G:Gh) (a:Addr) (vs:List Value):Prop:=∀j v,vs[j]? = some v→G.imm (a.add j)=some v
theorem z7 (b o i:Nat):(⟨b,o,none⟩:Addr).add i=⟨b,o + i,none⟩:=by
 unfold Addr.add;split <;> simp_all
theorem jQ (a:Addr) (i j:Nat):(a.add i).add j=a.add (i + j):=by
 unfold Addr.add
 by_cases h1:i=0
 ·subst h1;simp
 ·by_cases h2:j=0
  ·subst h2;simp
  ·simp[h1,h2];omega
mutual
def Rv (G:Gh):AV→Value→Prop
 | .undef,_=>True
 | .c x,v=>v=x∧x.oneCell'=true
 | .ptr n off,v=>∃b lo t,G.reg n=some (b,lo,t)∧v=.pointer (some ⟨b,lo + off,none⟩)
 | .fptr cs,v=>∃a vs,v=.pointer (some a)∧RvL G cs vs∧ImmAt G a vs
 | .slc n off len s,v=>∃b lo t cap,G.reg n=some (b,lo,t)∧v=.slice (some ⟨b,lo + off,none⟩) len cap∧len≤cap∧off + cap * s=t∧0 < s
 | .fslc nl full s l,v=>∃a cap,v=.slice a l.length cap∧l.length≤cap∧(full=true→cap=l.length)∧(nl=true→a=none∧cap=0)∧(nl=false→∃ad,a=some ad∧RvE G ad s 0 l)
 | .map n,v=>∃b lo t,G.reg n=some (b,lo,t)∧v=.map (some b)
 | .func fn f c,v=>∃f' c':Array Value,v=.func fn f' c'∧RvL G f f'.toList∧RvL G c c'.toList
 | .iface t x,v=>∃y,v=.iface t y∧Rv G x y
 | .agg cs,v=>∃vs:Array Value,v=.agg vs∧RvL G cs vs.toList
 | .tup cs,v=>∃vs:Array Value,v=.tuple vs∧RvL G cs vs.toList
 | .chan n,v=>∃b lo t,G.reg n=some (b,lo,t)∧v=.chan (some b)
 | .yld n,v=>∃b lo t,G.reg n=some (b,lo,t)∧v=.func (.yield b) #[] #[]
def RvL (G:Gh):List AV→List Value→Prop
 | [],vs=>vs=[]
 | x :: r,vs=>∃v vr,vs=v :: vr∧Rv G x v∧RvL G r vr
def RvE (G:Gh) (a:Addr) (s:Nat):Nat→List AV→Prop
 | _,[]=>True
 | i,x :: r=>((cellsOf x).all AV.scalar=true∧∃v,Rv G x v∧v.cells.size=s∧ImmAt G (a.add i) v.cells.toList)∧RvE G a s (i + s) r
end
structure GLe (G G':Gh):Prop where
 reg:∀k r,G.reg k=some r→G'.reg k=some r
 imm:∀a v,G.imm a=some v→G'.imm a=some v
 own:G'.own=G.own
 base:G'.base=G.base
 lps:∀b ∈ G.lps,b ∈ G'.lps
theorem GLe.refl (G:Gh):GLe G G:=⟨fun _ _ h=>h,fun _ _ h=>h,rfl,rfl,fun _ h=>h⟩
theorem GLe.trans {a b c:Gh} (h:GLe a b) (k:GLe b c):GLe a c:=⟨fun _ _ x=>k.reg _ _ (h.reg _ _ x),fun _ _ x=>k.imm _ _ (h.imm _ _ x),k.own.trans h.own,k.base.trans h.base,fun _ x=>k.lps _ (h.lps _ x)⟩
structure VLe (G G':Gh):Prop where
 reg:∀k r,G.reg k=some r→G'.reg k=some r
 imm:∀a v,G.imm a=some v→G'.imm a=some v
theorem GLe.v {G G':Gh} (h:GLe G G'):VLe G G':=⟨h.reg,h.imm⟩
theorem VLe.refl (G:Gh):VLe G G:=⟨fun _ _ h=>h,fun _ _ h=>h⟩
theorem ImmAt.mono {G G':Gh} (h:VLe G G') {a:Addr} {vs:List Value} (k:ImmAt G a vs):ImmAt G' a vs:=fun j v e=>h.imm _ _ (k j v e)
mutual
theorem Rv.mono {G G':Gh} (h:VLe G G'):∀(x:AV) (v:Value),Rv G x v→Rv G' x v
 | .undef,_,_=>by simp[Rv]
 | .c x,v,k=>by simpa [Rv] using k
 | .ptr n off,v,k=>by
  simp only[Rv] at k ⊢;obtain⟨b,lo,t,h1,h2⟩:=k;exact⟨b,lo,t,h.reg _ _ h1,h2⟩
 | .fptr cs,v,k=>by
  simp only[Rv] at k ⊢;obtain⟨a,vs,h1,h2,h3⟩:=k;exact⟨a,vs,h1,RvL.mono h cs vs h2,h3.mono h⟩
 | .slc n off len s,v,k=>by
  simp only[Rv] at k ⊢;obtain⟨b,lo,t,cap,h1,h2⟩:=k;exact⟨b,lo,t,cap,h.reg _ _ h1,h2⟩
 | .fslc nl full s l,v,k=>by
  simp only[Rv] at k ⊢
  obtain⟨a,cap,h1,h2,h3,h4,h5⟩:=k
  exact⟨a,cap,h1,h2,h3,h4,fun e=>let ⟨ad,p,q⟩:=h5 e;⟨ad,p,RvE.mono h ad s l 0 q⟩⟩
 | .map n,v,k=>by
  simp only[Rv] at k ⊢;obtain⟨b,lo,t,h1,h2⟩:=k;exact⟨b,lo,t,h.reg _ _ h1,h2⟩
 | .func fn f c,v,k=>by
  simp only[Rv] at k ⊢;obtain⟨f',c',h1,h2,h3⟩:=k;exact⟨f',c',h1,RvL.mono h f _ h2,RvL.mono h c _ h3⟩
 | .iface t x,v,k=>by
  simp only[Rv] at k ⊢;obtain⟨y,h1,h2⟩:=k;exact⟨y,h1,Rv.mono h x y h2⟩
 | .agg cs,v,k=>by
  simp only[Rv] at k ⊢;obtain⟨vs,h1,h2⟩:=k;exact⟨vs,h1,RvL.mono h cs _ h2⟩
 | .tup cs,v,k=>by
  simp only[Rv] at k ⊢;obtain⟨vs,h1,h2⟩:=k;exact⟨vs,h1,RvL.mono h cs _ h2⟩
 | .chan n,v,k=>by
  simp only[Rv] at k ⊢;obtain⟨b,lo,t,h1,h2⟩:=k;exact⟨b,lo,t,h.reg _ _ h1,h2⟩
 | .yld n,v,k=>by
  simp only[Rv] at k ⊢;obtain⟨b,lo,t,h1,h2⟩:=k;exact⟨b,lo,t,h.reg _ _ h1,h2⟩
theorem RvL.mono {G G':Gh} (h:VLe G G'):∀(l:List AV) (vs:List Value),RvL G l vs→RvL G' l vs
 | [],vs,k=>by simpa [RvL] using k
 | x :: r,vs,k=>by
  simp only[RvL] at k ⊢
  obtain⟨v,vr,h1,h2,h3⟩:=k
  exact⟨v,vr,h1,Rv.mono h x v h2,RvL.mono h r vr h3⟩
theorem RvE.mono {G G':Gh} (h:VLe G G') (a:Addr) (s:Nat):∀(l:List AV) (i:Nat),RvE G a s i l→RvE G' a s i l
 | [],_,_=>by simp[RvE]
 | x :: r,i,k=>by
  simp only[RvE] at k ⊢
  obtain⟨⟨hs,v,h1,h2,h3⟩,h4⟩:=k
  exact⟨⟨hs,v,Rv.mono h x v h1,h2,h3.mono h⟩,RvE.mono h a s r _ h4⟩
end
theorem RvE.get {G:Gh} {a:Addr} {s:Nat}:∀{l:List AV} {i:Nat} (_:RvE G a s i l) (k:Nat) (x:AV),l[k]? = some x→
  (cellsOf x).all AV.scalar=true∧∃v,Rv G x v∧v.cells.size=s∧ImmAt G (a.add (i + k * s)) v.cells.toList
 | [],_,_,_,_,e=>by simp at e
 | _ :: r,i,h,k,x,e=>by
  simp only[RvE] at h
  obtain⟨h1,h2⟩:=h
  cases k with
  | zero=>simp at e;subst e;simpa using h1
  | succ k=>
   have:=RvE.get h2 k x (by simpa using e)
   rwa [show i + s + k * s=i + (k + 1) * s by rw[Nat.succ_mul];omega] at this
theorem RvE.drop {G:Gh} {a:Addr} {s:Nat}:∀{l:List AV} {i:Nat} (n:Nat),RvE G a s i l→RvE G a s (i + n * s) (l.drop n)
 | l,i,0,h=>by simpa using h
 | [],i,n + 1,_=>by simp[RvE]
 | _ :: r,i,n + 1,h=>by
  simp only[RvE] at h
  have:=RvE.drop n h.2
  rw[show i + (n + 1) * s=i + s + n * s by rw[Nat.succ_mul];omega]
  simpa using this
theorem RvE.take {G:Gh} {a:Addr} {s:Nat}:∀{l:List AV} {i:Nat} (n:Nat),RvE G a s i l→RvE G a s i (l.take n)
 | l,i,0,_=>by simp[RvE]
 | [],i,n + 1,_=>by simp[RvE]
 | _ :: r,i,n + 1,h=>by
  simp only[RvE] at h
  simp only[List.take_succ_cons,RvE]
  exact⟨h.1,RvE.take n h.2⟩
theorem RvE.shift {G:Gh} {a:Addr} {s:Nat} (d:Nat):∀{l:List AV} {i:Nat},RvE G a s (d + i) l→RvE G (a.add d) s i l
 | [],_,_=>by simp[RvE]
 | x :: r,i,h=>by
  simp only[RvE] at h ⊢
  obtain⟨⟨hs,v,h1,h2,h3⟩,h4⟩:=h
  exact⟨⟨hs,v,h1,h2,by rw[jQ];exact h3⟩,RvE.shift d (by rwa [show d + (i + s)=d + i + s by omega])⟩
theorem RvL.length {G:Gh}:∀{l:List AV} {vs:List Value},RvL G l vs→vs.length=l.length
 | [],_,h=>by simp only[RvL] at h;simp[h]
 | _ :: r,_,h=>by
  simp only[RvL] at h
  obtain⟨v,vr,rfl,_,h⟩:=h
  simp[RvL.length h]
theorem RvL.get {G:Gh}:∀{l:List AV} {vs:List Value} (_:RvL G l vs) (i:Nat) (x:AV),l[i]? = some x→∃v,vs[i]? = some v∧Rv G x v
 | [],_,_,_,_,e=>by simp at e
 | _ :: r,_,h,i,x,e=>by
  simp only[RvL] at h
  obtain⟨v,vr,rfl,h1,h⟩:=h
  cases i with
  | zero=>simp at e;subst e;exact⟨v,by simp,h1⟩
  | succ i=>simpa using RvL.get h i x (by simpa using e)
theorem RvL.append {G:Gh}:∀{l l':List AV} {vs vs':List Value},RvL G l vs→RvL G l' vs'→RvL G (l ++ l') (vs ++ vs')
 | [],_,_,_,h,k=>by simp only[RvL] at h;subst h;simpa using k
 | x :: r,l',_,vs',h,k=>by
  simp only[RvL] at h
  obtain⟨v,vr,rfl,h1,h⟩:=h
  simp only[List.cons_append,RvL]
  exact⟨v,vr ++ vs',rfl,h1,RvL.append h k⟩
theorem RvL.drop {G:Gh}:∀{l:List AV} {vs:List Value} (n:Nat),RvL G l vs→RvL G (l.drop n) (vs.drop n)
 | l,vs,0,h=>by simpa using h
 | [],_,n + 1,h=>by simp only[RvL] at h;subst h;simp[RvL]
 | _ :: r,_,n + 1,h=>by
  simp only[RvL] at h
  obtain⟨v,vr,rfl,_,h⟩:=h
  simpa using RvL.drop n h
theorem RvL.take {G:Gh}:∀{l:List AV} {vs:List Value} (n:Nat),RvL G l vs→RvL G (l.take n) (vs.take n)
 | l,vs,0,h=>by simp[RvL]
 | [],_,n + 1,h=>by simp only[RvL] at h;subst h;simp[RvL]
 | _ :: r,_,n + 1,h=>by
  simp only[RvL] at h
  obtain⟨v,vr,rfl,h1,h⟩:=h
  simp only[List.take_succ_cons,RvL]
  exact⟨v,vr.take n,rfl,h1,RvL.take n h⟩
theorem Rv.oneCell {G:Gh} {x:AV} {v:Value} (h:Rv G x v) (hs:x.scalar=true):v.oneCell'=true:=by
 cases x <;> simp only[Rv,AV.scalar,Bool.false_eq_true] at h hs
 case c=>obtain⟨rfl,h⟩:=h;exact h
 case ptr=>obtain⟨_,_,_,_,rfl⟩:=h;rfl
 case fptr=>obtain⟨_,_,rfl,_⟩:=h;rfl
 case slc=>obtain⟨_,_,_,_,_,rfl,_⟩:=h;rfl
 case fslc=>obtain⟨_,_,rfl,_⟩:=h;rfl
 case map=>obtain⟨_,_,_,_,rfl⟩:=h;rfl
 case func=>obtain⟨_,_,rfl,_⟩:=h;rfl
 case iface=>obtain⟨_,rfl,_⟩:=h;rfl
 case chan=>obtain⟨_,_,_,_,rfl⟩:=h;rfl
 case yld=>obtain⟨_,_,_,_,rfl⟩:=h;rfl
theorem RvL.oneCells {G:Gh}:∀{l:List AV} {vs:List Value},RvL G l vs→l.all AV.scalar=true→∀v ∈ vs,v.oneCell'=true
 | [],_,h,_=>by simp only[RvL] at h;subst h;simp
 | x :: r,_,h,hs=>by
  simp only[RvL] at h
  obtain⟨v,vr,rfl,h1,h⟩:=h
  simp only[List.all_cons,Bool.and_eq_true] at hs
  intro u hu
  simp only[List.mem_cons] at hu
  rcases hu with rfl | hu
  ·exact h1.oneCell hs.1
  ·exact RvL.oneCells h hs.2 u hu
theorem Rv.cells {G:Gh} {x:AV} {v:Value} (h:Rv G x v) (hs:(cellsOf x).all AV.scalar=true):RvL G (cellsOf x) v.cells.toList:=by
 have one:x.scalar=true→cellsOf x=[x]→RvL G [x] v.cells.toList:=by
  intro h1 _
  have:=h.oneCell h1
  have e:v.cells = #[v]:=by cases v <;> simp_all [Value.cells,Value.oneCell']
  rw[e];simp only[RvL];exact⟨v,[],rfl,h,rfl⟩
 cases x
 case agg cs=>simp only[Rv] at h;obtain⟨vs,rfl,h⟩:=h;exact h
 all_goals (simp only[cellsOf,List.all_cons,List.all_nil,Bool.and_true] at hs;exact one hs rfl)
def InReg (r:Nat × Nat × Nat) (a:Addr):Prop:=a.block=r.1∧r.2.1≤a.off∧a.off < r.2.1 + r.2.2
def Disj (r q:Nat × Nat × Nat):Prop:=r.1≠q.1∨r.2.1 + r.2.2≤q.2.1∨q.2.1 + q.2.2≤r.2.1
structure CellsOk (w0:World) (G:Gh) (w:World) (r:Nat × Nat × Nat) (l:List AV) (vs:List Value):Prop where
 base:w0.heap.size≤r.1
 lt:r.1 < w.heap.size
 len:l.length≤r.2.2
 sc:l.all AV.scalar=true
 rel:RvL G l vs
 val:∀j v,vs[j]? = some v→w.cell? ⟨r.1,r.2.1 + j,none⟩=some v
 some:∀j,j < r.2.2→(w.cell? ⟨r.1,r.2.1 + j,none⟩).isSome=true
 free:∀j,j < r.2.2→w.frozen? ⟨r.1,r.2.1 + j,none⟩=false
structure MapOk (w0:World) (G:Gh) (w:World) (b:Nat) (clk:Nat) (bs:List Nat) (es:List (Value × AV)) (ents:Array MapEntry):Prop where
 base:w0.heap.size≤b
 blk:w.heap[b]? = some (.map ents clk)
 keys:ents.toList.map (·.key)=es.map (·.1)
 vals:RvL G (es.map (·.2)) (ents.toList.map (·.val))
 born:ents.toList.map (·.born)=bs
 lt:∀x ∈ bs,x < clk
def ObjOk (w0:World) (G:Gh) (w:World) (n:Nat):AObj→Prop
 | .cells l=>∃r vs,G.reg n=some r∧CellsOk w0 G w r l vs
 | .map clk bs es=>∃b ents,G.reg n=some (b,0,1)∧MapOk w0 G w b clk bs es ents
 | .chan cap buf closed=>∃b vs s r,G.reg n=some (b,0,1)∧w0.heap.size≤b∧w.heap[b]? = some (.chan cap vs closed s r false)∧RvL G buf vs.toList
 | .loop st pend nt s ps asg body=>∃b fn tmps D,G.reg n=some (b,0,1)∧w0.heap.size≤b∧w.heap[b]? = some (.loop {state:=st,pending:=pend,fn,tmps,params:=ps,assign:=asg,body,defers:=D})∧tmps.size=nt∧∀t,Rv G (get s t) (tmps.getD t undef)
 | .tcells e tot l=>∃r vs,G.reg n=some r∧CellsOk w0 G w r l vs∧r.2.1=0∧w.shape? r.1=some (e,r.2.2)∧(∀c,tot=some c→r.2.2=c)
 | .iter m since c0 seen=>∃b bm sa,G.reg n=some (b,0,1)∧w0.heap.size≤b∧G.reg m=some (bm,0,1)∧w.heap[b]? = some (.mapIter (some bm) since sa c0)∧sa.toList=seen
class Vars where
 tab:List (Nat × List Value)
 typed:List TypeId:=[]
 errs:List Nat:=[]
 keep:Bool:=true
def VarsOk [Vars] (G:Gh):Prop:=∀p ∈ Vars.tab,ImmAt G ⟨p.1,0,none⟩ p.2∧∀v ∈ p.2,v.oneCell'=true
theorem VarsOk.mono [Vars] {G G':Gh} (h:VarsOk G) (hi:∀a v,G.imm a=some v→G'.imm a=some v):VarsOk G':=fun p hp=>⟨fun j v e=>hi _ _ ((h p hp).1 j v e),(h p hp).2⟩
def TabsOk [Vars] (w:World):Prop:=(∀p ∈ Vars.tab,∃e z,w.heap[p.1]? = some (.cells p.2.toArray e z))∧∀g ∈ Vars.errs,∃e z t p,w.heap[g]? = some (.cells #[.iface t p] e z)
structure Oth [Vars] (w0:World) (G:Gh) (w:World):Prop where
 own:∀b ∈ G.own,w.heap[b]? = some (.deferred (some []))∧w0.heap.size≤b
 base:∀b ∈ G.base.1,w.heap[b]? = some (.deferred (some []))
 nd:(G.own ++ G.base.1).Nodup
 lps:∀b ∈ G.lps,∃L,w.heap[b]? = some (.loop L)
 old:∀a v,G.imm a=some v→a.block < w0.heap.size→G.base.2.2 a=some v
 vars:VarsOk G
 tabs:TabsOk w0
def isDL:Obj→Bool
 | .deferred _ | .loop _=>true
 | _=>false
def KDL (w w':World):Prop:=∀(k:Nat) (o:Obj),w.heap[k]? = some o→isDL o=true→w'.heap[k]? = some o
theorem KDL.refl (w:World):KDL w w:=fun _ _ h _=>h
theorem KDL.trans {a b c:World} (h:KDL a b) (k:KDL b c):KDL a c:=fun i o e d=>k i o (h i o e d) d
theorem KDL.alloc (w:World) (o:Obj):KDL w (w.alloc o):=fun k _ e _=>(Below.heap_alloc w o k (Array.getElem?_eq_some_iff.1 e).1).trans e
theorem Oth.keep [Vars] {w0:World} {G G':Gh} {w w':World} (h:Oth w0 G w) (h1:G'.own=G.own) (h2:G'.base=G.base) (h3:G'.lps=G.lps) (k:KDL w w') (h4:∀a v,G'.imm a=some v→G.imm a=some v∨w0.heap.size≤a.block:=by intro a v e;exact .inl e) (h5:∀a v,G.imm a=some v→G'.imm a=some v:=by intro a v e;exact e):Oth w0 G' w':=
 ⟨fun b hb=>by rw[h1] at hb;exact⟨k _ _ (h.own b hb).1 rfl,(h.own b hb).2⟩,fun b hb=>by rw[h2] at hb;exact k _ _ (h.base b hb) rfl,by rw[h1,h2];exact h.nd,fun b hb=>by rw[h3] at hb;obtain⟨L,e⟩:=h.lps b hb;exact⟨L,k _ _ e rfl⟩,fun a v e hl=>by rw[h2];exact (h4 a v e).elim (fun e=>h.old a v e hl) (fun e=>absurd e (Nat.not_le_of_lt hl)),h.vars.mono h5,h.tabs⟩
structure BelowD [Vars] (B:Nat) (w w':World):Prop extends Below B w w' where
 drawn:Vars.keep=true→w.drawn≤w'.drawn
theorem BelowD.refl [Vars] (B:Nat) (w:World):BelowD B w w:=⟨Below.refl B w,fun _=>Nat.le_refl _⟩
theorem BelowD.trans [Vars] {B:Nat} {a b c:World} (h:BelowD B a b) (k:BelowD B b c):BelowD B a c:=⟨h.toBelow.trans k.toBelow,fun e=>Nat.le_trans (h.drawn e) (k.drawn e)⟩
theorem BelowD.drew [Vars] {B:Nat} {a w:World} (h:BelowD B a w):BelowD B a w.drew:=⟨h.toBelow.drew,fun e=>Nat.le_succ_of_le (h.drawn e)⟩
theorem BelowD.alloc [Vars] {B:Nat} {a w:World} (h:BelowD B a w) (hB:B≤w.heap.size) (o:Obj):BelowD B a (w.alloc o):=⟨h.toBelow.alloc hB o,h.drawn⟩
theorem drawn_setCell (w:World) (p:Addr) (u:Value):(w.setCell p u).drawn=w.drawn:=by unfold World.setCell;split <;> rfl
theorem BelowD.setCell [Vars] {B:Nat} {a w:World} (h:BelowD B a w) {p:Addr} (hp:B≤p.block) (u:Value):BelowD B a (w.setCell p u):=⟨h.toBelow.setCell hp u,by rw[drawn_setCell];exact h.drawn⟩
structure Inv [Vars] (w0:World) (G:Gh) (h:zI) (w:World):Prop where
 below:BelowD w0.heap.size w0 w
 imm:∀a v,G.imm a=some v→w.cell? a=some v
 obj:∀n o,h n=some o→ObjOk w0 G w n o
 disj:∀n m o p r q,n≠m→h n=some o→h m=some p→G.reg n=some r→G.reg m=some q→Disj r q
 sep:∀n o r a v,h n=some o→G.reg n=some r→G.imm a=some v→¬InReg r a
 oth:Oth w0 G w
theorem Inv.tabs [Vars] {w0:World} {G:Gh} {h:zI} {w:World} (I:Inv w0 G h w):TabsOk w:=⟨fun p hp=>by
 obtain⟨e,z,q⟩:=I.oth.tabs.1 p hp
 exact⟨e,z,(I.below.block _ (Array.getElem?_eq_some_iff.1 q).1).trans q⟩,fun g hg=>by
 obtain⟨e,z,t,p,q⟩:=I.oth.tabs.2 g hg
 exact⟨e,z,t,p,(I.below.block _ (Array.getElem?_eq_some_iff.1 q).1).trans q⟩⟩
theorem Q3 {w:World} {a:Addr} {v:Value} (h:w.cell? a=some v):∃c e f,w.heap[a.block]? = some (.cells c e f):=by
 unfold World.cell? at h
 split at h
 ·rename_i c e f hb;exact⟨c,e,f,hb⟩
 ·simp at h
theorem Zr {w w':World} {b:Nat} (h:w'.heap[b]? = w.heap[b]?):w'.shape? b=w.shape? b:=by
 simp only[World.shape?,h]
theorem shape_setCell (w:World) (a:Addr) (v:Value) (k:Nat):(w.setCell a v).shape? k=w.shape? k:=by
 simp only[World.setCell,World.shape?,Array.getElem?_modify]
 cases hb:w.heap[k]? with
 | none=>simp
 | some o=>by_cases hk:a.block=k <;> cases o <;> simp only[hk,if_true,if_false,Option.map_some] <;> (try split) <;> simp_all
theorem jx [Vars]:∀(vs:List Value) (w:World) (b lo:Nat) (k:Nat),(w.setCells b lo vs).shape? k=w.shape? k
 | [],w,b,lo,k=>rfl
 | v :: r,w,b,lo,k=>by rw[World.setCells,jx r,shape_setCell]
theorem cell?_congr {w w':World} {a:Addr} (h:w'.heap[a.block]? = w.heap[a.block]?):w'.cell? a=w.cell? a:=by
 simp only[World.cell?,h]
theorem frozen?_congr {w w':World} {a:Addr} (h:w'.heap[a.block]? = w.heap[a.block]?):w'.frozen? a=w.frozen? a:=by
 simp only[World.frozen?,h]
theorem ObjOk.lt {w0:World} {G:Gh} {w:World} {n:Nat} {o:AObj} (h:ObjOk w0 G w n o) {r:Nat × Nat × Nat} (hr:G.reg n=some r):r.1 < w.heap.size:=by
 cases o with
 | cells l=>obtain⟨r',vs,h1,h2⟩:=h;rw[hr] at h1;cases h1;exact h2.lt
 | tcells e tot l=>obtain⟨r',vs,h1,h2,_⟩:=h;rw[hr] at h1;cases h1;exact h2.lt
 | map clk bs es=>
  obtain⟨b,ents,h1,h2⟩:=h
  rw[hr] at h1;cases h1
  have:=h2.blk
  rcases Nat.lt_or_ge b w.heap.size with h' | h'
  ·exact h'
  ·simp[Array.getElem?_eq_none h'] at this
 | chan cap buf closed=>
  obtain⟨b,vs,s,r',h1,_,h3,_⟩:=h
  rw[hr] at h1;cases h1
  rcases Nat.lt_or_ge b w.heap.size with h' | h'
  ·exact h'
  ·simp[Array.getElem?_eq_none h'] at h3
 | loop st pend nt s ps asg body=>
  obtain⟨b,fn,tmps,D,h1,_,h3,_⟩:=h
  rw[hr] at h1;cases h1
  exact (Array.getElem?_eq_some_iff.1 h3).1
 | iter m since c0 seen=>
  obtain⟨b,bm,sa,h1,_,_,h3,_⟩:=h
  rw[hr] at h1;cases h1
  exact (Array.getElem?_eq_some_iff.1 h3).1
theorem ObjOk.base {w0:World} {G:Gh} {w:World} {n:Nat} {o:AObj} (h:ObjOk w0 G w n o) {r:Nat × Nat × Nat} (hr:G.reg n=some r):w0.heap.size≤r.1:=by
 cases o with
 | cells l=>obtain⟨r',vs,h1,h2⟩:=h;rw[hr] at h1;cases h1;exact h2.base
 | tcells e tot l=>obtain⟨r',vs,h1,h2,_⟩:=h;rw[hr] at h1;cases h1;exact h2.base
 | map clk bs es=>obtain⟨b,ents,h1,h2⟩:=h;rw[hr] at h1;cases h1;exact h2.base
 | chan cap buf closed=>obtain⟨b,vs,s,r',h1,h2,_⟩:=h;rw[hr] at h1;cases h1;exact h2
 | loop st pend nt s ps asg body=>obtain⟨b,fn,tmps,D,h1,h2,_⟩:=h;rw[hr] at h1;cases h1;exact h2
 | iter m since c0 seen=>obtain⟨b,bm,sa,h1,h2,_⟩:=h;rw[hr] at h1;cases h1;exact h2
theorem ObjOk.hasReg {w0:World} {G:Gh} {w:World} {n:Nat} {o:AObj} (h:ObjOk w0 G w n o):∃r,G.reg n=some r:=by
 cases o with
 | cells l=>obtain⟨r',vs,h1,_⟩:=h;exact⟨_,h1⟩
 | tcells e tot l=>obtain⟨r',vs,h1,_⟩:=h;exact⟨_,h1⟩
 | map clk bs es=>obtain⟨b,ents,h1,_⟩:=h;exact⟨_,h1⟩
 | chan cap buf closed=>obtain⟨b,vs,s,r',h1,_⟩:=h;exact⟨_,h1⟩
 | loop st pend nt s ps asg body=>obtain⟨b,fn,tmps,D,h1,_⟩:=h;exact⟨_,h1⟩
 | iter m since c0 seen=>obtain⟨b,bm,sa,h1,_⟩:=h;exact⟨_,h1⟩
theorem ObjOk.keep {w0:World} {G G':Gh} {w w':World} {n:Nat} {o:AObj} (h:ObjOk w0 G w n o) (hG:VLe G G') (hs:w.heap.size≤w'.heap.size)
  (hc:∀r,G.reg n=some r→∀a,InReg r a→w'.cell? a=w.cell? a∧w'.frozen? a=w.frozen? a)
  (hb:∀r,G.reg n=some r→(∀c e f,w.heap[r.1]?≠some (.cells c e f))→w'.heap[r.1]? = w.heap[r.1]?)
  (hsh:∀r p,G.reg n=some r→w.shape? r.1=some p→w'.shape? r.1=some p):ObjOk w0 G' w' n o:=by
 have hck:∀(r:Nat × Nat × Nat) (l:List AV) (vs:List Value),G.reg n=some r→CellsOk w0 G w r l vs→CellsOk w0 G' w' r l vs:=by
  intro r l vs h1 h2
  have hin:∀j,j < r.2.2→InReg r ⟨r.1,r.2.1 + j,none⟩:=fun j hj=>⟨rfl,by simp,by simp;omega⟩
  have hlen:=h2.rel.length
  refine⟨h2.base,Nat.lt_of_lt_of_le h2.lt hs,h2.len,h2.sc,h2.rel.mono hG,fun j v e=>?_,fun j hj=>?_,fun j hj=>?_⟩
  ·have hj:j < vs.length:=(List.getElem?_eq_some_iff.1 e).1
   rw[(hc r h1 _ (hin j (by have:=h2.len;omega))).1];exact h2.val j v e
  ·rw[(hc r h1 _ (hin j hj)).1];exact h2.some j hj
  ·rw[(hc r h1 _ (hin j hj)).2];exact h2.free j hj
 cases o with
 | cells l=>
  obtain⟨r,vs,h1,h2⟩:=h
  exact⟨r,vs,hG.reg _ _ h1,hck r l vs h1 h2⟩
 | tcells e tot l=>
  obtain⟨r,vs,h1,h2,h3,h4,h5⟩:=h
  exact⟨r,vs,hG.reg _ _ h1,hck r l vs h1 h2,h3,hsh r _ h1 h4,h5⟩
 | map clk bs es=>
  obtain⟨b,ents,h1,h2⟩:=h
  exact⟨b,ents,hG.reg _ _ h1,h2.base,by rw[hb _ h1 (by rw[h2.blk];simp)];exact h2.blk,h2.keys,h2.vals.mono hG,h2.born,h2.lt⟩
 | chan cap buf closed=>
  obtain⟨b,vs,s,r',h1,h2,h3,h4⟩:=h
  exact⟨b,vs,s,r',hG.reg _ _ h1,h2,by rw[hb _ h1 (by rw[h3];simp)];exact h3,h4.mono hG⟩
 | loop st pend nt s ps asg body=>
  obtain⟨b,fn,tmps,D,h1,h2,h3,h4,h5⟩:=h
  exact⟨b,fn,tmps,D,hG.reg _ _ h1,h2,by rw[hb _ h1 (by rw[h3];simp)];exact h3,h4,fun t=>(h5 t).mono hG⟩
 | iter m since c0 seen=>
  obtain⟨b,bm,sa,h1,h2,h3,h4,h5⟩:=h
  exact⟨b,bm,sa,hG.reg _ _ h1,h2,hG.reg _ _ h3,by rw[hb _ h1 (by rw[h4];simp)];exact h4,h5⟩
def Gh.set (G:Gh) (n:Nat) (r:Nat × Nat × Nat):Gh:={G with reg:=fun k=>if k=n then some r else G.reg k}
theorem Gh.le_set {G:Gh} {n:Nat} {r:Nat × Nat × Nat} (h:G.reg n=none):GLe G (G.set n r):=
 ⟨fun k q e=>by by_cases hk:k=n <;> simp_all [Gh.set],fun _ _ e=>e,rfl,rfl,fun _ e=>e⟩
theorem Gh.set_same {G:Gh} {n:Nat} {r:Nat × Nat × Nat}:(G.set n r).reg n=some r:=by simp[Gh.set]
theorem Gh.set_ne {G:Gh} {n k:Nat} {r:Nat × Nat × Nat} (h:k≠n):(G.set n r).reg k=G.reg k:=by simp[Gh.set,h]
theorem Inv.imm_lt [Vars] {w0:World} {G:Gh} {h:zI} {w:World} (I:Inv w0 G h w) {a:Addr} {v:Value} (e:G.imm a=some v):a.block < w.heap.size:=
 World.block_lt_of_cell? _ _ (I.imm a v e)
theorem Inv.alloc [Vars] {w0:World} {G:Gh} {h:zI} {w:World} (I:Inv w0 G h w) {nm:Nat} (hn:G.reg nm=none) (hh:h nm=none∨True) (ob:Obj) (o:AObj) (t:Nat)
  (ho:ObjOk w0 (G.set nm (w.heap.size,0,t)) (w.alloc ob) nm o):Inv w0 (G.set nm (w.heap.size,0,t)) (h.upd nm (some o)) (w.alloc ob):=by
 have hG:GLe G (G.set nm (w.heap.size,0,t)):=Gh.le_set hn
 have hold:∀k,k < w.heap.size→(w.alloc ob).heap[k]? = w.heap[k]?:=fun k hk=>Below.heap_alloc w ob k hk
 have hne:∀m p,h m=some p→m≠nm:=fun m p e hm=>by
  obtain⟨r,hr⟩:=(I.obj m p e).hasReg;rw[hm,hn] at hr;cases hr
 refine⟨I.below.alloc I.below.size ob,fun a v e=>?_,fun n p e=>?_,?_,?_,I.oth.keep rfl rfl rfl (KDL.alloc w ob)⟩
 ·rw[cell?_congr (hold _ (I.imm_lt e))];exact I.imm a v e
 ·by_cases hnm:n=nm
  ·subst hnm;rw[zD] at e;cases e;exact ho
  ·rw[zB _ _ _ _ hnm] at e
   refine (I.obj n p e).keep hG.v (by simp) (fun r hr a ha=>?_) (fun r hr _=>hold _ ((I.obj n p e).lt hr)) (fun r p' hr hp=>by rw[Zr (hold _ ((I.obj n p e).lt hr))];exact hp)
   have:=hold a.block (by rw[ha.1];exact (I.obj n p e).lt hr)
   exact⟨cell?_congr this,frozen?_congr this⟩
 ·intro n m p q r s hnm e1 e2 h1 h2
  by_cases hn1:n=nm
  ·subst hn1
   have hm:m≠n:=Ne.symm hnm
   rw[zB _ _ _ _ hm] at e2
   rw[Gh.set_same] at h1;cases h1
   rw[Gh.set_ne hm] at h2
   have:=(I.obj m q e2).lt h2
   exact Or.inl (by simp;omega)
  ·rw[zB _ _ _ _ hn1] at e1
   rw[Gh.set_ne hn1] at h1
   by_cases hn2:m=nm
   ·subst hn2
    rw[Gh.set_same] at h2;cases h2
    have:=(I.obj n p e1).lt h1
    exact Or.inl (by simp;omega)
   ·rw[zB _ _ _ _ hn2] at e2
    rw[Gh.set_ne hn2] at h2
    exact I.disj n m p q r s hnm e1 e2 h1 h2
 ·intro n p r a v e1 h1 ei hin
  by_cases hn1:n=nm
  ·subst hn1
   rw[Gh.set_same] at h1;cases h1
   have:=I.imm_lt ei
   have:=hin.1
   simp at this;omega
  ·rw[zB _ _ _ _ hn1] at e1
   rw[Gh.set_ne hn1] at h1
   exact I.sep n p r a v e1 h1 ei hin
theorem Inv.allocCells [Vars] {w0:World} {G:Gh} {h:zI} {w:World} (I:Inv w0 G h w) {nm:Nat} (hn:G.reg nm=none) (c:Array Value) (e:TypeId) (xs:List AV) (vs:List Value)
  (hrel:RvL G xs vs) (hpre:∀(j:Nat) (v:Value),vs[j]? = some v→c[j]? = some v) (hsc:xs.all AV.scalar=true) :
  Inv w0 (G.set nm (w.heap.size,0,c.size)) (h.upd nm (some (.cells xs))) (w.alloc (.cells c e)):=by
 have hG:GLe G (G.set nm (w.heap.size,0,c.size)):=Gh.le_set hn
 have hl:=hrel.length
 refine I.alloc hn (Or.inr trivial) (.cells c e) (.cells xs) c.size ⟨_,vs,Gh.set_same,I.below.size,by simp,?_,hsc,hrel.mono hG.v,fun j v hj=>?_,fun j hj=>?_,fun j hj=>?_⟩
 ·rcases Nat.lt_or_ge c.size xs.length with hlt | hge
  ·exfalso
   have hj:c.size < vs.length:=by omega
   have:=hpre c.size vs[c.size] (by simp[hj])
   simp at this
  ·exact hge
 ·simp only[Nat.zero_add];rw[World.cell?_alloc_new];exact hpre j v hj
 ·simp only[Nat.zero_add];rw[World.cell?_alloc_new];simpa using hj
 ·simp only[Nat.zero_add];exact World.frozen?_alloc_new _ _ _ _
theorem Q7 (b:Nat):∀(vs:List Value) (o:Nat) (w:World) (k:Nat),k≠b→(w.setCells b o vs).heap[k]? = w.heap[k]?
 | [],_,_,_,_=>rfl
 | _ :: r,_,_,k,h=>by
  rw[World.setCells,Q7 b r _ _ k h]
  exact Below.heap_setCell _ _ _ _ (by simpa using h)
theorem qJ (b:Nat):∀(vs:List Value) (o:Nat) (w:World),(w.setCells b o vs).heap.size=w.heap.size
 | [],_,_=>rfl
 | _ :: r,_,_=>by rw[World.setCells,qJ b r];simp
theorem Qc [Vars] {B:Nat} {a:World} (b:Nat) (hB:B≤b):∀(vs:List Value) (o:Nat) (w:World),BelowD B a w→BelowD B a (w.setCells b o vs)
 | [],_,_,h=>h
 | v :: r,_,_,h=>Qc b hB r _ _ (h.setCell hB v)
theorem setCells_some (b:Nat):∀(vs:List Value) (o:Nat) (w:World) (x:Addr),(w.cell? x).isSome=true→((w.setCells b o vs).cell? x).isSome=true
 | [],_,_,_,h=>h
 | v :: r,o,w,x,h=>by
  rw[World.setCells]
  refine setCells_some b r _ _ x ?_
  by_cases hx:(⟨b,o,none⟩:Addr)=x
  ·subst hx
   obtain⟨u,hu⟩:=Option.isSome_iff_exists.1 h
   rw[World.cell?_setCell_same _ _ _ hu];rfl
  ·rw[World.cell?_setCell_other _ _ _ _ hx];exact h
theorem setCells_kdl [Vars] (b:Nat):∀(vs:List Value) (o:Nat) (w:World),KDL w (w.setCells b o vs)
 | [],_,w=>KDL.refl w
 | v :: r,o,w=>by
  rw[World.setCells]
  refine KDL.trans (fun k ob hk hd=>?_) (setCells_kdl b r _ _)
  by_cases e:k=b
  ·subst e
   obtain⟨hlt,hk'⟩:=Array.getElem?_eq_some_iff.1 hk
   show (w.heap.modify k _)[k]? = some ob
   rw[Array.getElem?_eq_getElem (by rw[Array.size_modify];exact hlt),Array.getElem_modify_self,hk']
   cases ob <;> first | rfl|(simp[isDL] at hd)
  ·rw[Below.heap_setCell _ _ _ _ (by simpa using e)];exact hk
def Za (l:List AV) (off:Nat) (xs:List AV):List AV:=l.take off ++ xs ++ l.drop (off + xs.length)
theorem Inv.store [Vars] {w0:World} {G:Gh} {h:zI} {w:World} (I:Inv w0 G h w) {n:Nat} {l:List AV} (hn:h n=some (.cells l)) {r:Nat × Nat × Nat} (hr:G.reg n=some r)
  (off:Nat) (xs:List AV) (vs:List Value) (hx:RvL G xs vs) (hsc:xs.all AV.scalar=true) (hle:off≤l.length) (hfit:off + xs.length≤r.2.2) :
  Inv w0 G (h.upd n (some (.cells (Za l off xs)))) (w.setCells r.1 (r.2.1 + off) vs):=by
 obtain⟨r',us,hr',ok⟩:=I.obj n _ hn
 rw[hr] at hr';cases hr'
 have hxl:=hx.length
 have hul:=ok.rel.length
 have hout:∀x:Addr,¬InReg r x→(w.setCells r.1 (r.2.1 + off) vs).cell? x=w.cell? x:=fun x hxr=>
  World.cell?_setCells_out _ _ _ _ _ (fun h1 _=>by
   rcases Nat.lt_or_ge x.off (r.2.1 + off) with hlt | hge
   ·exact Or.inl hlt
   ·refine Or.inr ?_
    rcases Nat.lt_or_ge x.off (r.2.1 + off + vs.length) with hlt | hge'
    ·exact absurd ⟨h1,by omega,by omega⟩ hxr
    ·exact hge')
 have hsplice:(Za l off xs).length≤r.2.2:=by
  have:=ok.len
  simp only[Za,List.length_append,List.length_take,List.length_drop];omega
 refine⟨Qc _ ok.base _ _ _ I.below,fun a v e=>?_,fun m p e=>?_,?_,?_,I.oth.keep rfl rfl rfl (setCells_kdl _ _ _ _)⟩
 ·rw[hout a (I.sep n _ r a v hn hr e)];exact I.imm a v e
 ·by_cases hm:m=n
  ·subst hm
   rw[zD] at e;cases e
   refine⟨r,us.take off ++ vs ++ us.drop (off + xs.length),hr,ok.base,by rw[qJ];exact ok.lt,hsplice,?_,?_,fun j v hj=>?_,fun j hj=>?_,fun j hj=>?_⟩
   ·simp only[Za,List.all_append,Bool.and_eq_true]
    refine⟨⟨?_,hsc⟩,?_⟩
    ·exact List.all_eq_true.2 fun x hx=>List.all_eq_true.1 ok.sc x (List.mem_of_mem_take hx)
    ·exact List.all_eq_true.2 fun x hx=>List.all_eq_true.1 ok.sc x (List.mem_of_mem_drop hx)
   ·exact RvL.append (RvL.append (ok.rel.take _) hx) (ok.rel.drop _)
   ·rcases Nat.lt_or_ge j off with h1 | h1
    ·rw[World.cell?_setCells_out _ _ _ _ _ (fun _ _=>Or.inl (by simp;omega))]
     rw[List.append_assoc,List.getElem?_append_left (by rw[List.length_take];omega)] at hj
     rw[List.getElem?_take] at hj
     simp[h1] at hj
     exact ok.val j v hj
    ·rcases Nat.lt_or_ge j (off + xs.length) with h2 | h2
     ·have hk:j - off < vs.length:=by omega
      have:=World.cell?_setCells_in r.1 vs (r.2.1 + off) w (fun i hi=>by
       have:=ok.some (off + i) (by omega)
       rwa [show r.2.1 + off + i=r.2.1 + (off + i) by omega]) (j - off) hk
      rw[show r.2.1 + off + (j - off)=r.2.1 + j by omega] at this
      rw[this]
      rw[List.append_assoc,List.getElem?_append_right (by rw[List.length_take];omega),List.length_take,Nat.min_eq_left (by omega)] at hj
      rw[List.getElem?_append_left hk] at hj
      rw[List.getElem?_eq_getElem hk] at hj
      exact hj
     ·rw[World.cell?_setCells_out _ _ _ _ _ (fun _ _=>Or.inr (by simp;omega))]
      rw[List.getElem?_append_right (by simp;omega)] at hj
      simp only[List.length_append,List.length_take,List.getElem?_drop,Nat.min_eq_left (show off≤us.length by omega)] at hj
      rw[show off + xs.length + (j - (off + vs.length))=j by omega] at hj
      exact ok.val j v hj
   ·exact setCells_some _ _ _ _ _ (ok.some j hj)
   ·rw[World.frozen?_setCells];exact ok.free j hj
  ·rw[zB _ _ _ _ hm] at e
   refine (I.obj m p e).keep (VLe.refl G) (by rw[qJ];exact Nat.le_refl _) (fun q hq a ha=>⟨hout a ?_,World.frozen?_setCells _ _ _ _ _⟩) (fun q hq hb=>?_) (fun q p' hq hp=>by rw[jx];exact hp)
   ·intro hin
    rcases I.disj m n _ _ q r hm e hn hq hr with h1 | h1 | h1
    ·exact h1 (by rw[←ha.1,hin.1])
    ·have:=ha.2.2;have:=hin.2.1;omega
    ·have:=ha.2.1;have:=hin.2.2;omega
   ·rcases Nat.eq_zero_or_pos xs.length with hz | hz
    ·have:vs=[]:=List.length_eq_zero_iff.1 (by omega)
     subst this;rfl
    refine Q7 _ _ _ _ _ (fun hq1=>?_)
    rw[hq1] at hb
    obtain⟨v,hv⟩:=Option.isSome_iff_exists.1 (ok.some off (by omega))
    obtain⟨c,e',f,hc⟩:=Q3 hv
    exact hb c e' f hc
 ·intro m k p q s t hmk e1 e2 h1 h2
  have old:∀m p,h.upd n (some (.cells (Za l off xs))) m=some p→∃p',h m=some p':=fun m p e=>by
   by_cases hm:m=n
   ·subst hm;exact⟨_,hn⟩
   ·rw[zB _ _ _ _ hm] at e;exact⟨_,e⟩
  obtain⟨p',e1'⟩:=old m p e1
  obtain⟨q',e2'⟩:=old k q e2
  exact I.disj m k p' q' s t hmk e1' e2' h1 h2
 ·intro m p s a v e1 h1 ei hin
  by_cases hm:m=n
  ·subst hm;exact I.sep m _ s a v hn h1 ei hin
  ·rw[zB _ _ _ _ hm] at e1;exact I.sep m _ s a v e1 h1 ei hin
end Go.AM
namespace Go.AM
open Go.RowKit
structure St where
 nt:Nat
 s:List (Nat × AV)
 h:zI
 n:Nat
mutual
def jN:Value→AV
 | .agg ⟨cs⟩=>.agg (ofVals cs)
 | .tuple _=>.undef
 | .slice none 0 0=>.fslc true true 0 []
 | v=>.c v
def ofVals:List Value→List AV
 | []=>[]
 | v :: r=>jN v :: ofVals r
end
mutual
theorem jy (G:Gh):∀v:Value,Rv G (jN v) v
 | .agg ⟨cs⟩=>by simp only[jN,Rv];exact⟨⟨cs⟩,rfl,RvL_ofVals G cs⟩
 | .tuple _=>by simp[jN,Rv]
 | .slice none 0 0=>by simp only[jN,Rv];exact⟨none,0,rfl,by simp,by simp,by simp,by simp⟩
 | .slice none 0 (n + 1)=>by simp[jN,Rv,Value.oneCell']
 | .slice none (n + 1) c=>by simp[jN,Rv,Value.oneCell']
 | .slice (some a) n c=>by simp[jN,Rv,Value.oneCell']
 | .bool _ | .int _ _ | .float _ _ | .complex _ _ _ | .string _ | .pointer _ | .map _ | .chan _ | .func _ _ _ | .nilFunc | .iface _ _ | .nilIface=>by simp[jN,Rv,Value.oneCell']
theorem RvL_ofVals (G:Gh):∀l:List Value,RvL G (ofVals l) l
 | []=>by simp[ofVals,RvL]
 | v :: r=>by simp only[ofVals,RvL];exact⟨v,r,rfl,jy G v,RvL_ofVals G r⟩
end
def ev [Vars] (s:List (Nat × AV)):Operand→AV
 | .tmp t=>get s t
 | .const v=>jN v
 | .func f=>.func (.func f) [] []
 | .global g=>match Vars.tab.find? (fun p=>p.1 == g) with
  | some p=>.fptr (p.2.map .c)
  | none=>.undef
theorem RvL_consts (G:Gh):∀l:List Value,(∀v ∈ l,v.oneCell'=true)→RvL G (l.map .c) l
 | [],_=>by simp[RvL]
 | v :: r,h=>by simp only[List.map_cons,RvL];exact⟨v,r,rfl,by simp only[Rv,true_and];exact h v (by simp),RvL_consts G r fun u hu=>h u (by simp[hu])⟩
theorem Qe [Vars] {G:Gh} (hV:VarsOk G) {s:List (Nat × AV)} {a:Act} (h:∀t,Rv G (get s t) (a.tmps.getD t undef)):∀x,Rv G (ev s x) (a.eval x)
 | .tmp t=>h t
 | .const v=>jy G v
 | .func f=>by simp only[ev,Act.eval,Rv];exact⟨#[],#[],rfl,by simp[RvL],by simp[RvL]⟩
 | .global g=>by
  simp only[ev,Act.eval]
  split
  ·rename_i p hp
   have hm:=List.mem_of_find?_eq_some hp
   have hg:=List.find?_some hp
   simp only[beq_iff_eq] at hg
   simp only[Rv]
   exact⟨⟨g,0,none⟩,p.2,rfl,RvL_consts G _ (hV p hm).2,by have:=(hV p hm).1;rw[hg] at this;exact this⟩
  ·simp[Rv]
def J6:TypeDesc→Bool
 | .struct _ | .array _ _=>true
 | _=>false
def lay (P:Program) (t:TypeId):Option (Nat × Bool):=
 match P.info? t,P.underlying t with
 | some i,some d=>some (i.size,J6 d)
 | _,_=>none
def zt (P:Program) (t:TypeId) (f:Nat):Option (Nat × Nat):=
 match P.underlying t with
 | some (.struct fs)=>match fs[f]? with
  | some fd=>(P.info? fd.type).map fun i=>(fd.offset,i.size)
  | none=>none
 | _=>none
def ZO (P:Program) (t:TypeId):Bool:=
 match P.underlying t with
 | some (.struct fs)=>fs.toList.all fun f=>(P.info? f.type).isSome
 | _=>false
def ZS (P:Program) (t:TypeId):Option TypeId:=
 match P.underlying t with
 | some (.slice e)=>some e
 | _=>none
def zo (P:Program) (t:TypeId):Option Nat:=(P.info? t).map (·.size)
def ZC (P:Program) (t:TypeId):Option Nat:=(P.info? t).map (·.bytes)
def zd (P:Program) (t:TypeId):Option AV:=(P.info? t).bind fun i=>i.zero.map jN
theorem jO {P:Program} {t:TypeId} {n:Nat} (h:zo P t=some n) (w:World):(sizeOf t).run P w=.ok n w:=by
 simp only[zo,Option.map_eq_some_iff] at h
 obtain⟨i,h1,h2⟩:=h
 simp[sizeOf,typeInfo,h1,h2]
theorem JS [Vars] {P:Program} {t:TypeId} {z:AV} (h:zd P t=some z) (G:Gh) (w:World):∃v,(zeroValue t).run P w=.ok v w∧Rv G z v:=by
 simp only[zd,Option.bind_eq_some_iff,Option.map_eq_some_iff] at h
 obtain⟨i,h1,v,h2,h3⟩:=h
 exact⟨v,by simp[zeroValue,typeInfo,h1,h2],h3 ▸ jy G v⟩
theorem Zj {P:Program} {t e:TypeId} (h:ZS P t=some e) (w:World):(underlying t).run P w=.ok (.slice e) w:=by
 unfold ZS at h
 split at h
 ·rename_i e' hu;cases h;exact run_underlying hu w
 ·cases h
theorem und_eltOf {P:Program} {t e:TypeId} (h:ZS P t=some e):P.underlying t=some (.slice e):=by
 unfold ZS at h
 split at h
 ·rename_i e' hu;cases h;exact hu
 ·cases h
def jB (sg:Nat × Bool) (l:List AV):Option AV:=
 match sg with|(s,true)=>if s≤l.length then some (.agg (l.take s)) else none|(_,false)=>l.head?
theorem qK {P:Program} {t:TypeId} {sg:Nat × Bool} (hl:lay P t=some sg) {G:Gh} {w:World} (a:Addr) (l:List AV) (vs:List Value) (hr:RvL G l vs)
  (hc:∀j v,vs[j]? = some v→w.cell? (a.add j)=some v) {x:AV} (hx:jB sg l=some x):∃cv,(loadVar t a).run P w=.ok cv w∧Rv G x cv:=by
 unfold lay at hl
 split at hl
 ·rename_i i d h1 h2
  simp only[Option.some.injEq] at hl
  have hs:(sizeOf t).run P w=.ok i.size w:=by simp[sizeOf,typeInfo,h1]
  subst hl
  by_cases hagg:J6 d=true
  ·rw[hagg] at hx
   simp only[jB] at hx
   split at hx
   ·rename_i hle
    cases hx
    have hlen:=hr.length
    have h3:=run_loadCells_list (P:=P) w a (vs.take i.size) (fun j v e=>by
     rw[List.getElem?_take] at e
     split at e
     ·exact hc j v e
     ·cases e)
    rw[List.length_take,Nat.min_eq_left (by omega)] at h3
    refine⟨.agg (vs.take i.size).toArray,?_,?_⟩
    ·have hi:(isAgg t).run P w=.ok true w:=by
      cases d <;> simp[J6] at hagg <;> simp[isAgg,underlying,h2]
     simp only[loadVar,Sem.run_bind,hi,Result.andThen_ok,if_true,hs,h3,Sem.run_pure]
    ·simp only[Rv]
     exact⟨_,rfl,hr.take i.size⟩
   ·cases hx
  ·have hagg':J6 d=false:=by simpa using hagg
   rw[hagg'] at hx
   simp only[jB] at hx
   cases l with
   | nil=>simp at hx
   | cons y r=>
    simp at hx;subst hx
    simp only[RvL] at hr
    obtain⟨v,vr,rfl,h3,_⟩:=hr
    have hi:(isAgg t).run P w=.ok false w:=by
     cases d <;> simp[J6] at hagg' <;> simp[isAgg,underlying,h2]
    have:=hc 0 v (by simp)
    simp only[Addr.add_zero'] at this
    exact⟨v,by simp[loadVar,hi,this],h3⟩
 ·cases hl
def StepOk [Vars] (w0:World) (G:Gh) (nm:Nat) (r:Result Next) (v:AV) (h':zI):Prop:=
 ∃cv w' G',(r=.ok (.value cv) w'∨(r=.ok .skip w'∧cv=Go.undef))∧(∀k,k≠nm→G'.reg k=G.reg k)∧GLe G G'∧Inv w0 G' h' w'∧Rv G' v cv
theorem StepOk.value [Vars] {w0:World} {G:Gh} {nm:Nat} {v:AV} {h:zI} {w:World} (I:Inv w0 G h w) {cv:Value} (hv:Rv G v cv):StepOk w0 G nm (.ok (.value cv) w) v h:=
 ⟨cv,w,G,.inl rfl,fun _ _=>rfl,GLe.refl G,I,hv⟩
theorem cells_at [Vars] {w0:World} {G:Gh} {h:zI} {w:World} (I:Inv w0 G h w) {n:Nat} {l:List AV} (hn:h n=some (.cells l)) {b lo t:Nat} (hr:G.reg n=some (b,lo,t)) (off:Nat) :
  ∃vs,RvL G (l.drop off) vs∧∀j v,vs[j]? = some v→w.cell? ((⟨b,lo + off,none⟩:Addr).add j)=some v:=by
 obtain⟨r,vs,h1,ok⟩:=I.obj n _ hn
 rw[hr] at h1;cases h1
 refine⟨vs.drop off,ok.rel.drop off,fun j v e=>?_⟩
 rw[List.getElem?_drop] at e
 rw[z7,Nat.add_assoc]
 exact ok.val _ _ e
theorem imm_at [Vars] {w0:World} {G:Gh} {h:zI} {w:World} (I:Inv w0 G h w) {a:Addr} {vs:List Value} (k:ImmAt G a vs):∀j v,vs[j]? = some v→w.cell? (a.add j)=some v:=
 fun j v e=>I.imm _ _ (k j v e)
section
variable {P : Program} {w0 : World} {G : Gh} {h : zI} {w : World} {nm : Nat}
theorem QZ [Vars] (I:Inv w0 G h w) {t:TypeId} {sg:Nat × Bool} (hl:lay P t=some sg) {n off:Nat} {l:List AV} {v:Value} (hv:Rv G (.ptr n off) v) (hn:h n=some (.cells l))
  {x:AV} (hx:jB sg (l.drop off)=some x):∃cv,(Instr.loadAt t v).run P w=.ok cv w∧Rv G x cv:=by
 simp only[Rv] at hv
 obtain⟨b,lo,tt,hr,rfl⟩:=hv
 obtain⟨vs,h1,h2⟩:=cells_at I hn hr off
 obtain⟨cv,h3,h4⟩:=qK hl _ _ vs h1 h2 hx
 exact⟨cv,by simpa [Instr.loadAt,Instr.sureAddr] using h3,h4⟩
theorem load_fptr_ok [Vars] (I:Inv w0 G h w) {t:TypeId} {sg:Nat × Bool} (hl:lay P t=some sg) {l:List AV} {v:Value} (hv:Rv G (.fptr l) v)
  {x:AV} (hx:jB sg l=some x):∃cv,(Instr.loadAt t v).run P w=.ok cv w∧Rv G x cv:=by
 simp only[Rv] at hv
 obtain⟨a,vs,rfl,h1,h2⟩:=hv
 obtain⟨cv,h3,h4⟩:=qK hl a l vs h1 (imm_at I h2) hx
 exact⟨cv,by simpa [Instr.loadAt,Instr.sureAddr] using h3,h4⟩
theorem run_fieldAt {t f off s:Nat} (hf:zt P t f=some (off,s)) (hs:s≠0) (a:Addr) (w:World) :
  (Instr.fieldAt t (.pointer (some a)) f).run P w=.ok (.pointer (some (a.add off))) w:=by
 unfold zt at hf
 split at hf
 ·rename_i fs hu
  split at hf
  ·rename_i fd hfd
   simp only[Option.map_eq_some_iff,Prod.mk.injEq] at hf
   obtain⟨i,hi,h1,h2⟩:=hf
   subst h1
   simp[Instr.fieldAt,underlying,hu,hfd,Instr.sureAddr,fieldPlace,sizeOf,typeInfo,hi,h2,hs]
  ·cases hf
 ·cases hf
theorem field_ptr_ok [Vars] {t f off s n o:Nat} (hf:zt P t f=some (off,s)) (hs:s≠0) {v:Value} (hv:Rv G (.ptr n o) v) :
  ∃cv,(Instr.fieldAt t v f).run P w=.ok cv w∧Rv G (.ptr n (o + off)) cv:=by
 simp only[Rv] at hv
 obtain⟨b,lo,tt,hr,rfl⟩:=hv
 refine⟨_,run_fieldAt hf hs _ w,?_⟩
 simp only[Rv]
 exact⟨b,lo,tt,hr,by rw[z7,Nat.add_assoc]⟩
theorem field_fptr_ok [Vars] {t f off s:Nat} (hf:zt P t f=some (off,s)) (hs:s≠0) {l:List AV} {v:Value} (hv:Rv G (.fptr l) v) :
  ∃cv,(Instr.fieldAt t v f).run P w=.ok cv w∧Rv G (.fptr (l.drop off)) cv:=by
 simp only[Rv] at hv
 obtain⟨a,vs,rfl,h1,h2⟩:=hv
 refine⟨_,run_fieldAt hf hs _ w,?_⟩
 simp only[Rv]
 refine⟨_,vs.drop off,rfl,h1.drop off,fun j v e=>?_⟩
 rw[List.getElem?_drop] at e
 rw[jQ]
 exact h2 _ _ e
theorem qy [Vars] (I:Inv w0 G h w) {t:TypeId} {s:Nat} (hsz:zo P t=some s) {n off:Nat} {l:List AV} {v cx:Value} (hv:Rv G (.ptr n off) v) (hn:h n=some (.cells l)) {x:AV} (hx:Rv G x cx)
  (hsc:(cellsOf x).all AV.scalar=true) (hlen:(cellsOf x).length=s) (hle:off + s≤l.length) :
  ∃w',(Instr.storeAt t v cx).run P w=.ok () w'∧Inv w0 G (h.upd n (some (.cells (Za l off (cellsOf x))))) w'∧∀k,w'.shape? k=w.shape? k:=by
 simp only[Rv] at hv
 obtain⟨b,lo,tt,hr,rfl⟩:=hv
 have hc:=hx.cells hsc
 obtain⟨r,us,hr',ok⟩:=I.obj n _ hn
 rw[hr] at hr';cases hr'
 have hcl:=hc.length
 have hll:=ok.len
 simp only[Array.length_toList] at hcl
 refine⟨w.setCells b (lo + off) cx.cells.toList,?_,I.store hn hr off _ _ hc hsc (by omega) (by simp only at hll ⊢;omega),fun k=>jx _ _ _ _ _⟩
 have h1:=run_storeCells_cells (P:=P) b (lo + off) cx.cells.toList 0 w (fun j hj=>by
   have:=ok.some (off + j) (by simp only[Array.length_toList] at hj;simp only at hll ⊢;omega)
   simpa [Nat.add_assoc] using this) (fun j hj=>by
   have:=ok.free (off + j) (by simp only[Array.length_toList] at hj;simp only at hll ⊢;omega)
   simpa [Nat.add_assoc] using this) (hc.oneCells hsc)
 have h2:cx.cells.size=s:=by omega
 simp only[Nat.add_zero] at h1
 simp[Instr.storeAt,Instr.sureAddr,storeVar,jO hsz,h2,h1]
theorem Inv.untype [Vars] (I:Inv w0 G h w) {n:Nat} {e:TypeId} {tot:Option Nat} {l:List AV} (hn:h n=some (.tcells e tot l)):Inv w0 G (h.upd n (some (.cells l))) w:=by
 have old:∀m p,(h.upd n (some (.cells l))) m=some p→∃p',h m=some p'∧(m=n→p=.cells l)∧(m≠n→p'=p):=fun m p e=>by
  by_cases hm:m=n
  ·subst hm;rw[zD] at e;cases e;exact⟨_,hn,fun _=>rfl,fun hne=>absurd rfl hne⟩
  ·rw[zB _ _ _ _ hm] at e;exact⟨p,e,fun h'=>absurd h' hm,fun _=>rfl⟩
 refine⟨I.below,I.imm,fun m p e=>?_,fun m k p q r s hne e1 e2=>?_,fun m p r a v e=>?_,I.oth⟩
 ·by_cases hm:m=n
  ·subst hm
   rw[zD] at e;cases e
   obtain⟨r,vs,h1,h2,_⟩:=I.obj m _ hn
   exact⟨r,vs,h1,h2⟩
  ·rw[zB _ _ _ _ hm] at e;exact I.obj m p e
 ·obtain⟨p',h1,_⟩:=old m p e1
  obtain⟨q',h2,_⟩:=old k q e2
  exact I.disj m k p' q' r s hne h1 h2
 ·obtain⟨p',h1,_⟩:=old m p e
  exact I.sep m p' r a v h1
theorem Inv.retype [Vars] (I:Inv w0 G h w) {n:Nat} {e:TypeId} {tot:Option Nat} {l:List AV} (hn:h n=some (.cells l)) {b t:Nat} (hr:G.reg n=some (b,0,t)) (hs:w.shape? b=some (e,t)) (ht:∀c,tot=some c→t=c):Inv w0 G (h.upd n (some (.tcells e tot l))) w:=by
 have old:∀m p,(h.upd n (some (.tcells e tot l))) m=some p→∃p',h m=some p':=fun m p e=>by
  by_cases hm:m=n
  ·subst hm;exact⟨_,hn⟩
  ·rw[zB _ _ _ _ hm] at e;exact⟨p,e⟩
 refine⟨I.below,I.imm,fun m p e=>?_,fun m k p q r s hne e1 e2=>?_,fun m p r a v e=>?_,I.oth⟩
 ·by_cases hm:m=n
  ·subst hm
   rw[zD] at e;cases e
   obtain⟨r,vs,h1,h2⟩:=I.obj m _ hn
   rw[hr] at h1;cases h1
   exact⟨_,vs,hr,h2,rfl,hs,ht⟩
  ·rw[zB _ _ _ _ hm] at e;exact I.obj m p e
 ·obtain⟨p',h1⟩:=old m p e1
  obtain⟨q',h2⟩:=old k q e2
  exact I.disj m k p' q' r s hne h1 h2
 ·obtain⟨p',h1⟩:=old m p e
  exact I.sep m p' r a v h1
theorem qr (h:zI) (n:Nat) (o p:Option AObj):(h.upd n o).upd n p=h.upd n p:=by
 funext k
 by_cases hk:k=n
 ·subst hk;rw[zD,zD]
 ·rw[zB _ _ _ _ hk,zB _ _ _ _ hk,zB _ _ _ _ hk]
theorem box_ok [Vars] (I:Inv w0 G h w) (hnm:G.reg nm=none) (t:TypeId) {x:AV} {cx:Value} (hx:Rv G x cx) (hsc:(cellsOf x).all AV.scalar=true) :
  StepOk w0 G nm (.ok (.value (.pointer (some ⟨w.heap.size,0,none⟩))) (w.alloc (.cells cx.cells t))) (.ptr nm 0) (h.upd nm (some (.cells (cellsOf x)))):=by
 have hc:=hx.cells hsc
 refine⟨_,_,_,.inl rfl,fun k hk=>Gh.set_ne hk,Gh.le_set hnm,I.allocCells hnm cx.cells t (cellsOf x) cx.cells.toList hc (fun j v e=>by simpa using e) hsc,?_⟩
 simp only[Rv]
 exact⟨_,_,_,Gh.set_same,by simp⟩
theorem typed_ok [Vars] (I:Inv w0 G h w) (hnm:G.reg nm=none) (t:TypeId) {x:AV} {cx:Value} (hx:Rv G x cx) (hsc:(cellsOf x).all AV.scalar=true) :
  StepOk w0 G nm (.ok (.value (.pointer (some ⟨w.heap.size,0,none⟩))) (w.alloc (.cells cx.cells t))) (.ptr nm 0) (h.upd nm (some (.tcells t (some (cellsOf x).length) (cellsOf x)))):=by
 have hc:=hx.cells hsc
 have I':=I.allocCells hnm cx.cells t (cellsOf x) cx.cells.toList hc (fun j v e=>by simpa using e) hsc
 have hl:=hc.length
 simp only[Array.length_toList] at hl
 have I2:=I'.retype (e:=t) (tot:=some (cellsOf x).length) (zD _ _ _) Gh.set_same (by simp only[World.shape?,World.alloc_heap_new]) (fun c e=>by cases e;exact hl)
 rw[qr] at I2
 refine⟨_,_,_,.inl rfl,fun k hk=>Gh.set_ne hk,Gh.le_set hnm,I2,?_⟩
 simp only[Rv]
 exact⟨_,_,_,Gh.set_same,by simp⟩
end
end Go.AM
namespace Go.AM
open Go.RowKit
theorem foldl_set (off:Nat):∀(l:List Value) (k:Nat) (cells:Array Value),off + k + l.length≤cells.size→
  ((l.zipIdx k).foldl (fun (cs:Array Value) (p:Value × Nat)=>cs.setIfInBounds (off + p.2) p.1) cells).toList=cells.toList.take (off + k) ++ l ++ cells.toList.drop (off + k + l.length)
 | [],k,cells,h=>by simp
 | c :: r,k,cells,h=>by
  simp only[List.length_cons] at h
  have hlt:off + k < cells.toList.length:=by simp;omega
  rw[List.zipIdx_cons,List.foldl_cons,foldl_set off r (k + 1) _ (by simp;omega)]
  simp only[Array.toList_setIfInBounds,List.length_cons]
  rw[show off + (k + 1)=off + k + 1 by omega,List.take_succ_eq_append_getElem (by simpa using hlt)]
  rw[List.getElem_set_self,List.take_set_of_le (Nat.le_refl _)]
  rw[List.drop_set_of_lt (by omega)]
  rw[show off + k + 1 + r.length=off + k + (r.length + 1) by omega]
  simp
def aFill (place:Nat→Option (Nat × Nat)):List AV→List (Nat × AV)→Option (List AV)
 | cells,[]=>some cells
 | cells,(i,x) :: rest=>
  match place i with
  | none=>none
  | some (off,size)=>
   if (cellsOf x).length=size∧off + size≤cells.length∧(cellsOf x).all AV.scalar=true then aFill place (Za cells off (cellsOf x)) rest else none
inductive RvP (G:Gh):List (Nat × AV)→List (Nat × Value)→Prop
 | nil:RvP G [] []
 | cons {i:Nat} {x:AV} {v:Value} {r:List (Nat × AV)} {s:List (Nat × Value)} (h:Rv G x v) (k:RvP G r s):RvP G ((i,x) :: r) ((i,v) :: s)
theorem fill_ok [Vars] {G:Gh} (place:Nat→Option (Nat × Nat)):∀(ps:List (Nat × AV)) (qs:List (Nat × Value)) (_:RvP G ps qs) (l:List AV) (cells:Array Value) (_:RvL G l cells.toList) (r:List AV),
  aFill place l ps=some r→∃cells',Instr.fill place cells qs=some cells'∧RvL G r cells'.toList∧(l.all AV.scalar=true→r.all AV.scalar=true)∧r.length=l.length
 | [],_,.nil,l,cells,hl,r,e=>by
  simp only[aFill,Option.some.injEq] at e;subst e
  exact⟨cells,rfl,hl,id,rfl⟩|(i,x) :: ps,_,.cons (v:=v) (s:=qs) h k,l,cells,hl,r,e=>by
  simp only[aFill] at e
  cases hp:place i with
  | none=>simp[hp] at e
  | some os=>
   obtain⟨off,size⟩:=os
   simp only[hp] at e
   split at e
   ·rename_i hc
    obtain⟨h1,h2,h3⟩:=hc
    have hcl:=(h.cells h3).length
    simp only[Array.length_toList] at hcl
    have hll:=hl.length
    simp only[Array.length_toList] at hll
    have hf:=foldl_set off v.cells.toList 0 cells (by simp;omega)
    simp only[Nat.add_zero] at hf
    have hrel:RvL G (Za l off (cellsOf x)) (v.cells.zipIdx.foldl (fun cs (c,j)=>cs.setIfInBounds (off + j) c) cells).toList:=by
     have:(v.cells.zipIdx.foldl (fun (cs:Array Value) (p:Value × Nat)=>cs.setIfInBounds (off + p.2) p.1) cells)=((v.cells.toList.zipIdx 0).foldl (fun (cs:Array Value) (p:Value × Nat)=>cs.setIfInBounds (off + p.2) p.1) cells):=by
      rw[←Array.foldl_toList,Array.toList_zipIdx]
     rw[this,hf]
     have e2:v.cells.toList.length=(cellsOf x).length:=by simp;omega
     rw[e2]
     exact RvL.append (RvL.append (hl.take _) (h.cells h3)) (hl.drop _)
    obtain⟨c',e1,e2,e3,e4⟩:=fill_ok place ps qs k _ _ hrel r e
    refine⟨c',?_,e2,fun hs=>e3 ?_,?_⟩
    ·simp only[Instr.fill,hp]
     rw[if_neg (by simp;omega)]
     exact e1
    ·simp only[Za,List.all_append,Bool.and_eq_true]
     exact⟨⟨List.all_eq_true.2 fun y hy=>List.all_eq_true.1 hs y (List.mem_of_mem_take hy),h3⟩,List.all_eq_true.2 fun y hy=>List.all_eq_true.1 hs y (List.mem_of_mem_drop hy)⟩
    ·rw[e4];simp only[Za,List.length_append,List.length_take,List.length_drop];omega
   ·cases e
section
variable {P : Program} {w0 : World} {G : Gh} {h : zI} {w : World} {nm : Nat}
def qR (P:Program) (t:TypeId) (ps:List (Nat × AV)):Option AV:=
 match P.underlying t with
 | some (.array _ e)=>match zo P e,zd P t with
  | some sz,some z=>if (cellsOf z).all AV.scalar then (aFill (fun i=>some (i * sz,sz)) (cellsOf z) ps).map .agg else none
  | _,_=>none
 | _=>none
def aBuild (P:Program) (t:TypeId) (ps:List (Nat × AV)):Option AV:=
 if ZO P t then
  match zd P t with
  | some z=>if (cellsOf z).all AV.scalar then (aFill (zt P t) (cellsOf z) ps).map .agg else none
  | none=>none
 else qR P t ps
theorem buildArr_ok [Vars] {t:TypeId} {ps:List (Nat × AV)} {qs:Array (Nat × Value)} (hp:RvP G ps qs.toList) {x:AV} (hx:qR P t ps=some x) :
  ∃cv,(Instr.build t qs).run P w=.ok cv w∧Rv G x cv:=by
 unfold qR at hx
 split at hx
 ·rename_i e he hu
  split at hx
  ·rename_i sz z hsz hz
   split at hx
   ·rename_i hsc
    simp only[Option.map_eq_some_iff] at hx
    obtain⟨r,hr,rfl⟩:=hx
    obtain⟨zv,h1,h2⟩:=JS hz G w
    obtain⟨cells',e1,e2,e3,e4⟩:=fill_ok (fun i=>some (i * sz,sz)) ps qs.toList hp _ zv.cells (h2.cells hsc) r hr
    refine⟨.agg cells',?_,by simp only[Rv];exact⟨cells',rfl,e2⟩⟩
    unfold zo at hsz
    simp only[Option.map_eq_some_iff] at hsz
    obtain⟨i,hi,rfl⟩:=hsz
    simp only[Instr.build,Sem.run_bind,h1,Result.andThen_ok,run_underlying hu,sizeOf,typeInfo,run_program,hi,Sem.run_pure,e1]
   ·cases hx
  ·cases hx
 ·cases hx
theorem mapM_sizes {P:Program} (w:World):∀(fs:List Field),(fs.all fun f=>(P.info? f.type).isSome)=true→
  ((fs.mapM fun f=>do pure (f.offset,←sizeOf f.type):Sem (List (Nat × Nat)))).run P w=.ok (fs.map fun f=>(f.offset,((P.info? f.type).map (·.size)).getD 0)) w
 | [],_=>by simp
 | f :: r,hh=>by
  simp only[List.all_cons,Bool.and_eq_true] at hh
  obtain⟨i,hi⟩:=Option.isSome_iff_exists.1 hh.1
  rw[List.mapM_cons]
  have:=mapM_sizes w r hh.2
  simp[sizeOf,typeInfo,hi] at this ⊢
  rw[this]
  simp
theorem build_ok [Vars] {t:TypeId} {ps:List (Nat × AV)} {qs:Array (Nat × Value)} (hp:RvP G ps qs.toList) {x:AV} (hx:aBuild P t ps=some x) :
  ∃cv,(Instr.build t qs).run P w=.ok cv w∧Rv G x cv:=by
 unfold aBuild at hx
 split at hx
 ·rename_i hsz
  split at hx
  ·rename_i z hz
   split at hx
   ·rename_i hsc
    simp only[Option.map_eq_some_iff] at hx
    obtain⟨r,hr,rfl⟩:=hx
    obtain⟨zv,h1,h2⟩:=JS hz G w
    obtain⟨cells',e1,e2,e3,e4⟩:=fill_ok (zt P t) ps qs.toList hp _ zv.cells (h2.cells hsc) r hr
    unfold ZO at hsz
    split at hsz
    ·rename_i fs hu
     refine⟨.agg cells',?_,by simp only[Rv];exact⟨cells',rfl,e2⟩⟩
     have hm:=mapM_sizes (P:=P) w fs.toList hsz
     have hm':(fs.mapM fun f=>do pure (f.offset,←sizeOf f.type):Sem (Array (Nat × Nat))).run P w=.ok (fs.map fun f=>(f.offset,((P.info? f.type).map (·.size)).getD 0)) w:=by
      rw[Array.mapM_eq_mapM_toList]
      simp only[Sem.run_map]
      rw[hm]
      simp only[Result.andThen_ok]
      congr 1
      apply Array.ext'
      simp
     have hplace:(fun x=>(fs.map fun f=>(f.offset,((P.info? f.type).map (·.size)).getD 0))[x]?)=zt P t:=by
      funext i
      simp only[zt,hu,Array.getElem?_map]
      cases hf:fs[i]? with
      | none=>simp
      | some f=>
       have hmem:f ∈ fs.toList:=by simpa using Array.mem_of_getElem? hf
       have:=List.all_eq_true.1 hsz f hmem
       obtain⟨j,hj⟩:=Option.isSome_iff_exists.1 this
       simp[hj]
     simp only[Instr.build,Sem.run_bind,h1,Result.andThen_ok,run_underlying hu,hm',hplace,e1,Sem.run_pure]
    ·cases hsz
   ·cases hx
  ·cases hx
 ·exact buildArr_ok hp hx
theorem index_fslc_ok [Vars] {t e s:Nat} (he:ZS P t=some e) (hs:zo P e=some s) {nl full:Bool} {l:List AV} {v:Value} (hv:Rv G (.fslc nl full s l) v) {k:IntKind} {i:Int} {x:AV}
  (h0:0≤i) (hx:l[i.toNat]? = some x):∃cv,(Instr.indexAt t v (.int k i)).run P w=.ok cv w∧Rv G (.fptr (cellsOf x)) cv:=by
 simp only[Rv] at hv
 obtain⟨a,cap,rfl,h1,h2,h3,h4⟩:=hv
 have hlt:i.toNat < l.length:=(List.getElem?_eq_some_iff.1 hx).1
 cases nl with
 | true=>obtain⟨_,hc⟩:=h3 rfl;omega
 | false=>
  obtain⟨ad,rfl,hE⟩:=h4 rfl
  obtain⟨hsc,u,hu1,hu2,hu3⟩:=hE.get _ _ hx
  refine⟨.pointer (some (ad.add (i.toNat * s))),?_,?_⟩
  ·simp only[Instr.indexAt,Sem.run_bind,asIntOf,Sem.run_pure,Result.andThen_ok,Zj he]
   rw[if_pos ⟨h0,by omega⟩]
   simp only[Sem.run_bind,jO hs,Result.andThen_ok,Sem.run_pure]
  ·simp only[Rv]
   exact⟨_,_,rfl,hu1.cells hsc,by simpa using hu3⟩
theorem index_slc_ok [Vars] {t e s:Nat} (he:ZS P t=some e) (hs:zo P e=some s) {n off len:Nat} {v:Value} (hv:Rv G (.slc n off len s) v) {k:IntKind} {i:Int}
  (h0:0≤i) (hi:i < len):∃cv,(Instr.indexAt t v (.int k i)).run P w=.ok cv w∧Rv G (.ptr n (off + i.toNat * s)) cv:=by
 simp only[Rv] at hv
 obtain⟨b,lo,tt,cap,hr,rfl,h1,h2,h3⟩:=hv
 refine⟨.pointer (some ((⟨b,lo + off,none⟩:Addr).add (i.toNat * s))),?_,?_⟩
 ·simp only[Instr.indexAt,Sem.run_bind,asIntOf,Sem.run_pure,Result.andThen_ok,Zj he]
  rw[if_pos ⟨h0,hi⟩]
  simp only[Sem.run_bind,jO hs,Result.andThen_ok,Sem.run_pure]
 ·simp only[Rv]
  exact⟨b,lo,tt,hr,by rw[z7,Nat.add_assoc]⟩
def Q4 (z:AV) (n:Nat):List AV:=(List.replicate n (cellsOf z)).flatten
theorem jY {G:Gh} {l:List AV} {vs:List Value} (h:RvL G l vs):∀n:Nat,RvL G (List.replicate n l).flatten (List.replicate n vs).flatten
 | 0=>by simp[RvL]
 | n + 1=>by simp only[List.replicate_succ,List.flatten_cons];exact RvL.append h (jY h n)
theorem Qn (zero:Array Value):∀(n:Nat),(0 < zero.size)→((Array.range (n * zero.size)).map (fun i=>zero[i % zero.size]!)).toList=(List.replicate n zero.toList).flatten
 | 0,_=>by simp
 | n + 1,h=>by
  have ih:=Qn zero n h
  rw[List.replicate_succ',List.flatten_append,←ih]
  simp only[List.flatten_cons,List.flatten_nil,List.append_nil,Array.toList_map,Array.toList_range]
  rw[show (n + 1) * zero.size=n * zero.size + zero.size by rw[Nat.succ_mul],List.range_add,List.map_append,List.map_map]
  congr 1
  apply List.ext_getElem
  ·simp
  ·intro j h1 h2
   simp only[List.length_map,List.length_range] at h1
   simp only[List.getElem_map,List.getElem_range,Function.comp,Array.getElem_toList]
   rw[Nat.add_comm,Nat.add_mul_mod_self_right,Nat.mod_eq_of_lt h1]
   exact getElem!_pos zero j h1
end
end Go.AM
namespace Go.AM
open Go.RowKit
theorem Inv.drew [Vars] {w0:World} {G:Gh} {h:zI} {w:World} (I:Inv w0 G h w):Inv w0 G h w.drew:=by
 refine⟨I.below.drew,I.imm,fun n o e=>?_,I.disj,I.sep,I.oth.keep rfl rfl rfl fun _ _ e _=>e⟩
 exact (I.obj n o e).keep (VLe.refl G) (Nat.le_refl _) (fun _ _ _ _=>⟨rfl,rfl⟩) (fun _ _ _=>rfl) (fun _ _ _ hp=>hp)
theorem Inv.drop [Vars] {w0:World} {G:Gh} {h:zI} {w:World} (I:Inv w0 G h w) (n:Nat):Inv w0 G (h.upd n none) w:=by
 have old:∀m p,h.upd n none m=some p→h m=some p:=fun m p e=>by
  by_cases hm:m=n
  ·subst hm;rw[zD] at e;cases e
  ·rwa [zB _ _ _ _ hm] at e
 exact⟨I.below,I.imm,fun m o e=>I.obj m o (old m o e),fun m k p q r s hne e1 e2=>I.disj m k p q r s hne (old m p e1) (old k q e2),fun m o r a v e=>I.sep m o r a v (old m o e),I.oth⟩
theorem Inv.sub [Vars] {w0:World} {G:Gh} {h h':zI} {w:World} (I:Inv w0 G h w) (hs:∀n o,h' n=some o→h n=some o):Inv w0 G h' w:=
 ⟨I.below,I.imm,fun m o e=>I.obj m o (hs m o e),fun m k p q r s hne e1 e2=>I.disj m k p q r s hne (hs m p e1) (hs k q e2),fun m o r a v e=>I.sep m o r a v (hs m o e),I.oth⟩
theorem Inv.reg [Vars] {w0:World} {G G':Gh} {h:zI} {w:World} (I:Inv w0 G h w) (hi:G'.imm=G.imm) (h1:G'.own=G.own) (h2:G'.base=G.base) (h3:G'.lps=G.lps) (hr:∀n o,h n=some o→G'.reg n=G.reg n)
  (hv:∀n o,h n=some o→ObjOk w0 G w n o→ObjOk w0 G' w n o):Inv w0 G' h w:=
 ⟨I.below,fun a v e=>I.imm a v (hi ▸ e),fun n o e=>hv n o e (I.obj n o e),fun m k p q r s hne e1 e2 h1 h2=>I.disj m k p q r s hne e1 e2 (hr m p e1 ▸ h1) (hr k q e2 ▸ h2),
   fun m o r a v e h1 h2=>I.sep m o r a v e (hr m o e ▸ h1) (hi ▸ h2),I.oth.keep h1 h2 h3 (KDL.refl w) (fun _ _ e=>.inl (hi ▸ e)) (fun _ _ e=>hi ▸ e)⟩
theorem Inv.rename [Vars] {w0:World} {G:Gh} {h:zI} {w:World} (I:Inv w0 G h w) {m nm:Nat} (hnm:G.reg nm=none) {l:List AV} (hm:h m=some (.cells l)) {b lo t:Nat} (hr:G.reg m=some (b,lo,t)) {off:Nat} (ho:off≤l.length) :
  Inv w0 (G.set nm (b,lo + off,t - off)) ((h.upd m none).upd nm (some (.cells (l.drop off)))) w:=by
 have hG:GLe G (G.set nm (b,lo + off,t - off)):=Gh.le_set hnm
 obtain⟨r,vs,h1,ok⟩:=I.obj m _ hm
 rw[hr] at h1;cases h1
 have hlen:=ok.len
 simp only at hlen
 have hmn:m≠nm:=fun e=>by rw[e,hnm] at hr;cases hr
 have old:∀n p,n≠nm→((h.upd m none).upd nm (some (.cells (l.drop off)))) n=some p→n≠m∧h n=some p:=fun n p hn e=>by
  rw[zB _ _ _ _ hn] at e
  by_cases hm:n=m
  ·subst hm;rw[zD] at e;cases e
  ·rw[zB _ _ _ _ hm] at e;exact⟨hm,e⟩
 refine⟨I.below,I.imm,fun n o e=>?_,?_,?_,I.oth.keep rfl rfl rfl (KDL.refl w)⟩
 ·by_cases hn:n=nm
  ·subst hn
   rw[zD] at e;cases e
   refine⟨_,vs.drop off,Gh.set_same,ok.base,ok.lt,by simp only[List.length_drop];omega,?_,(ok.rel.drop off).mono hG.v,fun j v e=>?_,fun j hj=>?_,fun j hj=>?_⟩
   ·exact List.all_eq_true.2 fun y hy=>List.all_eq_true.1 ok.sc y (List.mem_of_mem_drop hy)
   ·rw[List.getElem?_drop] at e;have:=ok.val _ _ e;simpa [Nat.add_assoc] using this
   ·have:=ok.some (off + j) (by simp only at hj ⊢;omega);simpa [Nat.add_assoc] using this
   ·have:=ok.free (off + j) (by simp only at hj ⊢;omega);simpa [Nat.add_assoc] using this
  ·obtain⟨_,e⟩:=old n o hn e
   exact (I.obj n o e).keep hG.v (Nat.le_refl _) (fun _ _ _ _=>⟨rfl,rfl⟩) (fun _ _ _=>rfl) (fun _ _ _ hp=>hp)
 ·intro n k p q r s hnk e1 e2 h1 h2
  by_cases hn:n=nm
  ·subst hn
   rw[Gh.set_same] at h1;cases h1
   obtain⟨hkm,e2⟩:=old k q (Ne.symm hnk) e2
   rw[Gh.set_ne (Ne.symm hnk)] at h2
   rcases I.disj m k _ _ _ _ (Ne.symm hkm) hm e2 hr h2 with h | h | h
   ·exact Or.inl h
   ·exact Or.inr (Or.inl (by simp only at h ⊢;omega))
   ·exact Or.inr (Or.inr (by simp only at h ⊢;omega))
  ·obtain⟨hnm',e1'⟩:=old n p hn e1
   rw[Gh.set_ne hn] at h1
   by_cases hk:k=nm
   ·subst hk
    rw[Gh.set_same] at h2;cases h2
    rcases I.disj n m _ _ _ _ hnm' e1' hm h1 hr with h | h | h
    ·exact Or.inl h
    ·exact Or.inr (Or.inl (by simp only at h ⊢;omega))
    ·exact Or.inr (Or.inr (by simp only at h ⊢;omega))
   ·obtain⟨_,e2⟩:=old k q hk e2
    rw[Gh.set_ne hk] at h2
    exact I.disj n k p q r s hnk e1' e2 h1 h2
 ·intro n p r a v e1 h1 ei hin
  by_cases hn:n=nm
  ·subst hn
   rw[Gh.set_same] at h1;cases h1
   exact I.sep m _ _ a v hm hr ei ⟨hin.1,by have:=hin.2.1;simp only at this ⊢;omega,by have:=hin.2.2;have:=hin.2.1;simp only at *;omega⟩
  ·obtain⟨_,e1⟩:=old n p hn e1
   rw[Gh.set_ne hn] at h1
   exact I.sep n p r a v e1 h1 ei hin
noncomputable def Gh.freeze (G : Gh) (w : World) (r : Nat × Nat × Nat) : Gh := { G with imm := fun a => open Classical in if InReg r a then w.cell? a else G.imm a }
theorem Gh.le_freeze [Vars] {w0:World} {G:Gh} {h:zI} {w:World} (I:Inv w0 G h w) {n:Nat} {o:AObj} (hn:h n=some o) {r:Nat × Nat × Nat} (hr:G.reg n=some r):GLe G (G.freeze w r):=
 ⟨fun _ _ e=>e,fun a v e=>by
   have:¬InReg r a:=I.sep n o r a v hn hr e
   simp only[Gh.freeze,if_neg this];exact e,rfl,rfl,fun _ e=>e⟩
theorem Inv.freeze [Vars] {w0:World} {G:Gh} {h:zI} {w:World} (I:Inv w0 G h w) {n:Nat} {o:AObj} (hn:h n=some o) {r:Nat × Nat × Nat} (hr:G.reg n=some r):Inv w0 (G.freeze w r) (h.upd n none) w:=by
 have hG:=Gh.le_freeze I hn hr
 have old:∀m p,h.upd n none m=some p→m≠n∧h m=some p:=fun m p e=>by
  by_cases hm:m=n
  ·subst hm;rw[zD] at e;cases e
  ·rw[zB _ _ _ _ hm] at e;exact⟨hm,e⟩
 refine⟨I.below,fun a v e=>?_,fun m p e=>?_,fun m k p q r s hne e1 e2 h1 h2=>I.disj m k p q r s hne (old m p e1).2 (old k q e2).2 h1 h2,fun m p s a v e h1 ei hin=>?_,I.oth.keep rfl rfl rfl (KDL.refl w) (fun a v e=>by
  simp only[Gh.freeze] at e
  split at e
  ·rename_i hc;exact .inr (by rw[hc.1];exact (I.obj n _ hn).base hr)
  ·exact .inl e) hG.imm⟩
 ·simp only[Gh.freeze] at e
  split at e
  ·exact e
  ·exact I.imm a v e
 ·exact (I.obj m p (old m p e).2).keep hG.v (Nat.le_refl _) (fun _ _ _ _=>⟨rfl,rfl⟩) (fun _ _ _=>rfl) (fun _ _ _ hp=>hp)
 ·obtain⟨hm,e⟩:=old m p e
  simp only[Gh.freeze] at ei
  split at ei
  ·rename_i hir
   rcases I.disj m n _ _ _ _ hm e hn h1 hr with h | h | h
   ·exact h (by rw[←hin.1,hir.1])
   ·have:=hin.2.2;have:=hir.2.1;omega
   ·have:=hin.2.1;have:=hir.2.2;omega
  ·exact I.sep m p s a v e h1 ei hin
def Gh.addImm (G:Gh) (b:Nat) (c:Array Value):Gh:={G with imm:=fun a=>if a.block=b∧a.spot=none then c[a.off]? else G.imm a}
theorem Inv.allocImm [Vars] {w0:World} {G:Gh} {h:zI} {w:World} (I:Inv w0 G h w) (c:Array Value) (e:TypeId):Inv w0 (G.addImm w.heap.size c) h (w.alloc (.cells c e))∧GLe G (G.addImm w.heap.size c):=by
 have hG:GLe G (G.addImm w.heap.size c):=⟨fun _ _ e=>e,fun a v e=>by
  have:=I.imm_lt e
  simp only[Gh.addImm]
  rw[if_neg (by omega)];exact e,rfl,rfl,fun _ e=>e⟩
 have hold:∀k,k < w.heap.size→(w.alloc (.cells c e)).heap[k]? = w.heap[k]?:=fun k hk=>Below.heap_alloc w _ k hk
 refine⟨⟨I.below.alloc I.below.size _,fun a v ei=>?_,fun n o en=>?_,I.disj,fun n o r a v en hr ei hin=>?_,I.oth.keep rfl rfl rfl (KDL.alloc w _) (fun a v e=>by
  simp only[Gh.addImm] at e
  split at e
  ·rename_i hc;exact .inr (by rw[hc.1];exact I.below.size)
  ·exact .inl e) hG.imm⟩,hG⟩
 ·simp only[Gh.addImm] at ei
  split at ei
  ·rename_i hb
   obtain⟨hb1,hb2⟩:=hb
   have:a=⟨w.heap.size,a.off,none⟩:=by cases a;simp_all
   rw[this,World.cell?_alloc_new];exact ei
  ·rw[cell?_congr (hold _ (I.imm_lt ei))];exact I.imm a v ei
 ·refine (I.obj n o en).keep hG.v (by simp) (fun r hr a ha=>?_) (fun r hr _=>hold _ ((I.obj n o en).lt hr)) (fun r p' hr hp=>by rw[Zr (hold _ ((I.obj n o en).lt hr))];exact hp)
  have:=hold a.block (by rw[ha.1];exact (I.obj n o en).lt hr)
  exact⟨cell?_congr this,frozen?_congr this⟩
 ·simp only[Gh.addImm] at ei
  split at ei
  ·rename_i hb
   have:=(I.obj n o en).lt hr
   have:=hin.1
   omega
  ·exact I.sep n o r a v en hr ei hin
def chunk (s:Nat):Nat→List AV→List (List AV)
 | 0,_=>[]
 | n + 1,l=>l.take s :: chunk s n (l.drop s)
def mkElem (agg:Bool) (c:List AV):AV:=if agg then .agg c else c.headD .undef
def JX (agg:Bool) (s n:Nat) (l:List AV):List AV:=(chunk s n l).map (mkElem agg)
theorem chunk_length (s:Nat):∀(n:Nat) (l:List AV),(chunk s n l).length=n
 | 0,_=>rfl
 | n + 1,l=>by simp[chunk,chunk_length s n]
theorem ju [Vars] (agg:Bool) (s n:Nat) (l:List AV):(JX agg s n l).length=n:=by simp[JX,chunk_length]
theorem qm {G:Gh} {agg:Bool} {s:Nat} (a:Addr) (has:agg=false→s=1):∀(n i:Nat) (l:List AV) (vs:List Value),RvL G l vs→l.all AV.scalar=true→n * s≤l.length→
  (∀j v,vs[j]? = some v→G.imm (a.add (i + j))=some v)→RvE G a s i (JX agg s n l)
 | 0,i,l,vs,_,_,_,_=>by simp[JX,chunk,RvE]
 | n + 1,i,l,vs,hr,hs,hl,hi=>by
  simp only[JX,chunk,List.map_cons,RvE]
  have hlen:=hr.length
  have hl':s + n * s≤l.length:=by rw[Nat.succ_mul] at hl;omega
  refine⟨?_,?_⟩
  ·cases agg with
   | true=>
    simp only[mkElem,if_true,cellsOf]
    refine⟨List.all_eq_true.2 fun y hy=>List.all_eq_true.1 hs y (List.mem_of_mem_take hy),.agg (vs.take s).toArray,?_,?_,?_⟩
    ·simp only[Rv];exact⟨_,rfl,hr.take s⟩
    ·simp only[Value.cells,List.size_toArray,List.length_take];omega
    ·intro j v e
     simp only[Value.cells] at e
     rw[List.getElem?_take] at e
     split at e
     ·rw[jQ];exact hi j v e
     ·cases e
   | false=>
    have hs1:=has rfl
    subst hs1
    cases l with
    | nil=>simp at hl'
    | cons x r=>
     simp only[RvL] at hr
     obtain⟨v,vr,rfl,h1,h2⟩:=hr
     simp only[List.all_cons,Bool.and_eq_true] at hs
     have hone:=h1.oneCell hs.1
     have hcell:cellsOf x=[x]:=by cases x <;> simp_all [AV.scalar,cellsOf]
     have hvc:v.cells = #[v]:=by cases v <;> simp_all [Value.cells,Value.oneCell']
     simp only[mkElem,List.take_succ_cons,List.take_zero,List.headD_cons,Bool.false_eq_true,if_false]
     refine⟨by rw[hcell];simp[hs.1],v,h1,by rw[hvc];rfl,?_⟩
     intro j u e
     rw[hvc] at e
     cases j with
     | zero=>simp at e;subst e;simp only[Addr.add_zero'];simpa using hi 0 v (by simp)
     | succ j=>simp at e
  ·refine qm a has n (i + s) (l.drop s) (vs.drop s) (hr.drop s) ?_ (by rw[List.length_drop];omega) (fun j v e=>?_)
   ·exact List.all_eq_true.2 fun y hy=>List.all_eq_true.1 hs y (List.mem_of_mem_drop hy)
   ·rw[List.getElem?_drop] at e
    have:=hi _ _ e
    rwa [show i + (s + j)=i + s + j by omega] at this
theorem freeze_slc [Vars] {w0:World} {G:Gh} {h:zI} {w:World} (I:Inv w0 G h w) {n off len s:Nat} {l:List AV} (hn:h n=some (.cells l)) {r:Nat × Nat × Nat} (hr:G.reg n=some r) (agg:Bool) (has:agg=false→s=1)
  (hle:off + len * s≤l.length) {v:Value} (hv:Rv G (.slc n off len s) v):Rv (G.freeze w r) (.fslc false false s (JX agg s len (l.drop off))) v:=by
 simp only[Rv] at hv
 obtain⟨b,lo,t,cap,hr',rfl,h1,h2,h3⟩:=hv
 rw[hr] at hr';cases hr'
 obtain⟨r',vs,hr'',ok⟩:=I.obj n _ hn
 rw[hr] at hr'';cases hr''
 have hok:=ok.len
 have hvl:=ok.rel.length
 simp only at hok
 simp only[Rv]
 refine⟨_,cap,by rw[ju],by rw[ju];exact h1,by simp,by simp,fun _=>⟨_,rfl,?_⟩⟩
 refine qm _ has len 0 (l.drop off) (vs.drop off) ((ok.rel.drop off).mono (Gh.le_freeze I hn hr).v) ?_ (by rw[List.length_drop];omega) (fun j v e=>?_)
 ·exact List.all_eq_true.2 fun y hy=>List.all_eq_true.1 ok.sc y (List.mem_of_mem_drop hy)
 ·rw[List.getElem?_drop] at e
  have hj:off + j < vs.length:=(List.getElem?_eq_some_iff.1 e).1
  have:=ok.val _ _ e
  simp only[Nat.zero_add,z7,Gh.freeze]
  rw[if_pos (by exact⟨rfl,by simp;omega,by simp only;omega⟩)]
  simpa [Nat.add_assoc] using this
end Go.AM
namespace Go.AM
open Go.RowKit
section
variable {P : Program} {w0 : World} {G : Gh} {h : zI} {w : World} {nm : Nat}
theorem info_of_sz {e s:Nat} (hs:zo P e=some s):∃i,P.info? e=some i∧i.size=s:=by
 simp only[zo,Option.map_eq_some_iff] at hs;exact hs
def J3 (P:Program) (t len:Nat) (ps:List (Nat × AV)):Option AV:=
 match ZS P t with
 | none=>none
 | some e=>match lay P e,zd P e with
  | some (s,agg),some z=>
   if (cellsOf z).length=s∧0 < s∧len * s≤2 ^ 20∧(cellsOf z).all AV.scalar=true∧(agg=false→s=1) then
    (aFill (fun i=>some (i * s,s)) (Q4 z len) ps).map fun r=>.fslc false (len == 0) s (JX agg s len r)
   else none
  | _,_=>none
theorem sz_of_lay {e s:Nat} {agg:Bool} (h:lay P e=some (s,agg)):zo P e=some s:=by
 unfold lay at h
 split at h
 ·rename_i i d h1 h2;simp only[Option.some.injEq,Prod.mk.injEq] at h;simp[zo,h1,h.1]
 ·cases h
theorem zrow_all {z:AV} (hz:(cellsOf z).all AV.scalar=true) (n:Nat):(Q4 z n).all AV.scalar=true:=by
 induction n with
 | zero=>simp[Q4]
 | succ n ih=>
  simp only[Q4,List.replicate_succ,List.flatten_cons,List.all_append,Bool.and_eq_true]
  exact⟨hz,ih⟩
theorem zrow_length {z:AV} {s:Nat} (hz:(cellsOf z).length=s) (n:Nat):(Q4 z n).length=n * s:=by
 simp[Q4,hz]
theorem buildSlice_ok [Vars] (I:Inv w0 G h w) {t len:Nat} {ps:List (Nat × AV)} {qs:Array (Nat × Value)} (hp:RvP G ps qs.toList) {x:AV} (hx:J3 P t len ps=some x) :
  ∃cv w' G',(Instr.buildSlice t len qs).run P w=.ok cv w'∧G'.reg=G.reg∧GLe G G'∧Inv w0 G' h w'∧Rv G' x cv:=by
 unfold J3 at hx
 cases he:ZS P t with
 | none=>simp[he] at hx
 | some e=>
  simp only[he] at hx
  cases hl:lay P e with
  | none=>simp[hl] at hx
  | some sg=>
   obtain⟨s,agg⟩:=sg
   cases hz:zd P e with
   | none=>simp[hl,hz] at hx
   | some z=>
    simp only[hl,hz] at hx
    split at hx
    ·rename_i hc
     obtain⟨hz1,hs0,hlim,hzs,has⟩:=hc
     simp only[Option.map_eq_some_iff] at hx
     obtain⟨r,hr,rfl⟩:=hx
     obtain⟨zv,hzv,hzr⟩:=JS hz G w
     have hzc:=hzr.cells hzs
     have hzl:=hzc.length
     simp only[Array.length_toList] at hzl
     have hszv:zv.cells.size=s:=by omega
     have hrow:RvL G (Q4 z len) ((Array.range (len * s)).map (fun i=>zv.cells[i % zv.cells.size]!)).toList:=by
      have:=Qn zv.cells len (by omega)
      rw[hszv] at this ⊢
      rw[this]
      exact jY hzc len
     obtain⟨cells',e1,e2,e3,e4⟩:=fill_ok (fun i=>some (i * s,s)) ps qs.toList hp _ _ hrow r hr
     have hrall:=e3 (zrow_all hzs len)
     rw[zrow_length hz1] at e4
     obtain⟨I',hG⟩:=I.allocImm cells' e
     refine⟨.slice (some ⟨w.heap.size,0,none⟩) len len,w.alloc (.cells cells' e),G.addImm w.heap.size cells',?_,rfl,hG,I',?_⟩
     ·have hsz:=jO (sz_of_lay hl) w
      have hnot:¬(16777216 < len * s):=by
       have:(2:Nat) ^ 20=1048576:=by decide
       omega
      by_cases h0:len * s=0
      ·have hlen0:len=0:=by
        rcases Nat.mul_eq_zero.1 h0 with h | h <;> omega
       subst hlen0
       simp only[Nat.zero_mul,Array.range_zero',List.map_toArray,List.map_nil] at e1 hr
       simp only[Instr.buildSlice,Sem.run_bind,Zj he,Result.andThen_ok,hsz,Nat.zero_mul]
       simp[Array.range_zero'] at e1 ⊢
       simp[e1,newRow]
      ·simp only[Instr.buildSlice,Sem.run_bind,Zj he,Result.andThen_ok,hsz]
       rw[if_neg (by simpa using hnot)]
       simp only[Sem.run_bind,if_neg h0,hzv,Result.andThen_ok,Sem.run_pure,e1]
       simp[newRow]
     ·simp only[Rv]
      refine⟨_,len,by rw[ju],by rw[ju];exact Nat.le_refl _,fun _=>by rw[ju],by simp,fun _=>⟨_,rfl,?_⟩⟩
      refine qm _ has len 0 r cells'.toList (e2.mono hG.v) hrall (by omega) (fun j v ej=>?_)
      simp only[Nat.zero_add,z7,Gh.addImm]
      simpa using ej
    ·cases hx
def aMake (P:Program) (t:Nat) (n m:Int):Option (Nat × List AV × Nat):=
 match ZS P t with
 | none=>none
 | some e=>match zo P e,ZC P e,zd P e with
  | some s,some b,some z=>
   if (cellsOf z).length=s∧0 < s∧0≤n∧n≤m∧m * b≤2 ^ 47∧m≤2 ^ 47∧(cellsOf z).all AV.scalar=true then some (s,Q4 z n.toNat,n.toNat) else none
  | _,_,_=>none
theorem make_ok [Vars] (I:Inv w0 G h w) (hnm:G.reg nm=none) {t:Nat} {n m:Int} {s k:Nat} {l:List AV} (hx:aMake P t n m=some (s,l,k)) (k1 k2:IntKind) :
  ∃cv w' r,(Instr.makeSlice t (.int k1 n) (.int k2 m)).run P w=.ok cv w'∧Inv w0 (G.set nm r) (h.upd nm (some (.cells l))) w'∧Rv (G.set nm r) (.slc nm 0 k s) cv:=by
 unfold aMake at hx
 cases he:ZS P t with
 | none=>simp[he] at hx
 | some e=>
  simp only[he] at hx
  cases hs:zo P e with
  | none=>simp[hs] at hx
  | some s'=>
  cases hb:ZC P e with
  | none=>simp[hs,hb] at hx
  | some b=>
  cases hz:zd P e with
  | none=>simp[hs,hb,hz] at hx
  | some z=>
   simp only[hs,hb,hz] at hx
   split at hx
   ·rename_i hc
    obtain⟨hz1,hs0,h0,hnm',hby,hmx,hzs⟩:=hc
    simp only[Option.some.injEq,Prod.mk.injEq] at hx
    obtain⟨rfl,rfl,rfl⟩:=hx
    obtain⟨i,hi,his⟩:=info_of_sz hs
    obtain⟨i',hi',hib⟩:∃i,P.info? e=some i∧i.bytes=b:=by simpa only[ZC,Option.map_eq_some_iff] using hb
    rw[hi] at hi';cases hi'
    obtain⟨zv,hzi⟩:∃zv,i.zero=some zv∧z=jN zv:=by
     simp only[zd,hi,Option.bind_some,Option.map_eq_some_iff] at hz
     obtain⟨v,h1,h2⟩:=hz;exact⟨v,h1,h2.symm⟩
    have hzr:Rv G z zv:=hzi.2 ▸ jy G zv
    have hzc:=hzr.cells hzs
    have hzl:=hzc.length
    simp only[Array.length_toList] at hzl
    have hszv:zv.cells.size=s':=by omega
    have h47:(2:Int) ^ 47=140737488355328:=by decide
    rw[h47] at hby hmx
    have hrun:=run_make (P:=P) w t e i zv (und_eltOf he) hi hzi.1 k1 k2 n m h0 hnm' (by rw[hib,Int.mul_comm];omega) (by omega)
    have hmade:(madeCells zv.cells (m.toNat * s')).toList=(List.replicate m.toNat zv.cells.toList).flatten:=by
     have:=Qn zv.cells m.toNat (by omega)
     rw[hszv] at this
     simp only[madeCells]
     rw[hszv];exact this
    have hkm:n.toNat≤m.toNat:=by omega
    have hpre:∀(j:Nat) (v:Value),(List.replicate n.toNat zv.cells.toList).flatten[j]? = some v→(madeCells zv.cells (m.toNat * s'))[j]? = some v:=by
     intro j v ej
     rw[←Array.getElem?_toList,hmade,show m.toNat=n.toNat + (m.toNat - n.toNat) by omega,←List.replicate_append_replicate,List.flatten_append]
     rw[List.getElem?_append_left (List.getElem?_eq_some_iff.1 ej).1]
     exact ej
    rw[his] at hrun
    refine⟨_,_,_,hrun,I.allocCells hnm _ e (Q4 z n.toNat) _ (jY hzc n.toNat) hpre (zrow_all hzs _),?_⟩
    simp only[Rv]
    refine⟨_,_,_,m.toNat,Gh.set_same,rfl,hkm,?_,hs0⟩
    simp[size_madeCells]
   ·cases hx
end
end Go.AM
namespace Go.AM
open Go.RowKit
section
variable {P : Program} {w0 : World} {G : Gh} {h : zI} {w : World} {nm : Nat}
def flat (l:List AV):List AV:=(l.map cellsOf).flatten
theorem RvE.flat {G:Gh} {a:Addr} {s:Nat}:∀{l:List AV} {i:Nat},RvE G a s i l→(flat l).all AV.scalar=true∧∃vs,RvL G (flat l) vs∧vs.length=l.length * s∧∀j v,vs[j]? = some v→G.imm (a.add (i + j))=some v
 | [],i,_=>⟨by simp[AM.flat],[],by simp[AM.flat,RvL],by simp,by simp⟩
 | x :: r,i,hh=>by
  simp only[RvE] at hh
  obtain⟨⟨hs,v,h1,h2,h3⟩,h4⟩:=hh
  obtain⟨k1,vs,k2,k3,k4⟩:=RvE.flat h4
  refine⟨?_,v.cells.toList ++ vs,?_,?_,?_⟩
  ·simp only[AM.flat,List.map_cons,List.flatten_cons,List.all_append,Bool.and_eq_true];exact⟨hs,k1⟩
  ·simp only[AM.flat,List.map_cons,List.flatten_cons];exact RvL.append (h1.cells hs) k2
  ·simp only[List.length_append,Array.length_toList,List.length_cons,h2,k3];rw[Nat.succ_mul];omega
  ·intro j u e
   rcases Nat.lt_or_ge j s with hj | hj
   ·rw[List.getElem?_append_left (by simpa [h2] using hj)] at e
    have:=h3 j u e
    rwa [jQ] at this
   ·rw[List.getElem?_append_right (by simpa [h2] using hj)] at e
    simp only[Array.length_toList,h2] at e
    have:=k4 _ _ e
    rwa [show i + s + (j - s)=i + j by omega] at this
def jd (h:zI) (size:Nat):AV→Option (Nat × List AV)
 | .fslc _ _ s l=>if s=size then some (l.length,flat l) else if l.length=0 then some (0,[]) else none
 | .slc n off len s=>if s=size then match h n with
   | some (.cells c)=>if off + len * s≤c.length then some (len,(c.drop off).take (len * s)) else none
   | _=>none
  else none
 | _=>none
def SrcOk (G:Gh) (w:World) (size n:Nat) (xs:List AV) (v:Value):Prop:=
 xs.all AV.scalar=true∧∃a c news,v=.slice a n c∧news.length=n * size∧RvL G xs news∧(a=none→n=0∧c=0)∧∀ad,a=some ad→∀(j:Nat) (u:Value),news[j]? = some u→w.cell? (ad.add j)=some u
theorem src_ok [Vars] (I:Inv w0 G h w) {size n:Nat} {x:AV} {v:Value} (hv:Rv G x v) {xs:List AV} (hx:jd h size x=some (n,xs)):SrcOk G w size n xs v:=by
 cases x with
 | fslc nl full s l=>
  simp only[jd] at hx
  simp only[Rv] at hv
  obtain⟨a,cap,rfl,h1,h2,h3,h4⟩:=hv
  have hnil:l.length=0→l=[]:=fun e=>List.length_eq_zero_iff.1 e
  split at hx
  ·rename_i hs
   simp only[Option.some.injEq,Prod.mk.injEq] at hx
   obtain⟨rfl,rfl⟩:=hx
   subst hs
   cases nl with
   | true=>
    obtain⟨rfl,rfl⟩:=h3 rfl
    have:l=[]:=hnil (by omega)
    subst this
    exact⟨by simp[AM.flat],none,0,[],rfl,by simp,by simp[AM.flat,RvL],fun _=>⟨rfl,rfl⟩,by simp⟩
   | false=>
    obtain⟨ad,rfl,hE⟩:=h4 rfl
    obtain⟨k1,vs,k2,k3,k4⟩:=hE.flat
    refine⟨k1,some ad,cap,vs,rfl,k3,k2,by simp,fun ad' e j u ej=>?_⟩
    cases e
    have:=I.imm _ _ (k4 j u ej)
    rwa [Nat.zero_add] at this
  ·split at hx
   ·rename_i hl
    simp only[Option.some.injEq,Prod.mk.injEq] at hx
    obtain⟨rfl,rfl⟩:=hx
    refine⟨by simp,a,cap,[],by rw[hl],by simp,by simp[RvL],?_,by simp⟩
    rintro rfl
    refine⟨rfl,?_⟩
    cases nl with
    | true=>exact (h3 rfl).2
    | false=>obtain⟨ad,e,_⟩:=h4 rfl;cases e
   ·cases hx
 | slc m off len s=>
  simp only[jd] at hx
  split at hx
  ·rename_i hs
   subst hs
   split at hx
   ·rename_i c hm
    split at hx
    ·rename_i hle
     simp only[Option.some.injEq,Prod.mk.injEq] at hx
     obtain⟨rfl,rfl⟩:=hx
     simp only[Rv] at hv
     obtain⟨b,lo,t,cap,hr,rfl,h1,h2,h3⟩:=hv
     obtain⟨r,us,hr',ok⟩:=I.obj m _ hm
     rw[hr] at hr';cases hr'
     have hul:=ok.rel.length
     refine⟨List.all_eq_true.2 fun y hy=>List.all_eq_true.1 ok.sc y (List.mem_of_mem_drop (List.mem_of_mem_take hy)),some _,cap,(us.drop off).take (len * s),rfl,by simp only[List.length_take,List.length_drop];omega,(ok.rel.drop off).take _,by simp,fun ad e j u ej=>?_⟩
     cases e
     rw[List.getElem?_take] at ej
     split at ej
     ·rw[List.getElem?_drop] at ej
      rw[z7,Nat.add_assoc]
      exact ok.val _ _ ej
     ·cases ej
    ·cases hx
   ·cases hx
  ·cases hx
 | _=>simp[jd] at hx
def Z6 (P:Program) (nm:Nat) (t:TypeId) (d x:AV) (h:zI):Option (AV × zI):=
 match ZS P t with
 | none=>none
 | some e=>match zo P e,ZC P e,zd P e with
  | some s,some by_,some z=>
   if 0 < s∧(cellsOf z).length=s∧(cellsOf z).all AV.scalar=true∧by_≤2 ^ 20 then
    match jd h s x with
    | none=>none
    | some (n,xs)=>
     match d with
     | .fslc nl true s' l=>
      if s'=s∨l.length=0 then
       if n=0 then some (.fslc nl true s' l,h)
       else if l.length + n≤2 ^ 26 then some (.slc nm 0 (l.length + n) s,h.upd nm (some (.cells (flat l ++ xs))))
       else none
      else none
     | .slc m off len s'=>
      if s'=s then match h m with
       | some (.cells c)=>
        if off + (len + n) * s≤c.length then some (.slc m off (len + n) s,h.upd m (some (.cells (Za c (off + len * s) xs))))
        else if off + len * s=c.length∧len + n≤2 ^ 26 then some (.slc nm 0 (len + n) s,(h.upd m none).upd nm (some (.cells (c.drop off ++ xs))))
        else none
       | _=>none
      else none
     | _=>none
   else none
  | _,_,_=>none
theorem run_append_in {t ty e:TypeId} {i:TypeInfo} (ht:P.underlying t=some (.slice e)) (hi:P.info? e=some i) (b o sLen sCap:Nat) (a:Option Addr) (n c:Nat) (news:List Value) (hl:news.length=n * i.size)
  (ha:a=none→n=0∧c=0) (hnews:∀ad,a=some ad→∀(j:Nat) (v:Value),news[j]? = some v→w.cell? (ad.add j)=some v) (h1:∀u ∈ news,u.oneCell'=true) (hroom:sLen + n≤sCap)
  (hc:∀j,j < news.length→(w.cell? ⟨b,o + sLen * i.size + j,none⟩).isSome=true) (hf:∀j,j < news.length→w.frozen? ⟨b,o + sLen * i.size + j,none⟩=false) :
  (Builtin.append_ #[t,t] ty #[.slice (some ⟨b,o,none⟩) sLen sCap,.slice a n c]).run P w=.ok (.slice (some ⟨b,o,none⟩) (sLen + n) sCap) (w.setCells b (o + sLen * i.size) news):=by
 have hst:=run_storeCells_cells (P:=P) b (o + sLen * i.size) news 0 w (by simpa using hc) (by simpa using hf) h1
 simp only[Nat.add_zero] at hst
 cases a with
 | none=>
  obtain⟨rfl,rfl⟩:=ha rfl
  have:news=[]:=List.length_eq_zero_iff.1 (by simpa using hl)
  subst this
  simp only[Nat.add_zero] at hroom
  simp[Builtin.append_,run_underlying ht,sizeOf,typeInfo,hi,Builtin.lenOf,hroom,Builtin.firstCells,storeCells,World.setCells]
 | some ad=>
  have hfc:=run_firstCells_some (P:=P) w i.size n ad n c news hl (hnews ad rfl)
  simp[Builtin.append_,run_underlying ht,sizeOf,typeInfo,hi,Builtin.lenOf,hroom,hfc,Addr.add_lit,hst]
theorem append_ok [Vars] (I:Inv w0 G h w) (hnm:G.reg nm=none) {t ty:TypeId} {d x:AV} {dv xv:Value} (hd:Rv G d dv) (hxv:Rv G x xv) {r:AV} {h':zI} (hx:Z6 P nm t d x h=some (r,h')) :
  ∃cv w' G',(Builtin.append_ #[t,t] ty #[dv,xv]).run P w=.ok cv w'∧(∀k,k≠nm→G'.reg k=G.reg k)∧GLe G G'∧Inv w0 G' h' w'∧Rv G' r cv:=by
 unfold Z6 at hx
 cases he:ZS P t with
 | none=>simp[he] at hx
 | some e=>
 cases hs:zo P e with
 | none=>simp[he,hs] at hx
 | some s=>
 cases hb:ZC P e with
 | none=>simp[he,hs,hb] at hx
 | some by_=>
 cases hz:zd P e with
 | none=>simp[he,hs,hb,hz] at hx
 | some z=>
  simp only[he,hs,hb,hz] at hx
  split at hx
  ·rename_i hc
   obtain⟨hs0,hz1,hzs,hby⟩:=hc
   cases hsrc:jd h s x with
   | none=>simp[hsrc] at hx
   | some nx=>
    obtain⟨n,xs⟩:=nx
    simp only[hsrc] at hx
    obtain⟨hxs,a,c,news,rfl,hnl,hnr,ha,hnews⟩:=src_ok I hxv hsrc
    obtain⟨i,hi,his⟩:=info_of_sz hs
    obtain⟨i',hi',hib⟩:∃i,P.info? e=some i∧i.bytes=by_:=by simpa only[ZC,Option.map_eq_some_iff] using hb
    rw[hi] at hi';cases hi'
    obtain⟨zv,hzi⟩:∃zv,i.zero=some zv∧z=jN zv:=by
     simp only[zd,hi,Option.bind_some,Option.map_eq_some_iff] at hz
     obtain⟨v,h1,h2⟩:=hz;exact⟨v,h1,h2.symm⟩
    have hzr:Rv G z zv:=hzi.2 ▸ jy G zv
    have hzl:=(hzr.cells hzs).length
    simp only[Array.length_toList] at hzl
    have ht:=und_eltOf he
    have e20:(2:Nat) ^ 20=1048576:=by decide
    have e26:(2:Nat) ^ 26=67108864:=by decide
    rw[e20] at hby
    rw[e26] at hx
    have hbytes:∀k,k≤67108864→k * i.bytes≤70368744177664:=fun k hk=>by
     rw[hib]
     calc k * by_≤67108864 * 1048576:=Nat.mul_le_mul hk hby
      _=70368744177664:=by decide
    have hnewsOne:=hnr.oneCells hxs
    subst his
    have fresh:∀(olds:List Value) (ol:List AV) (sLen sCap:Nat),RvL G ol olds→ol.all AV.scalar=true→olds.length=sLen * i.size→sLen + n≤sCap→
      ∀(h2:zI),Inv w0 G h2 w.drew→
      Inv w0 (G.set nm (w.heap.size,0,(olds.toArray ++ news.toArray ++ Builtin.zeroCells zv.cells (sCap - (sLen + n))).size)) (h2.upd nm (some (.cells (ol ++ xs))))
       (w.drew.alloc (.cells (olds.toArray ++ news.toArray ++ Builtin.zeroCells zv.cells (sCap - (sLen + n))) e))∧
      Rv (G.set nm (w.heap.size,0,(olds.toArray ++ news.toArray ++ Builtin.zeroCells zv.cells (sCap - (sLen + n))).size)) (.slc nm 0 (sLen + n) i.size) (.slice (some ⟨w.heap.size,0,none⟩) (sLen + n) sCap):=by
     intro olds ol sLen sCap ho hos hol hcap h2 I2
     refine⟨I2.allocCells hnm _ e (ol ++ xs) (olds ++ news) (RvL.append ho hnr) (fun j v ej=>?_) (by simp[hos,hxs]),?_⟩
     ·rw[←Array.getElem?_toList]
      simp only[Array.toList_append]
      rw[List.getElem?_append_left (List.getElem?_eq_some_iff.1 ej).1]
      exact ej
     ·simp only[Rv]
      refine⟨_,_,_,sCap,Gh.set_same,rfl,hcap,?_,hs0⟩
      simp only[Array.size_append,List.size_toArray,size_zeroCells,hol,hnl,Nat.zero_add,hzl,hz1]
      rw[←Nat.add_mul,←Nat.add_mul]
      congr 1
      omega
    split at hx
    ·-- a full slice
     rename_i nl s' l
     split at hx
     ·rename_i hsl
      simp only[Rv] at hd
      obtain⟨da,dcap,rfl,k1,k2,k3,k4⟩:=hd
      have k2':=k2 trivial
      split at hx
      ·rename_i hn0
       simp only[Option.some.injEq,Prod.mk.injEq] at hx
       obtain⟨rfl,rfl⟩:=hx
       subst hn0
       have hnn:news=[]:=List.length_eq_zero_iff.1 (by simpa using hnl)
       subst hnn
       refine⟨.slice da l.length dcap,w,G,?_,fun _ _=>rfl,GLe.refl G,I,?_⟩
       ·have hle:l.length≤dcap:=k1
        have hfc:(Builtin.firstCells i.size 0 (.slice a 0 c)).run P w=.ok #[] w:=by
         cases a with
         | none=>simp[Builtin.firstCells]
         | some ad=>exact run_firstCells_some (P:=P) w i.size 0 ad 0 c [] (by simp) (by simp)
        cases da <;> simp[Builtin.append_,run_underlying ht,sizeOf,typeInfo,hi,Builtin.lenOf,hle,hfc,storeCells]
       ·simp only[Rv];exact⟨da,dcap,rfl,k1,k2,k3,k4⟩
      ·rename_i hn0
       split at hx
       ·rename_i hlim
        simp only[Option.some.injEq,Prod.mk.injEq] at hx
        obtain⟨rfl,rfl⟩:=hx
        have hb1:=hbytes _ hlim
        obtain⟨ad,rfl⟩:∃ad,a=some ad:=by
         cases a with
         | none=>exact absurd (ha rfl).1 hn0
         | some ad=>exact⟨ad,rfl⟩
        cases nl with
        | true=>
         obtain⟨rfl,hc0⟩:=k3 rfl
         have hl0:l=[]:=List.length_eq_zero_iff.1 (by omega)
         subst hl0
         subst hc0
         simp only[List.length_nil,Nat.zero_add] at hb1 hlim ⊢
         have hrun:=run_append_nil (P:=P) w t ty e i zv ht hi hzi.1 ad n c news hnl (hnews ad rfl) (by omega) (by omega) (by omega)
         obtain⟨f1,f2⟩:=fresh [] [] 0 (grownCap w n 0 e) (by simp[RvL]) (by simp) (by simp) (by simpa using grownCap_ge w n 0 e) h I.drew
         simp only[Nat.zero_add,List.nil_append,Array.empty_append] at f1 f2
         refine⟨_,_,_,hrun,fun k hk=>Gh.set_ne hk,Gh.le_set hnm,?_,f2⟩
         simpa [AM.flat] using f1
        | false=>
         obtain⟨ad',rfl,hE⟩:=k4 rfl
         have hE':∃vs,RvL G (AM.flat l) vs∧vs.length=l.length * i.size∧(AM.flat l).all AV.scalar=true∧∀(j:Nat) (v:Value),vs[j]? = some v→w.cell? (ad'.add j)=some v:=by
          rcases hsl with rfl | hl0
          ·obtain⟨q1,vs,q2,q3,q4⟩:=hE.flat
           exact⟨vs,q2,q3,q1,fun j v ej=>by have:=I.imm _ _ (q4 j v ej);rwa [Nat.zero_add] at this⟩
          ·have:l=[]:=List.length_eq_zero_iff.1 hl0
           subst this
           exact⟨[],by simp[AM.flat,RvL],by simp,by simp[AM.flat],by simp⟩
         obtain⟨vs,q1,q2,q3,q4⟩:=hE'
         have hrun:=run_append_grow (P:=P) w t ty e i zv ht hi hzi.1 ad' l.length dcap vs q2 q4 ad n c news hnl (hnews ad rfl) (by omega) (by omega) (growslice_fits (by omega) (by omega))
         obtain⟨f1,f2⟩:=fresh vs (AM.flat l) l.length (grownCap w (l.length + n) dcap e) q1 q3 q2 (grownCap_ge w _ _ e) h I.drew
         exact⟨_,_,_,hrun,fun k hk=>Gh.set_ne hk,Gh.le_set hnm,f1,f2⟩
       ·cases hx
     ·cases hx
    ·-- an owned slice
     rename_i m off len s'
     split at hx
     ·rename_i hss
      subst hss
      split at hx
      ·rename_i cc hm
       simp only[Rv] at hd
       obtain⟨b,lo,tt,cap,hr,rfl,k1,k2,k3⟩:=hd
       obtain⟨r',us,hr',ok⟩:=I.obj m _ hm
       rw[hr] at hr';cases hr'
       have hul:=ok.rel.length
       have hok:=ok.len
       simp only at hok
       have hxl:=hnr.length
       have hmul:(len + n) * i.size=len * i.size + n * i.size:=Nat.add_mul _ _ _
       have inplace:len + n≤cap→off + len * i.size≤cc.length→
         (Builtin.append_ #[t,t] ty #[.slice (some ⟨b,lo + off,none⟩) len cap,.slice a n c]).run P w=.ok (.slice (some ⟨b,lo + off,none⟩) (len + n) cap) (w.setCells b (lo + (off + len * i.size)) news)∧
         Inv w0 G (h.upd m (some (.cells (Za cc (off + len * i.size) xs)))) (w.setCells b (lo + (off + len * i.size)) news):=by
        intro hroom hle
        have hcapm:(len + n) * i.size≤cap * i.size:=Nat.mul_le_mul_right _ hroom
        have hrun:=run_append_in (P:=P) (w:=w) (ty:=ty) ht hi b (lo + off) len cap a n c news hnl ha hnews hnewsOne hroom
         (fun j hj=>by
           have:=ok.some (off + len * i.size + j) (by simp only;omega)
           simpa [Nat.add_assoc] using this)
         (fun j hj=>by
           have:=ok.free (off + len * i.size + j) (by simp only;omega)
           simpa [Nat.add_assoc] using this)
        rw[Nat.add_assoc lo off] at hrun
        exact⟨hrun,I.store hm hr (off + len * i.size) xs news hnr hxs hle (by simp only;omega)⟩
       split at hx
       ·rename_i hfit
        simp only[Option.some.injEq,Prod.mk.injEq] at hx
        obtain⟨rfl,rfl⟩:=hx
        have hroom:len + n≤cap:=by
         have:(len + n) * i.size≤cap * i.size:=by omega
         exact Nat.le_of_mul_le_mul_right this hs0
        obtain⟨g1,g2⟩:=inplace hroom (by omega)
        refine⟨_,_,G,g1,fun _ _=>rfl,GLe.refl G,g2,?_⟩
        simp only[Rv]
        exact⟨b,lo,tt,cap,hr,rfl,hroom,k2,k3⟩
       ·split at hx
        ·rename_i _ hend
         obtain⟨hend,hlim⟩:=hend
         simp only[Option.some.injEq,Prod.mk.injEq] at hx
         obtain⟨rfl,rfl⟩:=hx
         have hmn:m≠nm:=fun e=>by rw[e,hnm] at hr;cases hr
         by_cases hroom:len + n≤cap
         ·obtain⟨g1,g2⟩:=inplace hroom (by omega)
          have hsp:Za cc (off + len * i.size) xs=cc ++ xs:=by
           simp only[Za,hend,List.take_length]
           rw[List.drop_eq_nil_of_le (by omega),List.append_nil]
          rw[hsp] at g2
          have g3:=g2.rename (nm:=nm) hnm (zD _ _ _) hr (off:=off) (by simp only[List.length_append];omega)
          refine⟨_,_,G.set nm (b,lo + off,tt - off),g1,fun k hk=>Gh.set_ne hk,Gh.le_set hnm,?_,?_⟩
          ·have e1:((h.upd m (some (.cells (cc ++ xs)))).upd m none)=h.upd m none:=by
            funext k;by_cases hk:k=m <;> simp[zI.upd,hk]
           rw[e1] at g3
           rw[List.drop_append_of_le_length (by omega)] at g3
           exact g3
          ·simp only[Rv]
           exact⟨b,lo + off,tt - off,cap,Gh.set_same,by simp,hroom,by omega,k3⟩
         ·obtain⟨ad,rfl⟩:∃ad,a=some ad:=by
           cases a with
           | none=>have:=(ha rfl).1;omega
           | some ad=>exact⟨ad,rfl⟩
          have hb1:=hbytes _ hlim
          have hrun:=run_append_grow (P:=P) w t ty e i zv ht hi hzi.1 ⟨b,lo + off,none⟩ len cap (us.drop off) (by rw[List.length_drop];omega) (fun j v ej=>by
            rw[List.getElem?_drop] at ej
            have:=ok.val _ _ ej
            rw[z7,Nat.add_assoc];exact this) ad n c news hnl (hnews ad rfl) (by omega) (by omega) (growslice_fits (by omega) (by omega))
          obtain⟨f1,f2⟩:=fresh (us.drop off) (cc.drop off) len (grownCap w (len + n) cap e) (ok.rel.drop off)
           (List.all_eq_true.2 fun y hy=>List.all_eq_true.1 ok.sc y (List.mem_of_mem_drop hy)) (by rw[List.length_drop];omega) (grownCap_ge w _ _ e) (h.upd m none) (I.drop m).drew
          exact⟨_,_,_,hrun,fun k hk=>Gh.set_ne hk,Gh.le_set hnm,f1,f2⟩
        ·cases hx
      ·cases hx
     ·cases hx
    ·cases hx
  ·cases hx
end
end Go.AM
namespace Go.AM
open Go.RowKit
theorem putObj_below [Vars] {B:Nat} {a w:World} (h:BelowD B a w) {b:Nat} (hb:B≤b) (o:Obj):BelowD B a (w.putObj b o):=
 h.trans ⟨⟨rfl,rfl,rfl,by simp,fun k hk=>World.putObj_heap_other (by omega)⟩,fun _=>Nat.le_refl _⟩
theorem cell_putObj [Vars] {w:World} {b:Nat} {o o':Obj} (ho:w.heap[b]? = some o) (h:∀c e f,o≠.cells c e f) (h':∀c e f,o'≠.cells c e f) (a:Addr):(w.putObj b o').cell? a=w.cell? a∧(w.putObj b o').frozen? a=w.frozen? a:=by
 by_cases hab:a.block=b
 ·have hlt:b < w.heap.size:=(Array.getElem?_eq_some_iff.1 ho).1
  have e1:(w.putObj b o').heap[a.block]? = some o':=by rw[hab];exact World.putObj_heap_same hlt
  have e0:w.heap[a.block]? = some o:=by rw[hab];exact ho
  constructor
  ·unfold World.cell?;rw[e1,e0]
   cases o <;> cases o' <;> first | rfl | exact absurd rfl (h _ _ _)|exact absurd rfl (h' _ _ _)
  ·unfold World.frozen?;rw[e1,e0]
   cases o <;> cases o' <;> first | rfl | exact absurd rfl (h _ _ _)|exact absurd rfl (h' _ _ _)
 ·have:(w.putObj b o').heap[a.block]? = w.heap[a.block]?:=World.putObj_heap_other hab
  exact⟨cell?_congr this,frozen?_congr this⟩
theorem Inv.putObj [Vars] {w0:World} {G:Gh} {h:zI} {w:World} (I:Inv w0 G h w) {m b:Nat} {p p':AObj} (hm:h m=some p) (hreg:G.reg m=some (b,0,1)) {o o':Obj} (ho:w.heap[b]? = some o)
  (hc:∀c e f,o≠.cells c e f) (hc':∀c e f,o'≠.cells c e f) (hd:∀L,o=.deferred L→False) (hl:∀L,o=.loop L→∃L',o'=.loop L') (hb:w0.heap.size≤b)
  (hp:ObjOk w0 G (w.putObj b o') m p'):Inv w0 G (h.upd m (some p')) (w.putObj b o'):=by
 have hlt:b < w.heap.size:=(Array.getElem?_eq_some_iff.1 ho).1
 have hcell:=cell_putObj ho hc hc'
 have old:∀n q,h.upd m (some p') n=some q→n=m∨(n≠m∧h n=some q):=fun n q e=>by
  by_cases hn:n=m
  ·exact .inl hn
  ·rw[zB _ _ _ _ hn] at e;exact .inr ⟨hn,e⟩
 have old':∀n q,h.upd m (some p') n=some q→∃q',h n=some q':=fun n q e=>by
  rcases old n q e with rfl | ⟨_,e⟩
  ·exact⟨p,hm⟩
  ·exact⟨q,e⟩
 have other:∀k,k≠b→(w.putObj b o').heap[k]? = w.heap[k]?:=fun k hk=>World.putObj_heap_other hk
 have ne:∀n q k,n≠m→h n=some q→G.reg n=some (k,0,1)→k≠b:=fun n q k hn e er hk=>by
  subst hk
  rcases I.disj n m q p _ _ hn e hm er hreg with h' | h' | h'
  ·exact h' rfl
  ·simp at h'
  ·simp at h'
 refine⟨putObj_below I.below hb o',fun a v e=>by rw[(hcell a).1];exact I.imm a v e,fun n q e=>?_,?_,?_,?_⟩
 ·rcases old n q e with rfl | ⟨hn,e⟩
  ·rw[zD] at e;cases e;exact hp
  ·have ok:=I.obj n q e
   cases q with
   | cells l=>
    obtain⟨r,vs,h1,h2⟩:=ok
    exact⟨r,vs,h1,h2.base,by simpa using h2.lt,h2.len,h2.sc,h2.rel,fun j v e=>by rw[(hcell _).1];exact h2.val j v e,fun j hj=>by rw[(hcell _).1];exact h2.some j hj,fun j hj=>by rw[(hcell _).2];exact h2.free j hj⟩
   | tcells e0 tot l=>
    obtain⟨r,vs,h1,h2,h3,h4,h5⟩:=ok
    refine⟨r,vs,h1,⟨h2.base,by simpa using h2.lt,h2.len,h2.sc,h2.rel,fun j v e=>by rw[(hcell _).1];exact h2.val j v e,fun j hj=>by rw[(hcell _).1];exact h2.some j hj,fun j hj=>by rw[(hcell _).2];exact h2.free j hj⟩,h3,?_,h5⟩
    have hne:r.1≠b:=fun e1=>by
     rw[e1] at h4
     simp only[World.shape?,ho] at h4
     split at h4
     ·rename_i c e f he;cases he;exact hc _ _ _ rfl
     ·cases h4
    rw[Zr (other r.1 hne)];exact h4
   | map clk bs es=>
    obtain⟨k,ents,h1,h2⟩:=ok
    exact⟨k,ents,h1,h2.base,by rw[other k (ne n _ k hn e h1)];exact h2.blk,h2.keys,h2.vals,h2.born,h2.lt⟩
   | chan cap buf closed=>
    obtain⟨k,vs,s,r,h1,h2,h3,h4⟩:=ok
    exact⟨k,vs,s,r,h1,h2,by rw[other k (ne n _ k hn e h1)];exact h3,h4⟩
   | loop st pend nt s ps asg body=>
    obtain⟨k,fn,tmps,D,h1,h2,h3,h4,h5⟩:=ok
    exact⟨k,fn,tmps,D,h1,h2,by rw[other k (ne n _ k hn e h1)];exact h3,h4,h5⟩
   | iter im since c0 seen=>
    obtain⟨k,bm,sa,h1,h2,h3,h4,h5⟩:=ok
    exact⟨k,bm,sa,h1,h2,h3,by rw[other k (ne n _ k hn e h1)];exact h4,h5⟩
 ·intro n k p1 p2 r q hnk e1 e2 h1 h2
  obtain⟨_,e1⟩:=old' n p1 e1
  obtain⟨_,e2⟩:=old' k p2 e2
  exact I.disj n k _ _ r q hnk e1 e2 h1 h2
 ·intro n p1 r a v e1 h1 h2
  obtain⟨_,e1⟩:=old' n p1 e1
  exact I.sep n _ r a v e1 h1 h2
 ·have nd:∀k,w.heap[k]? = some (.deferred (some []))→k≠b:=fun k hk e=>by
   subst e;rw[ho] at hk;exact hd _ (Option.some.inj hk)
  refine⟨fun k hk=>⟨by rw[other k (nd k (I.oth.own k hk).1)];exact (I.oth.own k hk).1,(I.oth.own k hk).2⟩,fun k hk=>by rw[other k (nd k (I.oth.base k hk))];exact I.oth.base k hk,I.oth.nd,fun k hk=>?_,I.oth.old,I.oth.vars,I.oth.tabs⟩
  obtain⟨L,hL⟩:=I.oth.lps k hk
  by_cases hkb:k=b
  ·subst hkb
   rw[ho] at hL
   obtain⟨L',hL'⟩:=hl L (Option.some.inj hL)
   exact⟨L',by rw[←hL'];exact World.putObj_heap_same hlt⟩
  ·exact⟨L,by rw[other k hkb];exact hL⟩
end Go.AM
namespace Go.AM
open Go.RowKit
inductive Sk where
 | int | bool | str | none
def skOf (P:Program) (t:TypeId):Sk:=
 match P.underlying t with
 | some (.int _)=>.int
 | some .bool=>.bool
 | some .string=>.str
 | _=>.none
def Jr (k:Sk) (x y:AV):Option Bool:=
 match k,x,y with
 | .int,.c (.int k a),.c (.int k' b)=>if k=k' then some (a == b) else Option.none
 | .bool,.c (.bool a),.c (.bool b)=>some (a == b)
 | .str,.c (.string a),.c (.string b)=>some (a.toList == b.toList)
 | _,_,_=>Option.none
def fldEq (P:Program) (xs ys:List AV):List Field→Option Bool
 | []=>some true
 | f :: fs=>if f.name = "_" then Option.none else match xs[f.offset]?,ys[f.offset]? with
  | some x,some y=>match Jr (skOf P f.type) x y with
   | some true=>fldEq P xs ys fs
   | some false=>some false
   | Option.none=>Option.none
  | _,_=>Option.none
def itEq (P:Program) (e:TypeId) (s:Nat) (xs ys:List AV):List Nat→Option Bool
 | []=>some true
 | i :: r=>match xs[i * s]?,ys[i * s]? with
  | some x,some y=>match Jr (skOf P e) x y with
   | some true=>itEq P e s xs ys r
   | some false=>some false
   | Option.none=>Option.none
  | _,_=>Option.none
def aggEq (P:Program) (t:TypeId) (xs ys:List AV):Option Bool:=
 match P.underlying t with
 | some (.struct fs)=>if P.stoodInHeld t=false∧P.eqGuardType P.depth t=false then fldEq P xs ys fs.toList else Option.none
 | some (.array n e)=>if (P.info? e).isSome=true∧P.eqGuardType P.depth t=false then itEq P e (P.cellsOf e) xs ys (List.range n) else Option.none
 | _=>Option.none
section
variable {P : Program} {G : Gh} {w : World}
theorem part_ok {t:TypeId} (h:skOf P t≠.none) {cs:Array Value} {off:Nat} {v:Value} (hv:cs[off]? = some v):(part t cs off).run P w=.ok v w:=by
 unfold skOf at h
 unfold part
 split at h
 ·rename_i k hu;simp[isAgg,run_underlying hu,hv]
 ·rename_i hu;simp[isAgg,run_underlying hu,hv]
 ·rename_i hu;simp[isAgg,run_underlying hu,hv]
 ·exact absurd rfl h
theorem RvL_at:∀{xs:List AV} {vs:List Value} {i:Nat} {x:AV},RvL G xs vs→xs[i]? = some x→∃v,vs[i]? = some v∧Rv G x v
 | [],_,i,x,_,h=>by simp at h
 | a :: r,vs,0,x,hr,h=>by
  simp only[RvL] at hr
  obtain⟨v,vr,rfl,h1,_⟩:=hr
  simp at h;subst h
  exact⟨v,rfl,h1⟩
 | a :: r,vs,i + 1,x,hr,h=>by
  simp only[RvL] at hr
  obtain⟨v,vr,rfl,_,h2⟩:=hr
  obtain⟨u,h3,h4⟩:=RvL_at h2 (by simpa using h)
  exact⟨u,by simpa using h3,h4⟩
theorem cellEq_ok {t:TypeId} {x y:AV} {v u:Value} {b:Bool} (d:Nat) (h:Jr (skOf P t) x y=some b) (hx:Rv G x v) (hy:Rv G y u):(Op.equalIn (d + 1) t v u).run P w=.ok b w:=by
 unfold skOf at h
 split at h
 ·rename_i kk hu
  unfold Jr at h
  split at h
  ·rename_i k a k' c _
   split at h
   ·rename_i e;subst e
    simp only[Option.some.injEq] at h;subst h
    simp only[Rv] at hx hy
    obtain⟨rfl,_⟩:=hx;obtain⟨rfl,_⟩:=hy
    exact run_equalIn_int w d t _ _ a c hu
   ·cases h
  all_goals first|(rename_i hk _ _;cases hk;done)|(rename_i hk;cases hk;done)|cases h
 ·rename_i hu
  unfold Jr at h
  split at h
  ·rename_i hk;cases hk
  ·simp only[Option.some.injEq] at h;subst h
   simp only[Rv] at hx hy
   obtain⟨rfl,_⟩:=hx;obtain⟨rfl,_⟩:=hy
   exact run_equalIn_bool w d t _ _ hu
  ·rename_i hk;cases hk
  ·cases h
 ·rename_i hu
  unfold Jr at h
  split at h
  ·rename_i hk;cases hk
  ·rename_i hk;cases hk
  ·simp only[Option.some.injEq] at h;subst h
   simp only[Rv] at hx hy
   obtain⟨rfl,_⟩:=hx;obtain⟨rfl,_⟩:=hy
   exact run_equalIn_string w d t _ _ hu
  ·cases h
 ·unfold Jr at h
  split at h
  ·rename_i hk;cases hk
  ·rename_i hk;cases hk
  ·rename_i hk;cases hk
  ·cases h
theorem cellEq_sk {k:Sk} {x y:AV} {b:Bool} (h:Jr k x y=some b):k≠.none:=by
 intro e;subst e;simp[Jr] at h
theorem fldEq_ok [Vars] {xs ys:List AV} {vs us:Array Value} (d:Nat) (hx:RvL G xs vs.toList) (hy:RvL G ys us.toList):∀{fs:List Field} {b:Bool},fldEq P xs ys fs=some b→(Op.eqFields (d + 1) vs us fs).run P w=.ok b w
 | [],b,h=>by simp only[fldEq,Option.some.injEq] at h;subst h;rfl
 | f :: fs,b,h=>by
  simp only[fldEq] at h
  split at h
  ·cases h
  ·rename_i hn
   split at h
   ·rename_i x y h1 h2
    obtain⟨v,hv,rv⟩:=RvL_at hx h1
    obtain⟨u,hu,ru⟩:=RvL_at hy h2
    have hv:vs[f.offset]? = some v:=by simpa using hv
    have hu:us[f.offset]? = some u:=by simpa using hu
    cases hc:Jr (skOf P f.type) x y with
    | none=>rw[hc] at h;cases h
    | some c=>
     rw[hc] at h
     have hk:=cellEq_sk hc
     have he:=cellEq_ok (w:=w) d hc rv ru
     have hp1:=part_ok (w:=w) hk hv
     have hp2:=part_ok (w:=w) hk hu
     cases c with
     | true=>
      have ih:=fldEq_ok d hx hy h
      simp[Op.eqFields,hn,hp1,hp2,he,ih]
     | false=>
      simp only[Option.some.injEq] at h;subst h
      simp[Op.eqFields,hn,hp1,hp2,he]
   ·cases h
theorem itEq_ok [Vars] {e:TypeId} {s:Nat} {xs ys:List AV} {vs us:Array Value} (d:Nat) (hx:RvL G xs vs.toList) (hy:RvL G ys us.toList):∀{is:List Nat} {b:Bool},itEq P e s xs ys is=some b→(Op.eqItems (d + 1) e s vs us is).run P w=.ok b w
 | [],b,h=>by simp only[itEq,Option.some.injEq] at h;subst h;simp[Op.eqItems]
 | i :: is,b,h=>by
  simp only[itEq] at h
  split at h
  ·rename_i x y h1 h2
   obtain⟨v,hv,rv⟩:=RvL_at hx h1
   obtain⟨u,hu,ru⟩:=RvL_at hy h2
   have hv:vs[i * s]? = some v:=by simpa using hv
   have hu:us[i * s]? = some u:=by simpa using hu
   cases hc:Jr (skOf P e) x y with
   | none=>rw[hc] at h;cases h
   | some c=>
    rw[hc] at h
    have hk:=cellEq_sk hc
    have he:=cellEq_ok (w:=w) d hc rv ru
    have hp1:=part_ok (w:=w) hk hv
    have hp2:=part_ok (w:=w) hk hu
    cases c with
    | true=>
     have ih:=itEq_ok d hx hy h
     simp[Op.eqItems,hp1,hp2,he,ih]
    | false=>
     simp only[Option.some.injEq] at h;subst h
     simp[Op.eqItems,hp1,hp2,he]
  ·cases h
theorem aggEq_ok [Vars] {t:TypeId} {xs ys:List AV} {vs us:Array Value} {b:Bool} (hx:RvL G xs vs.toList) (hy:RvL G ys us.toList) (h:aggEq P t xs ys=some b) :
  (Op.equalIn 10000 t (.agg vs) (.agg us)).run P w=.ok b w∧P.eqGuardType P.depth t=false:=by
 unfold aggEq at h
 split at h
 ·rename_i fs hu
  split at h
  ·rename_i hc
   have hf:P.fieldsOf t=fs:=by simp[Program.fieldsOf,hu]
   refine⟨?_,hc.2⟩
   rw[run_equalIn_agg w 9999 t vs us (by rw[hf];exact hu) hc.1,hf]
   exact fldEq_ok 9998 hx hy h
  ·cases h
 ·rename_i n e hu
  split at h
  ·rename_i hc
   obtain⟨i,hi⟩:=Option.isSome_iff_exists.1 hc.1
   refine⟨?_,hc.2⟩
   rw[run_equalIn_array w 9999 vs us hu hi]
   exact itEq_ok 9998 hx hy h
  ·cases h
 ·cases h
end
end Go.AM
