/- The abstract machine: functions that defer; tables of closed calls; how long a text is at most. Conditions: as each theorem says. -/
import Derived.Laws.Externs
import Derived.RecoverIn
import Derived.Test.YtabidiilbgakoaaGreatDoorAmf
namespace Go.AM
open Go.RowKit
def extFn:Nat→Array Value→Sem Value
 | 0=>Extern.AbiNoEscape.same
 | 1=>Extern.BytealgIndexByte.indexByte
 | _=>Extern.MapsClone.clone
def XtOk (P:Program) (xt:List (FuncId × Nat)):Prop:=∀p ∈ xt,∃fn,P.funcs[p.1]? = some fn∧(fn.name == "runtime.NumGoroutine")=false∧fn.body.isNone=true∧Extern.findNext fn=none∧Extern.find fn=some (extFn p.2)
def evExt (k:Nat) (args:List AV) (h:zI) (n:Nat):Option (AV × zI × Nat):=
 match k,args with
 | 0,[x]=>some (x,h,n)
 | 1,[.c (.string b),.c (.int .u8 c)]=>some (iv .i64 (firstIdx b c.toNat.toUInt8),h,n)
 | 2,[.iface t (.map m)]=>match h m with
  | some (.map clk bs es)=>some (.iface t (.map n),h.upd n (some (.map clk bs es)),n + 1)
  | _=>none
 | _,_=>none
section
variable {P : Program}
theorem evExt_ok [Vars] {xt:List (FuncId × Nat)} (hx:XtOk P xt) {g k:Nat} (hg:(g,k) ∈ xt) {args:List AV} {h:zI} {n:Nat} {o:AV × zI × Nat} (he:evExt k args h n=some o) {K:AV→zI→Nat→Prop} (hK:K o.1 o.2.1 o.2.2):XCalls P g args h n K:=by
 obtain⟨fn,h1,h2,h3,h4,h5⟩:=hx _ hg
 intro w0 G w vs I hf hr
 have hrun:∀v w',(extFn k vs.toArray).run P w=.ok v w'→(callFunc g vs.toArray).run P w=.ok (.value v) w':=fun v w' e=>by
  rw[run_callFunc_extern h1 h2 h3 h4 h5,e];rfl
 unfold evExt at he
 split at he
 ·cases he
  simp only[RvL] at hr
  obtain⟨v,vr,rfl,hv,rfl⟩:=hr
  exact⟨v,w,hrun v w rfl,G,_,_,_,⟨Ext.refl _ _,rfl⟩,I,hf,Nat.le_refl _,hv,hK⟩
 ·cases he
  simp only[RvL] at hr
  obtain⟨v,vr,rfl,hv,v2,vr2,rfl,hv2,rfl⟩:=hr
  simp only[Rv] at hv hv2
  obtain⟨rfl,_⟩:=hv
  obtain⟨rfl,_⟩:=hv2
  exact⟨_,w,hrun _ w (by
   have e1:extFn 1=Extern.BytealgIndexByte.indexByte:=rfl
   rw[e1]
   exact run_indexByte_string _ _ w),G,_,_,_,⟨Ext.refl _ _,rfl⟩,I,hf,Nat.le_refl _,Rv_iv.2 rfl,hK⟩
 ·rename_i t m
  split at he
  ·rename_i clk bs es hm
   cases he
   simp only[RvL] at hr
   obtain⟨v,vr,rfl,hv,rfl⟩:=hr
   simp only[Rv] at hv
   obtain⟨y,rfl,b,lo,tt,hreg,rfl⟩:=hv
   obtain⟨b',ents,hreg',M⟩:=I.obj m _ hm
   rw[hreg] at hreg';cases hreg'
   have hg0:=MapKept.run_getObj_map (P:=P) M.blk
   have hn:=hf n (Nat.le_refl _)
   refine⟨.iface t (.map (some w.heap.size)),w.alloc (.map ents clk),hrun _ _ ?_,G.set n (w.heap.size,0,1),.iface t (.map n),h.upd n (some (.map clk bs es)),n + 1,⟨⟨fun k hk=>Gh.set_ne (by omega),fun _ _ e=>e,⟨[],rfl⟩,rfl,fun _ e=>e⟩,rfl⟩,
    I.alloc hn (.inr trivial) (.map ents clk) (.map clk bs es) 1 ⟨w.heap.size,ents,Gh.set_same,I.below.size,World.alloc_heap_new w _,M.keys,M.vals.mono (Gh.le_set hn).v,M.born,M.lt⟩,fun k hk=>by rw[Gh.set_ne (by omega)];exact hf k (by omega),by omega,?_,hK⟩
   ·change (Extern.MapsClone.clone #[.iface t (.map (some b))]).run P w=_
    have:Extern.MapsClone.clone #[.iface t (.map (some b))]=(do
     let o ←getObj b
     match o with
     | .map entries clock=>do pure (.iface t (.map (some (←newObj (.map entries clock)))))
     | _=>stuck "maps.clone: a map expected"):=rfl
    rw[this]
    simp only[Sem.run_bind,hg0,Result.andThen_ok,run_newObj,Sem.run_pure]
    rfl
   ·simp only[Rv]
    exact⟨_,rfl,_,_,_,Gh.set_same,rfl⟩
  ·cases he
 ·cases he
theorem GCalls.go [Vars] {g:FuncId} {args:List AV} {h:zI} {n:Nat} {K:AV→zI→Nat→Prop} (hg:JZ P g=true) (hc:GCalls P g args h n K):zQ P g args h n K:=by
 rcases hc with h1 | h1
 ·exact h1
 ·refine⟨hg,fun w0 G w vs I hf hr=>?_⟩
  obtain⟨r,w',h2,_⟩:=h1 w0 G w vs I hf hr
  rw[jp hg] at h2
  cases h2
end
section
variable (P : Program) (ct : CTr) (rt : List Nat) (ops : Array Oper)
def evNext [Vars] (st:St):Option (List St):=match ops.toList with
 | []=>none
 | o :: rest=>match o.op with
  | .next it false=>if o.guard.isNone && Zh st.nt o.dst then match ev st.s it with
    | .ptr n 0=>match st.h n with
     | some (.iter m since last seen)=>match st.h m with
      | some (.map clk bs es)=>if bs.all (fun b=>decide (b < since)) && decide (since≤last) then
        match (List.range bs.length).filter fun j=>!seen.contains (bs.getD j 0) with
        | []=>match qv P ct rt ops st.n 1 rest (put ⟨st.nt,st.s,st.h,st.n + ops.size⟩ o.dst (.tup [bv false])) with
         | some L=>some (L.map fun s=>{s with h:=s.h.upd n none})
         | none=>none
        | l=>bindL (fun j=>match es[j]?,bs[j]? with
          | some (k,v),some b=>qv P ct rt ops st.n 1 rest (put ⟨st.nt,st.s,st.h.upd n (some (.iter m since clk (seen ++ [b]))),st.n + ops.size⟩ o.dst (.tup [bv true,jN k,v]))
          | _,_=>none) l
       else none
      | _=>none
     | _=>none
    | _=>none
   else none
  | _=>none
def isNext:Bool:=match ops.toList with
 | o :: _=>match o.op with
  | .next _ false=>true
  | _=>false
 | []=>false
end
section
variable {P : Program} {ct : CTr} {rt : List Nat} {ops : Array Oper} {fl : Nat}
theorem evNext_ok [Vars] (hct:qD P ct) {id:Nat} {st:St} {L:List St} (h:evNext P ct rt ops st=some L) {Q:Exit→St→Prop} (hQ:∀s ∈ L,Q .normal s):ze P fl (.region id ops false) Q st:=by
 unfold evNext at h
 split at h
 ·cases h
 ·rename_i o rest ho
  split at h
  ·rename_i it hop
   split at h
   ·rename_i hg
    simp only[Bool.and_eq_true,Option.isNone_iff_eq_none] at hg
    split at h
    ·rename_i n hit
     split at h
     ·rename_i m since last seen hn
      split at h
      ·rename_i clk bs es hm
       split at h
       ·rename_i hb
        simp only[Bool.and_eq_true,List.all_eq_true,decide_eq_true_eq] at hb
        split at h
        ·rename_i hl
         split at h
         ·rename_i L0 hL0
          cases h
          refine qx (Q:=fun e s=>e=.normal∧s ∈ L0) (ac_next ho hop hg.1 hg.2 hit hn hm hb.1 hb.2 (fun _=>qM hct rest 1 _ L0 hL0 fun s hs=>⟨rfl,hs⟩) fun j b k v e1 e2 e3=>?_) fun e s hq=>?_
          ·exfalso
           have:j ∈ (List.range bs.length).filter fun j=>!seen.contains (bs.getD j 0):=by
            refine List.mem_filter.2 ⟨by simpa using (List.getElem?_eq_some_iff.1 e2).1,?_⟩
            rw[List.getD_eq_getElem?_getD,e2]
            simpa using e3
           rw[hl] at this;cases this
          ·obtain⟨rfl,hs⟩:=hq
           refine⟨{s with h:=s.h.upd n none},⟨rfl,rfl,fun _=>.inr rfl,fun k o e=>?_⟩,hQ _ (List.mem_map.2 ⟨s,hs,rfl⟩)⟩
           simp only at e
           by_cases hk:k=n
           ·subst hk;rw[zD] at e;cases e
           ·rw[zB _ _ _ _ hk] at e;exact e
         ·cases h
        ·rename_i l hl
         refine ac_next ho hop hg.1 hg.2 hit hn hm hb.1 hb.2 (fun hall=>?_) fun j b k v e1 e2 e3=>?_
         ·exfalso
          apply hl
          rw[List.filter_eq_nil_iff]
          intro j hj
          have hj':j < bs.length:=by simpa using hj
          have:=hall bs[j] (List.getElem_mem hj')
          rw[List.getD_eq_getElem?_getD,List.getElem?_eq_getElem hj']
          simpa using this
         ·have hmem:j ∈ (List.range bs.length).filter fun j=>!seen.contains (bs.getD j 0):=by
           refine List.mem_filter.2 ⟨by simpa using (List.getElem?_eq_some_iff.1 e2).1,?_⟩
           rw[List.getD_eq_getElem?_getD,e2]
           simpa using e3
          obtain⟨L',h1,h2⟩:=QE h j hmem
          rw[e1,e2] at h1
          exact qM hct rest 1 _ L' h1 fun s hs=>hQ s (h2 s hs)
       ·cases h
      ·cases h
     ·cases h
    ·cases h
   ·cases h
  ·cases h
end
end Go.AM
namespace Go.AM
open Go.RowKit
def fN {β:Type} (n:Nat) (k:Nat→β):β:=match n with
 | 0=>k 0
 | m + 1=>k (Nat.succ m)
theorem jS {β:Type} (n:Nat) (k:Nat→β):fN n k=k n:=by cases n <;> rfl
def fI {β:Type} (i:Int) (k:Int→β):β:=match i with
 | .ofNat n=>fN n fun n=>k (.ofNat n)
 | .negSucc n=>fN n fun n=>k (.negSucc n)
theorem fI_eq [Vars] {β:Type} (i:Int) (k:Int→β):fI i k=k i:=by cases i <;> simp only[fI,jS]
def fBL {β:Type}:List UInt8→(List UInt8→β)→β
 | [],k=>k []
 | b :: r,k=>fN b.toNat fun n=>fBL r fun r=>k (UInt8.ofNat n :: r)
theorem fBL_eq [Vars] {β:Type}:∀(l:List UInt8) (k:List UInt8→β),fBL l k=k l
 | [],k=>rfl
 | b :: r,k=>by simp only[fBL,jS,fBL_eq r];rw[UInt8.ofNat_toNat]
def fW {β:Type} (v:Value) (k:Value→β):β:=match v with
 | .int kd i=>fI i fun i=>k (.int kd i)
 | .bool true=>k (.bool true)
 | .bool false=>k (.bool false)
 | v=>k v
theorem fW_eq [Vars] {β:Type} (v:Value) (k:Value→β):fW v k=k v:=by
 unfold fW
 split
 ·rw[fI_eq]
 ·rfl
 ·rfl
 ·rfl
def fV {β:Type} (v:Value) (k:Value→β):β:=match v with
 | .int kd i=>fI i fun i=>k (.int kd i)
 | .bool true=>k (.bool true)
 | .bool false=>k (.bool false)
 | .string ⟨⟨l⟩⟩=>fBL l fun l=>k (.string ⟨⟨l⟩⟩)
 | v=>k v
theorem fV_eq [Vars] {β:Type} (v:Value) (k:Value→β):fV v k=k v:=by
 unfold fV
 split
 ·rw[fI_eq]
 ·rfl
 ·rfl
 ·rw[fBL_eq]
 ·rfl
def fA {β:Type} (x:AV) (k:AV→β):β:=match x with
 | .c v=>fV v fun v=>k (.c v)
 | .ptr n o=>fN n fun n=>fN o fun o=>k (.ptr n o)
 | .slc n o l s=>fN n fun n=>fN o fun o=>fN l fun l=>fN s fun s=>k (.slc n o l s)
 | .map n=>fN n fun n=>k (.map n)
 | .yld n=>fN n fun n=>k (.yld n)
 | x=>k x
theorem fA_eq [Vars] {β:Type} (x:AV) (k:AV→β):fA x k=k x:=by
 unfold fA
 split
 ·rw[fV_eq]
 ·rw[jS,jS]
 ·rw[jS,jS,jS,jS]
 ·rw[jS]
 ·rw[jS]
 ·rfl
def fB {β:Type} (x:AV) (k:AV→β):β:=match x with
 | .c v=>fW v fun v=>k (.c v)
 | .ptr n o=>fN n fun n=>fN o fun o=>k (.ptr n o)
 | .slc n o l s=>fN n fun n=>fN o fun o=>fN l fun l=>fN s fun s=>k (.slc n o l s)
 | .map n=>fN n fun n=>k (.map n)
 | .yld n=>fN n fun n=>k (.yld n)
 | x=>k x
theorem fB_eq [Vars] {β:Type} (x:AV) (k:AV→β):fB x k=k x:=by
 unfold fB
 split
 ·rw[fW_eq]
 ·rw[jS,jS]
 ·rw[jS,jS,jS,jS]
 ·rw[jS]
 ·rw[jS]
 ·rfl
def fL {β:Type}:List AV→(List AV→β)→β
 | [],k=>k []
 | x :: r,k=>fA x fun x=>fL r fun r=>k (x :: r)
theorem fL_eq [Vars] {β:Type}:∀(l:List AV) (k:List AV→β),fL l k=k l
 | [],k=>rfl
 | x :: r,k=>by simp only[fL,fA_eq,fL_eq r]
end Go.AM
namespace Go.AM
open Go.RowKit
noncomputable def getR (t : Nat) (l : List (Nat × AV)) : AV := List.rec (motive := fun _ => AV) .undef (fun kv _ ih => bif Nat.beq t kv.1 then kv.2 else ih) l
theorem getR_eq (t:Nat):∀l:List (Nat × AV),getR t l=get l t
 | []=>rfl|(k,v) :: r=>by
  show (bif Nat.beq t k then v else getR t r)=_
  rw[getR_eq t r]
  simp only[get]
  by_cases h:t=k
  ·subst h;simp
  ·have:Nat.beq t k=false:=by
    cases hb:Nat.beq t k with
    | false=>rfl
    | true=>exact absurd (Nat.eq_of_beq_eq_true hb) h
   rw[this,if_neg h];rfl
structure CO where
 f:List (Nat × AV)→AV
noncomputable def cX [Vars] : Operand → CO
 | .tmp t=>⟨fun s=>getR t s⟩
 | .const v=>⟨fun _=>jN v⟩
 | .func f=>⟨fun _=>.func (.func f) [] []⟩
 | .global g=>⟨fun s=>ev s (.global g)⟩
theorem cX_eq [Vars] (s:List (Nat × AV)) (x:Operand):(cX x).f s=ev s x:=by
 cases x <;> first | rfl | exact getR_eq _ _
structure CI where
 f:IntKind→Int→Int→Option AV
def cI:BinOp→CI
 | .add=>⟨fun k x y=>some (iv k (k.wrap (x + y)))⟩
 | .sub=>⟨fun k x y=>some (iv k (k.wrap (x - y)))⟩
 | .mul=>⟨fun k x y=>some (iv k (k.wrap (x * y)))⟩
 | .eql=>⟨fun _ x y=>some (bv (x == y))⟩
 | .neq=>⟨fun _ x y=>some (bv (x != y))⟩
 | .lss=>⟨fun _ x y=>some (bv (decide (x < y)))⟩
 | .leq=>⟨fun _ x y=>some (bv (decide (x≤y)))⟩
 | .gtr=>⟨fun _ x y=>some (bv (decide (x > y)))⟩
 | .geq=>⟨fun _ x y=>some (bv (decide (x ≥ y)))⟩
 | op=>⟨fun k x y=>qu op k x y⟩
theorem cI_eq (op:BinOp) (k:IntKind) (x y:Int):(cI op).f k x y=qu op k x y:=by cases op <;> rfl
def cBin (P:Program) (op:BinOp) (t:TypeId) (cn:Bool) (x y:AV):Option AV:=match x,y with
 | .c (.int k a),.c (.int k' b)=>(if k=k' then (cI op).f k a b else none).or (q9 P op t cn x y)
 | _,_=>(aBin P op t x y).or (q9 P op t cn x y)
theorem cBin_eq [Vars] (P:Program) (op:BinOp) (t:TypeId) (cn:Bool) (x y:AV):cBin P op t cn x y=(aBin P op t x y).or (q9 P op t cn x y):=by
 unfold cBin
 split
 ·simp only[cI_eq,aBin]
 ·rfl
def mp (h:zI):Option AV→Option (AV × zI)
 | none=>none
 | some x=>some (x,h)
theorem mp_eq (h:zI) (x:Option AV):mp h x=x.map (·,h):=by cases x <;> rfl
def cPick (c a b:AV) (h:zI):Option (AV × zI):=match c with
 | .c (.bool t)=>some (if t then a else b,h)
 | _=>none
def cLoad (l:Option (Nat × Bool)) (a:AV) (h:zI):Option (AV × zI):=match l,a with
 | some sg,.ptr n off=>match h n with
  | some (.cells l)=>mp h (jB sg (l.drop off))
  | some (.tcells _ _ l)=>mp h (jB sg (l.drop off))
  | _=>none
 | some sg,.fptr l=>mp h (jB sg l)
 | _,_=>none
def cStore (z:Option Nat) (a x:AV) (h:zI):Option (AV × zI):=match z,a with
 | some k,.ptr n off=>match h n with
  | some (.cells l)=>if (cellsOf x).all AV.scalar=true∧(cellsOf x).length=k∧off + k≤l.length then
    some (.undef,h.upd n (some (.cells (Za l off (cellsOf x))))) else none
  | some (.tcells e tot l)=>if (cellsOf x).all AV.scalar=true∧(cellsOf x).length=k∧off + k≤l.length then
    some (.undef,h.upd n (some (.tcells e tot (Za l off (cellsOf x))))) else none
  | _=>none
 | _,_=>none
def cField (o:Option (Nat × Nat)) (x:AV) (h:zI):Option (AV × zI):=match o with
 | some (o,z)=>if z=0 then none else match x with
  | .ptr n off=>some (.ptr n (off + o),h)
  | .fptr l=>some (.fptr (l.drop o),h)
  | _=>none
 | none=>none
def cIdxA (P:Program) (t:TypeId) (x i:AV) (h:zI):Option (AV × zI):=match ZS P t,i with
 | some e,.c (.int _ i)=>match x with
  | .fslc _ _ z l=>if zo P e=some z∧0≤i then match l[i.toNat]? with
    | some y=>some (.fptr (cellsOf y),h)
    | none=>none
   else none
  | .slc n off len z=>if zo P e=some z∧0≤i∧i < len then some (.ptr n (off + i.toNat * z),h) else none
  | _=>none
 | _,_=>mp h (QN P t x i)
def cIdx (P:Program) (t:TypeId) (x i:AV) (h:zI):Option (AV × zI):=match x,i with
 | .c (.string b),.c (.int _ i)=>if ZM P t=.string∧0≤i then match b[i.toNat]? with
   | some u=>some (iv .u8 u.toNat,h)
   | none=>none
  else none
 | x,i=>mp h (aIdxArr P t x i)
structure CS where
 f:Nat→List (Nat × AV)→zI→Option (AV × zI)
noncomputable def cStep [Vars] (P : Program) : Op → CS
 | .move x=>⟨fun _ s h=>some ((cX x).f s,h)⟩
 | .assign x=>⟨fun _ s h=>some ((cX x).f s,h)⟩
 | .pick c a b=>⟨fun _ s h=>cPick ((cX c).f s) ((cX a).f s) ((cX b).f s) h⟩
 | .load t a=>⟨fun _ s h=>cLoad (lay P t) ((cX a).f s) h⟩
 | .store t a x=>⟨fun _ s h=>cStore (zo P t) ((cX a).f s) ((cX x).f s) h⟩
 | .binOp op t x y _=>⟨fun _ s h=>mp h (cBin P op t (isC x y) ((cX x).f s) ((cX y).f s))⟩
 | .fieldAddr t x f=>⟨fun _ s h=>cField (zt P t f) ((cX x).f s) h⟩
 | .indexAddr t x i=>⟨fun _ s h=>cIdxA P t ((cX x).f s) ((cX i).f s) h⟩
 | .index t x i=>⟨fun _ s h=>cIdx P t ((cX x).f s) ((cX i).f s) h⟩
 | op=>⟨fun nm s h=>zc P nm op s h⟩
theorem cStep_eq [Vars] (P:Program) (op:Op) (nm:Nat) (s:List (Nat × AV)) (h:zI):(cStep P op).f nm s h=zc P nm op s h:=by
 cases op <;> simp only[cStep,cX_eq] <;> try rfl
 case load t a=>
  simp only[cLoad,zc,mp_eq]
  rfl
 case binOp=>simp only[mp_eq,cBin_eq,zc]
 case indexAddr=>
  simp only[cIdxA,mp_eq,zc]
  rfl
 case index t x i=>
  simp only[cIdx,mp_eq,zc]
  generalize ev s x=a
  generalize ev s i=b
  cases a with
  | c v=>cases v with
   | string bs=>cases b with
    | c u=>cases u <;> rfl
    | _=>rfl
   | _=>cases b <;> rfl
  | _=>rfl
structure CV where
 f:Nat→List Nat→St→Outs
def oneO (n:Nat):Option (AV × zI)→Outs
 | some (x,h)=>some [(x,h,n)]
 | none=>none
section
variable (P : Program) (ct : CTr) (cl : CCl) (ops : Array Oper)
noncomputable def cRun [Vars] (o : Oper) : CV := match Zo o.op with
 | some (f,args)=>⟨fun _ rt st=>match st with | ⟨_,s,h,n⟩=>ct (jT (s.map (·.2)) ++ rt) ((cX f).f s) (args.map fun x=>(cX x).f s) h n⟩
 | none=>⟨fun nm _ st=>match st with | ⟨_,s,h,n⟩=>oneO n ((cStep P o.op).f nm s h)⟩
def gd (w:Option Bool) (st:St) (k:Outs):Outs:=match w with
 | none=>none
 | some false=>match st with | ⟨_,_,h,n⟩=>some [(.tup [],h,n)]
 | some true=>k
noncomputable def cVal [Vars] (o : Oper) : CV := match o.guard with
 | none=>cRun P ct o
 | some g=>⟨fun nm rt st=>gd (ZR ops st.s (some g)) st ((cRun P ct o).f nm rt st)⟩
def runOp (C:CV) (dst:Option Tmp) (nm:Nat) (rt:List Nat) (st:St) (k:St→Option (List St)):Option (List St):=
 match st with | ⟨nt0,s,h,n⟩=>fN nt0 fun nt=>if Zh nt dst then Ju (C.f nm rt ⟨nt,s,h,n⟩) fun r=>match r with|(x,h',n')=>fB x fun v=>match dst with | some d=>k ⟨nt,(d,v) :: s,h',n'⟩ | none=>k ⟨nt,s,h',n'⟩ else none
structure CG where
 f:Nat→List Nat→St→Option (List St)
noncomputable def cL [Vars] : Nat → List Oper → CG
 | _,[]=>⟨fun _ _ st=>some [st]⟩
 | i,o :: r=>⟨fun base rt st=>runOp (cVal P ct ops o) o.dst (base + i) rt st fun s=>(cL (i + 1) r).f base rt s⟩
end
section
variable {P : Program} {ct : CTr} {cl : CCl} {ops : Array Oper}
theorem cRun_eq [Vars] (o:Oper) (nm:Nat) (rt:List Nat) (st:St):(cRun P ct o).f nm rt st=(match Zo o.op with
  | some (f,args)=>ct (jT (st.s.map (·.2)) ++ rt) (ev st.s f) (args.map (ev st.s)) st.h st.n
  | none=>match zc P nm o.op st.s st.h with
   | some (x,h)=>some [(x,h,st.n)]
   | none=>none):=by
 unfold cRun
 cases Zo o.op with
 | some fa=>obtain⟨f,args⟩:=fa;simp only[cX_eq]
 | none=>
  simp only[cStep_eq]
  cases zc P nm o.op st.s st.h with
  | none=>rfl
  | some xh=>rfl
theorem cVal_eq [Vars] (o:Oper) (nm:Nat) (rt:List Nat) (st:St):(cVal P ct ops o).f nm rt st=evVal P ct rt ops nm o st:=by
 unfold cVal evVal
 cases hg:o.guard with
 | none=>
  simp only[ZR]
  exact cRun_eq o nm rt st
 | some g=>
  simp only[gd]
  rw[cRun_eq]
  rfl
theorem runOp_eq [Vars] (o:Oper) (nm:Nat) (rt:List Nat) (st:St) (k:St→Option (List St)):runOp (cVal P ct ops o) o.dst nm rt st k=evOp P ct rt ops nm o st k:=by
 obtain⟨nt0,s,h,n⟩:=st
 unfold runOp evOp
 simp only[cVal_eq,fB_eq,jS]
 congr 2
 funext r
 cases o.dst <;> rfl
theorem cL_eq [Vars] (base:Nat) (rt:List Nat):∀(l:List Oper) (i:Nat) (st:St),(cL P ct ops i l).f base rt st=qv P ct rt ops base i l st
 | [],i,st=>rfl
 | o :: r,i,st=>by
  simp only[cL,qv]
  rw[runOp_eq]
  congr 1
  funext s
  exact cL_eq base rt r (i + 1) s
end
section
variable (P : Program) (ct : CTr) (cl : CCl) (ops : Array Oper)
structure CE where
 f:Nat→St→Option AV
noncomputable def cFree [Vars] (cm : Bool) (rem : List Nat) (nmi : Nat) (o : Oper) : CE := match Zo o.op with
 | some (f,args)=>if cm then ⟨fun _ st=>match ZR ops st.s o.guard with
   | none=>none
   | some false=>some (.tup [])
   | some true=>cl ((cX f).f st.s) (args.map fun x=>(cX x).f st.s)⟩
  else ⟨fun _ _=>none⟩
 | none=>match Z7 P o.op with
  | .a=>⟨fun base st=>(match ZR ops st.s o.guard with
   | none=>none
   | some false=>some (.tup [])
   | some true=>((cStep P o.op).f (base + nmi) st.s st.h).map (·.1))⟩
  | .b x=>⟨fun base st=>if ptrOk base rem ((cX x).f st.s) then (match ZR ops st.s o.guard with
   | none=>none
   | some false=>some (.tup [])
   | some true=>((cStep P o.op).f (base + nmi) st.s st.h).map (·.1)) else none⟩
  | _=>⟨fun _ _=>none⟩
theorem cFree_eq [Vars] {P:Program} {cl:CCl} {ops:Array Oper} (cm:Bool) (rem:List Nat) (nmi base:Nat) (o:Oper) (st:St):(cFree P cl ops cm rem nmi o).f base st=evFree P cl ops base cm rem (base + nmi) o st:=by
 have hf:∀nm,(JV P ops nm o st.s st.h).map (·.1)=(match ZR ops st.s o.guard with
   | none=>none
   | some false=>some (.tup [])
   | some true=>((cStep P o.op).f nm st.s st.h).map (·.1)):=by
  intro nm
  unfold JV
  rw[cStep_eq]
  cases ZR ops st.s o.guard with
  | none=>rfl
  | some b=>cases b <;> rfl
 unfold cFree evFree
 cases Zo o.op with
 | some fa=>
  obtain⟨f,args⟩:=fa
  cases cm with
  | true=>simp only[cX_eq,if_true];rfl
  | false=>rfl
 | none=>
  cases Z7 P o.op with
  | a=>simp only[hf]
  | b x=>simp only[hf,cX_eq]
  | _=>rfl
noncomputable def cR [Vars] (cm : Bool) : Nat → List Nat → CG
 | 0,rem=>if rem.isEmpty then ⟨fun _ _ st=>some [st]⟩ else ⟨fun _ _ _=>none⟩
 | f + 1,rem=>match rem with
  | []=>⟨fun _ _ st=>some [st]⟩
  | _ :: _=>match pick cm P ops rem with
   | none=>⟨fun base rt st=>evAll P ct rt ops base (fun r s=>(cR cm f r).f base rt s) rem (rem.filter (rdy ops rem)) st⟩
   | some i=>match ops[i]? with
    | none=>⟨fun _ _ _=>none⟩
    | some o=>if cls cm P o≤1 then ⟨fun base rt st=>match st with | ⟨nt0,s,h,n⟩=>fN nt0 fun nt=>if Zh nt o.dst then match (cFree P cl ops cm rem i o).f base ⟨nt,s,h,n⟩ with
      | some x=>fB x fun x=>(cR cm f (rem.erase i)).f base rt (match o.dst with | some d=>⟨nt,(d,x) :: s,h,n⟩ | none=>⟨nt,s,h,n⟩)
      | none=>none
     else none⟩ else ⟨fun base rt st=>evAll P ct rt ops base (fun r s=>(cR cm f r).f base rt s) rem (rem.filter (rdy ops rem)) st⟩
theorem cR_eq [Vars] {P:Program} {ct:CTr} {cl:CCl} {ops:Array Oper} (cm:Bool) (base:Nat) (rt:List Nat):∀(f:Nat) (rem:List Nat) (st:St),(cR P ct cl ops cm f rem).f base rt st=evR P ct cl rt ops base cm f rem st
 | 0,rem,st=>by
  simp only[cR,evR]
  split <;> rfl
 | f + 1,rem,st=>by
  have ih:(fun r s=>(cR P ct cl ops cm f r).f base rt s)=evR P ct cl rt ops base cm f:=by
   funext r s;exact cR_eq cm base rt f r s
  unfold cR evR
  cases rem with
  | nil=>rfl
  | cons a b=>
   simp only
   cases pick cm P ops (a :: b) with
   | none=>simp only[ih]
   | some i=>
    simp only
    cases ops[i]? with
    | none=>rfl
    | some o=>
     simp only
     split
     ·simp only[cFree_eq,jS]
      split
      ·split
       ·rename_i x hx;rw[hx];simp only[fB_eq];exact cR_eq cm base rt f _ _
       ·rename_i hx;rw[hx]
      ·rfl
     ·simp only[ih]
end
end Go.AM
namespace Go.AM
open Go.RowKit
def isN:Exit→Bool
 | .normal=>true
 | _=>false
def liveOps:List Oper→Nat→Nat→Nat
 | [],_,e=>e
 | o :: r,w,e=>liveOps r (match o.dst with | some d=>w ||| 2 ^ d | none=>w) (o.op.operands.toList.foldl (fun e x=>match x with | .tmp t=>bif w.testBit t then e else e ||| 2 ^ t | _=>e) e)
def liveX:Operand→Nat
 | .tmp t=>2 ^ t
 | _=>0
def Jl:Code→Nat
 | .region _ ops _=>liveOps ops.toList 0 0
 | .seq a b=>Jl a ||| Jl b
 | .cond o a b=>liveX o ||| (Jl a ||| Jl b)
 | .block _ c=>Jl c
 | .loop c=>Jl c
 | .scope c=>Jl c
 | .rangeFunc g _ a c=>liveX g ||| (Jl a ||| Jl c)
 | _=>0
def liveR:List ResultVar→Nat
 | []=>0
 | .tmp t :: r=>2 ^ t ||| liveR r
 | .cell t _ :: r=>2 ^ t ||| liveR r
def evL (body:St→Option (List (Exit × St))) (lm:Nat) (rt:List Nat):Nat→List St→Option (List (Exit × St))
 | 0,F=>match F with
  | []=>some []
  | _=>none
 | m + 1,F=>match F with
  | []=>some []
  | _ :: _=>match bindL body F with
   | none=>none
   | some L=>match evL body lm rt m (joinS lm rt ((L.filter fun x=>isN x.1).map (·.2))) with
    | none=>none
    | some E=>some ((L.filter fun x=>!isN x.1) ++ E)
theorem evL_ok [Vars] {P:Program} {fl:Nat} {c:Code} {Q:Exit→St→Prop} {lm:Nat} {rt:List Nat} {body:St→Option (List (Exit × St))} (hb:∀(Q:Exit→St→Prop) s L,body s=some L→(∀x ∈ L,Q x.1 x.2)→ze P fl c Q s) :
  ∀(m:Nat) (F:List St) (E:List (Exit × St)),evL body lm rt m F=some E→(∀x ∈ E,Q x.1 x.2)→∀s ∈ F,Zl P fl c Q m s
 | 0,F,E,h,hE,s,hs=>by
  cases F with
  | nil=>cases hs
  | cons a b=>simp only[evL] at h;cases h
 | m + 1,F,E,h,hE,s,hs=>by
  cases F with
  | nil=>cases hs
  | cons a b=>
   simp only[evL] at h
   split at h
   ·cases h
   ·rename_i L hL
    split at h
    ·cases h
    ·rename_i E2 hE2
     cases h
     obtain⟨L',h1,h2⟩:=QE hL s hs
     refine hb _ s L' h1 fun x hx=>?_
     obtain⟨e,st⟩:=x
     have hmem:=h2 _ hx
     have other:isN e=false→Q e st:=fun he=>hE _ (List.mem_append.2 (.inl (List.mem_filter.2 ⟨hmem,by simp[he]⟩)))
     cases e with
     | normal=>
      have:st ∈ (L.filter fun x=>isN x.1).map (·.2):=List.mem_map.2 ⟨_,List.mem_filter.2 ⟨hmem,rfl⟩,rfl⟩
      obtain⟨s',h3,h4⟩:=joinS_wk (lm:=lm) (rt:=rt) this
      exact rounds_wk h4 (evL_ok hb m _ E2 hE2 (fun x hx=>hE x (List.mem_append.2 (.inr hx))) s' h3)
     | _=>exact other rfl
def oneS (lm:Nat) (rt:List Nat) (l:List St):List St:=match l with
 | [s]=>[s]
 | l=>joinS lm rt l
theorem oneS_wk [Vars] {lm:Nat} {rt:List Nat} {l:List St} {s:St} (h:s ∈ l):∃s' ∈ oneS lm rt l,Wk s s':=by
 unfold oneS
 split
 ·exact⟨s,h,rfl,rfl,fun _=>.inr rfl,fun _ _ e=>e⟩
 ·exact joinS_wk h
section
variable (P : Program) (ct : CTr) (cl : CCl)
noncomputable def evDraw [Vars] (lm : Nat) (rt : List Nat) (ops : Array Oper) (st : St) : Option (List St) :=
 match st with | ⟨nt,s,h,n⟩=>fN n fun n0=>fN (n0 + ops.size) fun n1=>match (cR P ct cl ops true ops.size (List.range ops.size)).f n0 rt ⟨nt,s,h,n1⟩ with
 | some L=>some (oneS lm rt L)
 | none=>match (cR P ct cl ops false ops.size (List.range ops.size)).f n0 rt ⟨nt,s,h,n1⟩ with
  | some L=>some (oneS lm rt L)
  | none=>none
def rangeOut (st:St) (h:zI) (n:Nat):Option (List (Exit × St)):=match h st.n with
 | some (.loop stt pend _ _ _ _ _)=>match stt with
  | .busy=>none
  | _=>match pend with
   | none=>some [(.normal,{st with h:=h.upd st.n none,n:=n})]
   | some .ret=>some [(.ret,{st with h:=h.upd st.n none,n:=n})]
   | some (.exit id)=>some [(.exit id,{st with h:=h.upd st.n none,n:=n})]
   | _=>none
 | _=>none
structure CX where
 f:List Nat→St→Option (List (Exit × St))
def seqK (x:Exit × St) (k:St→Option (List (Exit × St))):Option (List (Exit × St)):=match x.1 with
 | .normal=>k x.2
 | e=>some [(e,x.2)]
def condK (v:AV) (a b:Option (List (Exit × St))):Option (List (Exit × St)):=match v with
 | .c (.bool true)=>a
 | .c (.bool false)=>b
 | _=>none
def blkK (id:Nat) (x:Exit × St):Option (List (Exit × St)):=match x.1 with
 | .exit id'=>if id'=id then some [(.normal,x.2)] else some [(.exit id',x.2)]
 | e=>some [(e,x.2)]
def normK (o:Option (List St)):Option (List (Exit × St)):=match o with
 | some L=>some (L.map fun s=>(.normal,s))
 | none=>none
def loopK (lm:Nat) (rt:List Nat) (o:Option (List (Exit × St))):Option (List (Exit × St)):=match o with
 | none=>none
 | some E=>some (joinE lm rt E)
noncomputable def rangeX [Vars] (rt : List Nat) (g : Operand) (ps : Array Tmp) (asg body : Code) (st : St) : Option (List (Exit × St)) := match ev st.s g with
 | .func (.func k) first cap=>if JZ P k then Ju (ct (st.n :: (jT (st.s.map (·.2)) ++ rt)) (.func (.func k) first cap) [.yld st.n] (st.h.upd st.n (some (.loop .ready none st.nt st.s ps asg body))) (st.n + 1)) (fun o=>rangeOut st o.2.1 o.2.2) else none
 | _=>none
noncomputable def cC [Vars] (lm : Nat) (rd : Nat) : Code → CX
 | .skip=>⟨fun _ st=>some [(.normal,st)]⟩
 | .label _=>⟨fun _ st=>some [(.normal,st)]⟩
 | .exit id=>⟨fun _ st=>some [(.exit id,st)]⟩
 | .ret=>⟨fun _ st=>some [(.ret,st)]⟩
 | .seq a b=>⟨fun rt st=>Ju ((cC lm rd a).f rt st) fun x=>seqK x fun s=>(cC lm rd b).f rt s⟩
 | .cond o x y=>⟨fun rt st=>condK ((Go.AM.cX o).f st.s) ((cC lm rd x).f rt st) ((cC lm rd y).f rt st)⟩
 | .block id x=>⟨fun rt st=>Ju ((cC lm rd x).f rt st) fun x=>blkK id x⟩
 | .region _ ops d=>if d then (if P.follows .mixedOrders then ⟨fun rt st=>normK (evDraw P ct cl lm rt ops st)⟩ else ⟨fun _ _=>none⟩)
  else if isNext ops then ⟨fun rt st=>normK (evNext P ct rt ops st)⟩
  else ⟨fun rt st=>match st with | ⟨nt,s,h,n⟩=>fN n fun n0=>fN (n0 + ops.size) fun n1=>normK ((cL P ct ops 0 ops.toList).f n0 rt ⟨nt,s,h,n1⟩)⟩
 | .loop x=>⟨fun rt st=>loopK lm rt (evL (fun s=>(cC lm rd x).f rt s) lm rt rd [st])⟩
 | .rangeFunc g ps asg body=>⟨fun rt st=>rangeX P ct rt g ps asg body st⟩
 | _=>⟨fun _ _=>none⟩
end
section
variable {P : Program} {ct : CTr} {cl : CCl} {fl : Nat}
theorem evDraw_ok [Vars] (hct:qD P ct) (hcl:Q5 P cl) (hm:P.follows .mixedOrders=true) {lm:Nat} {rt:List Nat} {id:Nat} {ops:Array Oper} {st:St} {L:List St} (h:evDraw P ct cl lm rt ops st=some L) {Q:Exit→St→Prop} (hQ:∀s ∈ L,Q .normal s):ze P fl (.region id ops true) Q st:=by
 have key:∀cm L0,evR P ct cl rt ops st.n cm ops.size (List.range ops.size) {st with n:=st.n + ops.size}=some L0→L=oneS lm rt L0→ze P fl (.region id ops true) Q st:=by
  intro cm L0 h1 h2
  refine qx (Q:=fun e s=>e=.normal∧∃s0,Eqv s0 s∧s0 ∈ L0) (ac_any hm (evR_ok hct hcl (fun a b e ⟨s0,e1,e2,e3⟩=>⟨s0,e1.trans e,e2,e3⟩) _ _ _ L0 List.nodup_range h1 fun s hs=>⟨s,Eqv.refl s,rfl,s,Eqv.refl s,hs⟩)) fun e s hq=>?_
  obtain⟨rfl,s0,h3,h4⟩:=hq
  obtain⟨s',h5,h6⟩:=oneS_wk (lm:=lm) (rt:=rt) h4
  refine⟨s',⟨h6.nt.trans h3.1,h6.n.trans h3.2.2.1,fun t=>by rw[←h3.2.2.2 t];exact h6.s t,fun k o e=>by rw[←h3.2.1];exact h6.h k o e⟩,hQ _ (by rw[h2];exact h5)⟩
 obtain⟨nt,s,hp,n⟩:=st
 unfold evDraw at h
 simp only[jS] at h
 split at h
 ·rename_i L0 h1;cases h;rw[cR_eq] at h1;exact key true L0 h1 rfl
 ·split at h
  ·rename_i L0 h1;cases h;rw[cR_eq] at h1;exact key false L0 h1 rfl
  ·cases h
theorem normK_some {o:Option (List St)} {L:List (Exit × St)} (h:normK o=some L):∃l,o=some l∧L=l.map fun s=>(.normal,s):=by
 unfold normK at h
 split at h
 ·rename_i l;cases h;exact⟨l,rfl,rfl⟩
 ·cases h
theorem cC_ok [Vars] (hct:qD P ct) (hcl:Q5 P cl) {lm:Nat} {rd:Nat} {rt:List Nat}:∀(c:Code) (Q:Exit→St→Prop) (st:St) (L:List (Exit × St)),(cC P ct cl lm rd c).f rt st=some L→(∀x ∈ L,Q x.1 x.2)→ze P fl c Q st:=by
 intro c
 induction c with
 | skip=>intro Q st L h hQ;simp only[cC] at h;cases h;exact zL (hQ (.normal,st) (by simp))
 | label l=>intro Q st L h hQ;simp only[cC] at h;cases h;exact ac_label (hQ (.normal,st) (by simp))
 | exit id=>intro Q st L h hQ;simp only[cC] at h;cases h;exact zk (hQ (.exit id,st) (by simp))
 | ret=>intro Q st L h hQ;simp only[cC] at h;cases h;exact zb (hQ (.ret,st) (by simp))
 | seq a b iha ihb=>
  intro Q st L h hQ
  simp only[cC] at h
  obtain⟨l,h1,h2⟩:=jG h
  refine ac_seq (iha _ st l h1 fun x hx=>?_)
  obtain⟨L',h3,h4⟩:=h2 x hx
  obtain⟨e,s⟩:=x
  cases e with
  | normal=>exact ihb Q s L' h3 fun y hy=>hQ y (h4 y hy)
  | _=>cases h3;exact hQ (_,s) (h4 _ List.mem_cons_self)
 | cond o x y ihx ihy=>
  intro Q st L h hQ
  simp only[cC,cX_eq] at h
  unfold condK at h
  split at h
  ·rename_i ho;exact ac_cond ho (fun _=>ihx Q st L h hQ) (fun e=>by cases e)
  ·rename_i ho;exact ac_cond ho (fun e=>by cases e) (fun _=>ihy Q st L h hQ)
  ·cases h
 | block id x ih=>
  intro Q st L h hQ
  simp only[cC] at h
  obtain⟨l,h1,h2⟩:=jG h
  refine zJ (ih _ st l h1 fun x hx=>?_)
  obtain⟨L',h3,h4⟩:=h2 x hx
  obtain⟨e,s⟩:=x
  cases e with
  | exit id'=>
   simp only[blkK] at h3
   simp only[zN]
   split at h3
   ·rename_i c;rw[if_pos c];cases h3;exact hQ (.normal,s) (h4 _ List.mem_cons_self)
   ·rename_i c;rw[if_neg c];cases h3;exact hQ (.exit id',s) (h4 _ List.mem_cons_self)
  | _=>cases h3;exact hQ _ (h4 _ List.mem_cons_self)
 | region id ops d=>
  intro Q st L h hQ
  simp only[cC] at h
  split at h
  ·rename_i hd
   subst hd
   split at h
   ·rename_i hm
    obtain⟨l,hl,rfl⟩:=normK_some h
    exact evDraw_ok hct hcl hm hl fun s hs=>hQ _ (List.mem_map.2 ⟨s,hs,rfl⟩)
   ·cases h
  ·rename_i hd
   have:d=false:=by simpa using hd
   subst this
   split at h
   ·obtain⟨l,hl,rfl⟩:=normK_some h
    exact evNext_ok hct hl fun s hs=>hQ _ (List.mem_map.2 ⟨s,hs,rfl⟩)
   ·obtain⟨nt,s,hp,n⟩:=st
    simp only[jS] at h
    obtain⟨l,hl,rfl⟩:=normK_some h
    rw[cL_eq] at hl
    exact ac_region (qM hct ops.toList 0 _ l hl fun s hs=>hQ _ (List.mem_map.2 ⟨s,hs,rfl⟩))
 | loop x ih=>
  intro Q st L h hQ
  simp only[cC] at h
  unfold loopK at h
  split at h
  ·cases h
  ·rename_i E hE
   cases h
   refine qx (Q:=fun e s=>(e,s) ∈ E) (Z8 rd (evL_ok (fun Q s L h hq=>ih Q s L h hq) rd [st] E hE (fun x hx=>hx) st (by simp))) fun e s hq=>?_
   obtain⟨s',h1,h2⟩:=joinE_wk (lm:=lm) (rt:=rt) hq
   exact⟨s',h2,hQ _ h1⟩
 | rangeFunc g ps asg body=>
  intro Q st L h hQ
  simp only[cC,rangeX] at h
  split at h
  ·rename_i k first cap hg
   split at h
   ·rename_i hgo
    obtain⟨l,h1,h2⟩:=jG h
    refine ac_rangeFunc hg (GCalls.go hgo (hct _ _ _ _ _ l h1 _ fun o ho=>?_))
    obtain⟨L',h3,h4⟩:=h2 o ho
    unfold rangeOut at h3
    unfold rangeK
    split at h3
    ·rename_i stt pend a b c d e hm
     rw[hm]
     split at h3
     ·cases h3
     ·rename_i hne
      refine⟨fun e=>hne e,?_⟩
      split at h3
      ·cases h3;exact hQ _ (h4 _ List.mem_cons_self)
      ·cases h3;exact hQ _ (h4 _ List.mem_cons_self)
      ·cases h3;exact hQ _ (h4 _ List.mem_cons_self)
      ·cases h3
    ·cases h3
   ·cases h
  ·cases h
 | _=>intro Q st L h hQ;simp only[cC] at h;cases h
end
section
variable (P : Program) (rd : Nat)
def okE:Exit→Bool
 | .normal=>true
 | .ret=>true
 | _=>false
structure FO where
 x:AV
 h:List (Nat × AObj)
def foEq (a b:FO):Bool:=jP a.x b.x && pEq oEq a.h b.h
theorem foEq_eq [Vars] (a b:FO) (h:foEq a b=true):a=b:=by
 obtain⟨a1,a2⟩:=a
 obtain⟨b1,b2⟩:=b
 simp only[foEq,Bool.and_eq_true] at h
 rw[qw _ _ h.1,pEq_eq oEq_eq _ _ h.2]
def maxN:List (AV × zI × Nat)→Nat
 | []=>0
 | o :: r=>let m:=maxN r;bif Nat.ble o.2.2 m then m else o.2.2
theorem maxN_le:∀(l:List (AV × zI × Nat)),∀o ∈ l,o.2.2≤maxN l
 | [],o,h=>by cases h
 | p :: r,o,h=>by
  simp only[maxN]
  cases hb:Nat.ble p.2.2 (maxN r) with
  | true=>
   simp only[cond_true]
   rcases List.mem_cons.1 h with rfl | h
   ·exact Nat.le_of_ble_eq_true hb
   ·exact maxN_le r o h
  | false=>
   simp only[cond_false]
   have:maxN r≤p.2.2:=by
    rcases Nat.le_total p.2.2 (maxN r) with h' | h'
    ·rw[Nat.ble_eq_true_of_le h'] at hb;cases hb
    ·exact h'
   rcases List.mem_cons.1 h with rfl | h
   ·exact Nat.le_refl _
   ·exact Nat.le_trans (maxN_le r o h) this
def joinO (rt:List Nat) (L:List (AV × zI × Nat)):List (AV × zI × Nat):=match L with
 | []=>[]
 | [o]=>[o]
 | L=>let m:=maxN L;(ddup foEq (L.map fun o=>⟨o.1,QW o.2.1 3000 (refs o.1 ++ rt) []⟩)).map fun o=>(o.x,lookO o.h,m)
theorem joinO_ok [Vars] {fl:Nat} {K:AV→zI→Nat→Prop} {rt:List Nat} {L:List (AV × zI × Nat)} (h:∀o ∈ joinO rt L,Zg fl K o.1 o.2.1 o.2.2):∀o ∈ L,Zg fl K o.1 o.2.1 o.2.2:=by
 unfold joinO at h
 split at h
 ·intro o ho;cases ho
 ·exact h
 ·intro o ho
  have h1:(⟨o.1,QW o.2.1 3000 (refs o.1 ++ rt) []⟩:FO) ∈ ddup foEq (L.map fun o=>⟨o.1,QW o.2.1 3000 (refs o.1 ++ rt) []⟩):=QS foEq_eq _ _ (List.mem_map.2 ⟨o,ho,rfl⟩)
  have h2:=h _ (List.mem_map.2 ⟨_,h1,rfl⟩)
  refine ret_step (fun w0 G w v I f hr hl=>⟨G,⟨Ext.refl _ _,rfl⟩,I.sub (Qg _ _),fun k hk=>f k (Nat.le_trans (maxN_le L o ho) hk),hr,Nat.le_trans hl (maxN_le L o ho)⟩) h2
def joinOO (rt:List Nat):Outs→Outs
 | some L=>some (joinO rt L)
 | none=>none
noncomputable def evBody [Vars] (ct : CTr) (cl : CCl) (rt : List Nat) (g : FuncId) (full : List AV) (h : zI) (n : Nat) : Outs := match P.funcs[g]? with
 | none=>none
 | some fn=>match fn.body with
  | none=>none
  | some c=>if JZ P g && decide (full.length≤fn.ntmps) then joinOO rt <| Ju ((cC P ct cl (Jl c ||| liveR fn.results.toList) rd c).f rt ⟨fn.ntmps,zu 0 full,h,n⟩) fun x=>if okE x.1 then match j5 P x.2.s x.2.h fn.results.toList with
    | some xs=>some [(zr xs,x.2.h,x.2.n)]
    | none=>none
   else none
  else none
noncomputable def qY [Vars] (ct : CTr) (cl : CCl) (g : FuncId) (full : List AV) : Option (List AV) := if (jT full).isEmpty then match evBody P rd ct cl [] g full (fun _ => none) 0 with
  | none=>none
  | some L=>let R:=ddup jP (L.map fun o=>deepF 100 o.2.1 o.1);if R.all fun x=>(refs x).isEmpty then some R else none
 else none
noncomputable def evYield [Vars] (ct : CTr) (cl : CCl) (rt : List Nat) (m : Nat) (args : List AV) (h : zI) (n : Nat) : Outs := match h m with
 | some (.loop .ready none nt s ps asg body)=>if args.length=ps.size∧ps.all (·< nt)=true then
   Ju ((cC P ct cl (Jl asg ||| Jl body) rd asg).f (m :: rt) ⟨nt,Zk s ps.toList args,h,n⟩) fun x=>match x.1 with
    | .normal=>match x.2.h m with
     | some (.loop .ready none nt' s' ps' asg' body')=>Ju ((cC P ct cl (Jl asg ||| Jl body) rd body).f (m :: rt) {x.2 with h:=x.2.h.upd m (some (.loop .busy none nt' s' ps' asg' body'))}) fun y=>match y.2.h m with
      | some (.loop .busy none a b c d e)=>match y.1 with
       | .normal=>some [(.c (.bool true),y.2.h.upd m (some (.loop .ready none a b c d e)),y.2.n)]
       | .ret=>some [(.c (.bool false),y.2.h.upd m (some (.loop .done (some .ret) a b c d e)),y.2.n)]
       | .exit id=>some [(.c (.bool false),y.2.h.upd m (some (.loop .done (some (.exit id)) a b c d e)),y.2.n)]
       | _=>none
      | _=>none
     | _=>none
    | _=>none
  else none
 | _=>none
end
section
variable {P : Program} {rd : Nat} {ct : CTr} {cl : CCl}
theorem evBody_ok [Vars] (hct:qD P ct) (hcl:Q5 P cl) {rt:List Nat} {g:FuncId} {full:List AV} {h:zI} {n:Nat} {L:List (AV × zI × Nat)} (he:evBody P rd ct cl rt g full h n=some L) {K:AV→zI→Nat→Prop} (hK:∀o ∈ L,Zg n K o.1 o.2.1 o.2.2):zQ P g full h n K:=by
 unfold evBody at he
 split at he
 ·cases he
 ·rename_i fn hf
  split at he
  ·cases he
  ·rename_i c hb
   split at he
   ·rename_i hc
    simp only[Bool.and_eq_true,decide_eq_true_eq] at hc
    unfold joinOO at he
    split at he
    case h_2=>cases he
    rename_i L0 he0
    cases he
    replace hK:=joinO_ok hK
    obtain⟨l,h1,h2⟩:=jG he0
    refine za hf hb hc.1 hc.2 (cC_ok hct hcl c _ _ l h1 fun x hx=>?_)
    obtain⟨L',h3,h4⟩:=h2 x hx
    split at h3
    ·rename_i ho
     split at h3
     ·rename_i xs hxs
      cases h3
      refine⟨?_,xs,hxs,hK _ (h4 _ List.mem_cons_self)⟩
      obtain⟨e,s⟩:=x
      cases e <;> first | exact .inl rfl | exact .inr rfl | cases ho
     ·cases h3
    ·cases h3
   ·cases he
theorem QG [Vars] (hct:qD P ct) (hcl:Q5 P cl) {g:FuncId} {full:List AV} {R:List AV} (he:qY P rd ct cl g full=some R) {h:zI} {n:Nat} {K:AV→zI→Nat→Prop} (hK:∀x ∈ R,K x h n):zQ P g full h n K:=by
 unfold qY at he
 split at he
 ·rename_i hr
  split at he
  ·cases he
  ·rename_i L hL
   simp only at he
   split at he
   ·rename_i hn
    cases he
    refine zQ.closed (Kc:=fun x=>x ∈ ddup jP (L.map fun o=>deepF 100 o.2.1 o.1)) (Z0 full (List.isEmpty_iff.1 hr)) (evBody_ok hct hcl hL fun o ho=>?_) hK
    have hm:deepF 100 o.2.1 o.1 ∈ ddup jP (L.map fun o=>deepF 100 o.2.1 o.1):=QS qw _ _ (List.mem_map.2 ⟨o,ho,rfl⟩)
    have:=ret_deepF (fl:=0) (K:=fun x=>Zg 0 (fun x _ _=>below 0 x∧x ∈ ddup jP (L.map fun o=>deepF 100 o.2.1 o.1)) x o.2.1 o.2.2∨True) 0 o.2.1 o.1 (n:=o.2.2) (.inr trivial)
    refine zY (ret_deepF (K:=fun x=>below 0 x∧x ∈ ddup jP (L.map fun o=>deepF 100 o.2.1 o.1)) 100 o.2.1 o.1 ⟨refs_below _ (List.isEmpty_iff.1 (List.all_eq_true.1 hn _ hm)),hm⟩)
   ·cases he
 ·cases he
theorem evYield_ok [Vars] (hct:qD P ct) (hcl:Q5 P cl) {rt:List Nat} {m:Nat} {args:List AV} {h:zI} {n:Nat} {L:List (AV × zI × Nat)} (he:evYield P rd ct cl rt m args h n=some L) {K:AV→zI→Nat→Prop} (hK:∀o ∈ L,K o.1 o.2.1 o.2.2):yieldK P m args h n K:=by
 unfold evYield at he
 unfold yieldK
 split at he
 ·rename_i nt s ps asg body hm
  rw[hm]
  split at he
  ·rename_i hc
   refine⟨hc,?_⟩
   obtain⟨l,h1,h2⟩:=jG he
   refine cC_ok hct hcl asg _ _ l h1 fun x hx=>?_
   obtain⟨L',h3,h4⟩:=h2 x hx
   obtain⟨e,st⟩:=x
   cases e with
   | normal=>
    simp only at h3
    split at h3
    ·rename_i nt' s' ps' asg' body' hm'
     refine⟨nt',s',ps',asg',body',hm',?_⟩
     obtain⟨l2,h5,h6⟩:=jG h3
     refine cC_ok hct hcl body _ _ l2 h5 fun y hy=>?_
     obtain⟨L2,h7,h8⟩:=h6 y hy
     obtain⟨e2,st2⟩:=y
     simp only at h7
     split at h7
     ·rename_i a b c d e hm2
      cases e2 with
      | normal=>cases h7;exact⟨a,b,c,d,e,hm2,hK _ (h4 _ (h8 _ List.mem_cons_self))⟩
      | ret=>cases h7;exact⟨a,b,c,d,e,hm2,hK _ (h4 _ (h8 _ List.mem_cons_self))⟩
      | exit id=>cases h7;exact⟨a,b,c,d,e,hm2,hK _ (h4 _ (h8 _ List.mem_cons_self))⟩
      | _=>cases h7
     ·cases h7
    ·cases h3
   | _=>cases h3
  ·cases he
 ·cases he
end
end Go.AM
namespace Go.AM
open Go.RowKit
def J4 [Vars] (P:Program) (f:FuncId) (args:List AV) (h:zI) (n:Nat) (K:AV→zI→Nat→Prop):Prop:=
 JZ P f=true∧∀w0 G w vs,Inv w0 G h w→Zs n G→RvL G args vs→
  CallsDIn (FR none) 0 P f vs.toArray .returning w fun e u' w'=>u'=.returning∧qU w0 n G K e w'
structure XE (fl:Nat) (G G':Gh):Prop where
 reg:∀k,k < fl→G'.reg k=G.reg k
 imm:∀a v,G.imm a=some v→G'.imm a=some v
 lps:∀b ∈ G.lps,b ∈ G'.lps
theorem XE.ext {fl m:Nat} {a b c:Gh} (h:XE fl a b) (k:Ext m b c) (hm:fl≤m):XE fl a c:=
 ⟨fun i hi=>(k.reg i (by omega)).trans (h.reg i hi),fun _ _ e=>k.imm _ _ (h.imm _ _ e),fun _ x=>k.lps _ (h.lps _ x)⟩
theorem XE.same {fl:Nat} {a b c:Gh} (h:XE fl a b) (h1:c.reg=b.reg) (h2:c.imm=b.imm) (h3:c.lps=b.lps):XE fl a c:=
 ⟨fun i hi=>by rw[h1];exact h.reg i hi,fun _ _ e=>by rw[h2];exact h.imm _ _ e,fun _ x=>by rw[h3];exact h.lps _ x⟩
def Fin [Vars] (P:Program) (fn:Func) (n:Nat) (K:AV→zI→Nat→Prop) (st:St):Prop:=n≤st.n∧∃xs,j5 P st.s st.h fn.results.toList=some xs∧Zg n K (zr xs) st.h st.n
section
variable {P : Program} {fn : Func} {n : Nat} {K : AV → zI → Nat → Prop} {w0 : World} {G : Gh} {h : zI} {w : World}
theorem qS [Vars] (I:Inv w0 G h w) {G1:Gh} {st':St} {tmps:Array Value} {w1:World} (S1:Sim w0 G1 st' {tmps,defers:=[]} w1) (X:XE n G G1) (q4:G1.own=[]) (q5:G1.base=(G.own ++ G.base.1,[],G.base.2.2)) (hF:Fin P fn n K st') :
  LeavesInM (FR none) 0 P fn tmps (qU w0 n G K) [] .returning w1:=by
 obtain⟨e2,xs,e4,x',h',n',e5,e6⟩:=hF
 obtain⟨v,h1,h2⟩:=res_ok S1 e4
 obtain⟨G2,⟨g1,g1'⟩,g2,g3,g4,g5⟩:=e5 w0 G1 w1 v S1.inv S1.fresh h2 e2
 have o2:G2.own=[]:=by rw[g1',q4]
 have b2:G2.base=(G.own ++ G.base.1,[],G.base.2.2):=by rw[g1.base,q5]
 refine⟨v,h1,{G2 with own:=G.own,base:=G.base},v,x',h',n',rfl,⟨⟨fun k hk=>?_,fun a v e=>g1.imm _ _ (X.imm a v e),⟨[],rfl⟩,rfl,fun k hk=>g1.lps k (X.lps k hk)⟩,rfl⟩,
  g2.reoth rfl rfl ⟨fun k hk=>⟨g2.oth.base k (by rw[b2];exact List.mem_append.2 (.inl hk)),(I.oth.own k hk).2⟩,fun k hk=>g2.oth.base k (by rw[b2];exact List.mem_append.2 (.inr hk)),I.oth.nd,g2.oth.lps,fun a v e hl=>by have:=g2.oth.old a v e hl;rw[b2] at this;exact this,g2.oth.vars,g2.oth.tabs⟩,g3,g5,Rv.mono (show VLe G2 {G2 with own:=G.own,base:=G.base} from ⟨fun _ _ e=>e,fun _ _ e=>e⟩) _ _ g4,e6⟩
 show G2.reg k=G.reg k
 rw[g1.reg k hk,X.reg k hk]
theorem jo [Vars] {st':St} {tmps:Array Value} {D:List Deferred} {R:Ending→World→Prop}:∀(l:List Nat) (G1:Gh) (w1:World),G1.own=l→G1.base.2.1=D→Sim w0 G1 st' {tmps,defers:=l.map mark ++ D} w1→
  (∀w2,Sim w0 {G1 with own:=[]} st' {tmps,defers:=D} w2→LeavesInM (FR none) 0 P fn tmps R D .returning w2)→LeavesInM (FR none) 0 P fn tmps R (l.map mark ++ D) .returning w1
 | [],G1,w1,q4,_,S1,h=>by
  have:{G1 with own:=[]}=G1:=by cases G1;simp_all
  rw[this] at h
  exact h w1 S1
 | b :: l,G1,w1,q4,q5,S1,h=>by
  refine⟨by simp,.inl ⟨b,_,rfl,run_takeDeferred (S1.inv.oth.own b (by rw[q4];simp)).1,?_⟩⟩
  exact jo l {G1 with own:=l} _ rfl q5 ⟨S1.inv.shut q4,S1.size,by simp[q5],fun t=>Rv.mono (show VLe G1 {G1 with own:=l} from ⟨fun _ _ e=>e,fun _ _ e=>e⟩) _ _ (S1.slots t),S1.fresh⟩ h
def DOk (G:Gh) (d:Deferred) (g:FuncId) (dl:List AV):Prop:=∃f' c':Array Value,d = {target:=.fn (.func g) c',args:=f'}∧RvL G dl (f'.toList ++ c'.toList)
theorem leave_defer [Vars] (I:Inv w0 G h w) {G1:Gh} {st':St} {tmps:Array Value} {w1:World} {lo:List Nat} {d:Deferred} {g:FuncId} {dl:List AV}
  (S1:Sim w0 G1 st' {tmps,defers:=d :: lo.map mark} w1) (X:XE n G G1) (hn:n≤st'.n) (q4:G1.own=[]) (q5:G1.base=(lo ++ (G.own ++ G.base.1),d :: lo.map mark,G.base.2.2)) (hlo:∀b ∈ lo,w0.heap.size≤b)
  (hd:DOk G1 d g dl) (hc:J4 P g dl st'.h st'.n fun _ h' n'=>Fin P fn n K {st' with h:=h',n:=n'}):LeavesInM (FR none) 0 P fn tmps (qU w0 n G K) (d :: lo.map mark) .returning w1:=by
 obtain⟨f',c',rfl,hv⟩:=hd
 obtain⟨hgo,hc⟩:=hc
 have hcall:=hc w0 G1 w1 _ S1.inv S1.fresh hv
 have harr:(f'.toList ++ c'.toList).toArray=f' ++ c':=by apply Array.ext';simp
 rw[harr] at hcall
 refine⟨by simp,.inr ⟨qZ none,.func g,c',g,f' ++ c',rfl,?_,fun _ _=>trivial,hcall.mono ?_⟩⟩
 ·simp only[invoke,jp hgo]
 ·rintro e u' w2 ⟨rfl,G',r,x,h',n',rfl,⟨e2,eo⟩,e3,e4,e5,e6,e7⟩
  simp only[settle]
  have hle:=e2.le S1.fresh
  have hb:G'.base=(lo ++ (G.own ++ G.base.1),{target:=.fn (.func g) c',args:=f'} :: lo.map mark,G.base.2.2):=by rw[e2.base,q5]
  have ho:G'.own=[]:=by rw[eo,q4]
  have S2:Sim w0 {G' with own:=lo,base:=(G.own ++ G.base.1,[],G.base.2.2)} {st' with h:=h',n:=n'} {tmps,defers:=lo.map mark ++ []} w2:=by
   refine⟨e3.reoth rfl rfl ⟨fun k hk=>⟨e3.oth.base k (by rw[hb];exact List.mem_append.2 (.inl hk)),hlo k hk⟩,fun k hk=>e3.oth.base k (by rw[hb];exact List.mem_append.2 (.inr hk)),?_,e3.oth.lps,fun a v e hl=>by have:=e3.oth.old a v e hl;rw[hb] at this;exact this,e3.oth.vars,e3.oth.tabs⟩,S1.size,rfl,fun t=>Rv.mono (G:=G1) (G':={G' with own:=lo,base:=(G.own ++ G.base.1,[],G.base.2.2)}) ⟨hle.reg,hle.imm⟩ _ _ (S1.slots t),e4⟩
   have:=e3.oth.nd
   rw[ho,hb] at this
   simpa using this
  have:=jo (P:=P) (fn:=fn) (R:=qU w0 n G K) (D:=[]) lo _ w2 rfl rfl S2 fun w3 S3=>qS I S3 ⟨fun k hk=>?_,fun a v e=>e2.imm _ _ (X.imm _ _ e),fun b hb=>e2.lps _ (X.lps _ hb)⟩ rfl rfl e7
  ·simpa using this
  ·show G'.reg k=G.reg k
   rw[e2.reg k (by omega),X.reg k hk]
def DC [Vars] (P:Program) (fn:Func) (n:Nat) (K:AV→zI→Nat→Prop) (c:Code) (st:St):Prop:=
 ∀(w0:World) (G:Gh) (h:zI) (w:World),Inv w0 G h w→∀G1 a w1,XE n G G1→G1.base=(G.own ++ G.base.1,[],G.base.2.2)→Sim w0 G1 st a w1→n≤st.n→
  Code.wpIn (FR none) 0 P c (fun e a' w'=>(e=.normal∨e=.ret)∧LeavesInM (FR none) 0 P fn a'.tmps (qU w0 n G K) a'.defers .returning w') a w1
theorem dc_fin [Vars] {w0:World} {G:Gh} {h:zI} {w:World} (I:Inv w0 G h w) {G1:Gh} {st:St} {a:Act} {w1:World} (X:XE n G G1) (hb:G1.base=(G.own ++ G.base.1,[],G.base.2.2)) (S:Sim w0 G1 st a w1) (hF:Fin P fn n K st) :
  LeavesInM (FR none) 0 P fn a.tmps (qU w0 n G K) a.defers .returning w1:=by
 have hd:a.defers=G1.own.map mark ++ []:=by rw[S.defers,hb]
 rw[hd]
 exact jo G1.own G1 w1 rfl (by rw[hb]) ⟨S.inv,S.size,by rw[hb],S.slots,S.fresh⟩ fun w2 S2=>qS I S2 (X.same rfl rfl rfl) rfl hb hF
theorem dc_code [Vars] {c:Code} {st:St} (hc:ze P n c (fun e s=>(e=.normal∨e=.ret)∧Fin P fn n K s) st):DC P fn n K c st:=by
 intro w0 G h w I G1 a w1 X hb S hn
 refine wpIn_mono (hc none w0 G1 a w1 (fun l hl=>by cases hl) S hn) ?_
 rintro e a' w' ⟨G',st',e1,e2,e3,he,hF⟩
 exact⟨he,dc_fin I (X.ext e1 (Nat.le_refl _)) (by rw[e1.base,hb]) e3 hF⟩
def dcK [Vars] (P:Program) (fn:Func) (n:Nat) (K:AV→zI→Nat→Prop) (y:Code):Exit→St→Prop
 | .normal,s=>DC P fn n K y s
 | .ret,s=>Fin P fn n K s
 | _,_=>False
theorem dc_seq [Vars] {x y:Code} {st:St} (hc:ze P n x (dcK P fn n K y) st):DC P fn n K (.seq x y) st:=by
 intro w0 G h w I G1 a w1 X hb S hn
 refine wpIn_seq (wpIn_mono (hc none w0 G1 a w1 (fun l hl=>by cases hl) S hn) ?_)
 rintro e a' w' ⟨G',st',e1,e2,e3,hq⟩
 cases e with
 | normal=>exact hq w0 G h w I G' a' w' (X.ext e1 (Nat.le_refl _)) (by rw[e1.base,hb]) e3 e2
 | ret=>exact⟨.inr rfl,dc_fin I (X.ext e1 (Nat.le_refl _)) (by rw[e1.base,hb]) e3 hq⟩
 | _=>exact hq.elim
theorem ops_okR [Vars] {fl:Nat} {r:Option Nat} {w0:World} {G0:Gh} {base:Nat} (hfl:fl≤base) {ops:Array Oper} {K:St→Prop} {Q':Exit→Act→World→Prop} {rest:List Oper}
  (hK:∀G st a w,RSim w0 G0 fl base [] G st a w→K st→wpListIn (FR r) 0 P ops Q' rest a w):∀(l:List Oper) (i:Nat) (G:Gh) (st:St) (a:Act) (w:World),
  RSim w0 G0 fl base (List.range' i l.length) G st a w→Jb P ops base K i l st→wpListIn (FR r) 0 P ops Q' (l ++ rest) a w
 | [],i,G,st,a,w,S,h=>hK G st a w (S.sub (by simp)) h
 | o :: rs,i,G,st,a,w,S,h=>by
  refine wpListIn_step fun K' hK'=>?_
  simp only[List.length_cons,List.range'_succ] at S
  refine op_ok S hfl (by simp[List.mem_range'];omega) h (next:=K') ?_ r
  intro G' st' a' w' S' h'
  exact hK' a' w' (ops_okR hfl hK rs (i + 1) G' st' a' w' S' h')
def defK [Vars] (P:Program) (fn:Func) (n:Nat) (K:AV→zI→Nat→Prop) (fo:Operand) (as:List Operand) (B:Code) (st:St):Prop:=
 n≤st.n→∃g first cap,ev st.s fo=.func (.func g) first cap∧
  ze P st.n B (fun e s=>(e=.normal∨e=.ret)∧n≤s.n∧J4 P g (first ++ as.map (ev st.s) ++ cap) s.h s.n fun _ h' n'=>Fin P fn n K {s with h:=h',n:=n'}) st
theorem dc_defer [Vars] {id:Nat} {ops:Array Oper} {pre:List Oper} {o:Oper} {c:Call} {fo:Operand} {B:Code} {st:St} (hops:ops.toList=pre ++ [o]) (ho:o.op=.defer c) (hc:c.callee=.value fo) (hg:o.guard=none) (hdst:o.dst=none)
  (hp:Jb P ops st.n (defK P fn n K fo c.args.toList B) 0 pre {st with n:=st.n + ops.size}):DC P fn n K (.seq (.region id ops false) B) st:=by
 intro w0 G h w I G1 a w1 X hb S hn
 refine wpIn_seq (wpIn_region_list ?_)
 rw[hops]
 have hsz:pre.length≤ops.size:=by rw[←Array.length_toList,hops];simp
 refine ops_okR (fl:=n) (r:=none) (w0:=w0) (G0:=G1) hn ?_ pre 0 G1 _ a w1 (ZD S hn ops.size _ (fun j hj=>by simp only[List.mem_range'] at hj;obtain⟨k,hk,rfl⟩:=hj;omega)) hp
 intro G2 s a2 w2 S2 hdk
 obtain⟨g,first,cap,hf,hB⟩:=hdk S2.lim
 refine wpListIn_step fun K' hK'=>?_
 have hw:Region.wanted o (yielded ops a2.tmps)=true:=by simp[Region.wanted,hg]
 rw[hw]
 simp only[if_true]
 have hev:=Qe S2.sim.inv.oth.vars S2.sim.slots
 have hfv:=hev fo
 rw[hf] at hfv
 simp only[Rv] at hfv
 obtain⟨f',c',hfe,hfr,hcr⟩:=hfv
 have hrun:(execOp a2.eval o).run P w2=.ok (.defer {target:=.fn (.func g) c',args:=f' ++ c.args.map a2.eval}) w2:=by
  simp only[execOp,ho,resolve,hc,hfe,Deferred.ofValue,Sem.run_bind,Sem.run_pure,Result.andThen_ok]
 refine⟨fun _ _=>trivial,?_⟩
 have e0:o.semAt (FR none).round a2.eval=execOp a2.eval o:=Oper.semAt_none _ _
 rw[e0,hrun,Oper.uponIn_defer]
 apply hK'
 refine wpListIn_nil ?_
 obtain⟨d,hd⟩:∃d:Deferred,d = {target:=.fn (.func g) c',args:=f' ++ c.args.map a2.eval}:=⟨_,rfl⟩
 rw[←hd]
 have hb2:G2.base=(G.own ++ G.base.1,[],G.base.2.2):=by rw[S2.ext.base,hb]
 obtain⟨G3,hG3⟩:∃G3:Gh,G3 = {G2 with own:=[],base:=(G2.own ++ (G.own ++ G.base.1),d :: G2.own.map mark,G.base.2.2)}:=⟨_,rfl⟩
 have hv3:VLe G2 G3:=by rw[hG3];exact⟨fun _ _ e=>e,fun _ _ e=>e⟩
 have S3:Sim w0 G3 s {tmps:=a2.tmps,defers:=d :: a2.defers} w2:=by
  have S:=S2.sim
  refine⟨S.inv.reoth (by rw[hG3]) (by rw[hG3]) ?_,S.size,by rw[hG3,S.defers,hb2];simp,fun t=>(S.slots t).mono hv3,by rw[hG3];exact S.fresh⟩
  rw[hG3]
  have o:=S.inv.oth
  refine⟨fun k hk=>(by cases hk),fun k hk=>?_,?_,o.lps,fun a v e hl=>by have:=o.old a v e hl;rw[hb2] at this;exact this,o.vars,o.tabs⟩
  ·rcases List.mem_append.1 hk with h' | h'
   ·exact (o.own k h').1
   ·exact o.base k (by rw[hb2];exact h')
  ·have:=o.nd
   rw[hb2] at this
   simpa using this
 have hput:(({a2 with defers:=d :: a2.defers}:Act).put o.dst undef) = {tmps:=a2.tmps,defers:=d :: a2.defers}:=by rw[hdst];rfl
 rw[hput]
 refine wpIn_mono (hB none w0 G3 _ w2 (fun l hl=>by cases hl) S3 (Nat.le_refl _)) ?_
 rintro e a4 w4 ⟨G4,s4,x1,x2,x3,he,hn4,hD⟩
 refine⟨he,?_⟩
 have hb4:G4.base=(G2.own ++ (G.own ++ G.base.1),d :: G2.own.map mark,G.base.2.2):=by rw[x1.base,hG3]
 have hd4:a4.defers=G4.own.map mark ++ (d :: G2.own.map mark):=by rw[x3.defers,hb4]
 have X3:XE n G G3:=(X.ext S2.ext (Nat.le_refl _)).same (by rw[hG3]) (by rw[hG3]) (by rw[hG3])
 have X4:XE n G G4:=X3.ext x1 (Nat.le_trans (by have:=S2.lim;omega) (Nat.le_refl _))
 have f3:Zs s.n G3:=S3.fresh
 rw[hd4]
 refine jo G4.own G4 w4 rfl (by rw[hb4]) ⟨x3.inv,x3.size,by rw[hb4],x3.slots,x3.fresh⟩ fun w5 S5=>?_
 refine leave_defer (dl:=first ++ c.args.toList.map (ev s.s) ++ cap) I S5 (X4.same rfl rfl rfl) hn4 rfl hb4 (fun b hb=>(S2.sim.inv.oth.own b hb).2) ⟨f' ++ c.args.map a2.eval,c',hd,?_⟩ hD
 have hargs:=RvL.append (RvL.append hfr (JH hev c.args.toList)) hcr
 have:=(hargs.mono hv3).mono (x1.le f3)
 have h5:=RvL.mono (show VLe G4 {G4 with own:=[]} from ⟨fun _ _ e=>e,fun _ _ e=>e⟩) _ _ this
 simpa using h5
theorem calls_of_dc [Vars] {f:FuncId} {fn:Func} {c:Code} {args:List AV} {h:zI} {n:Nat} {K:AV→zI→Nat→Prop} (hf:P.funcs[f]? = some fn) (hb:fn.body=some c) (hgo:JZ P f=true) (hlen:args.length≤fn.ntmps)
  (hc:DC P fn n K c {nt:=fn.ntmps,s:=zu 0 args,h,n}):zQ P f args h n K:=by
 refine⟨hgo,fun w0 G w vs I hfr hr=>?_⟩
 have hl:=hr.length
 obtain⟨Gc,hGc⟩:∃Gc:Gh,Gc = {G with own:=[],base:=(G.own ++ G.base.1,[],G.base.2.2)}:=⟨_,rfl⟩
 have r1:Gc.reg=G.reg:=by rw[hGc]
 have i1:Gc.imm=G.imm:=by rw[hGc]
 have hv1:VLe G Gc:=⟨fun k r e=>by rw[r1];exact e,fun a v e=>by rw[i1];exact e⟩
 have Ic:Inv w0 Gc h w:=I.reoth r1 i1 (by
  rw[hGc]
  refine⟨by simp,fun k hk=>?_,by simpa using I.oth.nd,I.oth.lps,I.oth.old,I.oth.vars,I.oth.tabs⟩
  rcases List.mem_append.1 hk with h' | h'
  ·exact (I.oth.own k h').1
  ·exact I.oth.base k h')
 have hrc:RvL Gc args vs:=hr.mono hv1
 have hfc:Zs n Gc:=fun k hk=>by rw[r1];exact hfr k hk
 refine callsIn_wide.1 (callsIn_of_wp_marks (F:=FR none) (n:=0) hf hb trivial (wpIn_mono (hc w0 G h w I Gc _ w ⟨fun k _=>by rw[r1],fun a v e=>by rw[i1];exact e,fun k hk=>by rw[hGc];exact hk⟩ (by rw[hGc]) ⟨Ic,by simp;omega,by rw[hGc];rfl,fun t=>?_,hfc⟩ (Nat.le_refl _)) ?_))
 ·have:=jK args vs 0 hrc t
  simp only[Nat.zero_le,if_true,Nat.sub_zero] at this
  have e:(vs.toArray ++ Array.replicate (fn.ntmps - vs.toArray.size) undef).getD t undef=vs.getD t undef:=by
   simp only[Array.getD_eq_getD_getElem?,List.getD_eq_getElem?_getD]
   rcases Nat.lt_or_ge t vs.length with ht | ht
   ·rw[Array.getElem?_append_left (by simpa using ht)];simp
   ·rw[Array.getElem?_append_right (by simpa using ht),List.getElem?_eq_none ht]
    simp only[Array.getElem?_replicate]
    split <;> rfl
  rw[e];exact this
 ·rintro e a' w' ⟨rfl | rfl,hL⟩ <;> exact hL
end
end Go.AM
namespace Go.AM
open Go.RowKit
def isRec:Op→Bool
 | .call {callee:=.builtin .recover,..}=>true
 | _=>false
def evOpsR [Vars] (P:Program) (base:Nat):Nat→List Oper→St→Option St
 | _,[],st=>some st
 | i,o :: r,st=>if o.guard=none∧Zh st.nt o.dst=true then
   if isRec o.op then evOpsR P base (i + 1) r (put st o.dst (.c .nilIface)) else match zc P (base + i) o.op st.s st.h with
    | some (x,h)=>evOpsR P base (i + 1) r (put {st with h:=h} o.dst x)
    | none=>none
  else none
def QI [Vars] (P:Program):Code→St→Option (Exit × St)
 | .skip,st=>some (.normal,st)
 | .label _,st=>some (.normal,st)
 | .exit id,st=>some (.exit id,st)
 | .ret,st=>some (.ret,st)
 | .seq a b,st=>match QI P a st with
  | some (.normal,s)=>QI P b s
  | r=>r
 | .cond o x y,st=>match ev st.s o with
  | .c (.bool true)=>QI P x st
  | .c (.bool false)=>QI P y st
  | _=>none
 | .block id x,st=>match QI P x st with
  | some (.exit id',s)=>if id'=id then some (.normal,s) else some (.exit id',s)
  | r=>r
 | .region _ ops d,st=>if d then none else match evOpsR P st.n 0 ops.toList {st with n:=st.n + ops.size} with
  | some s=>some (.normal,s)
  | none=>none
 | _,_=>none
section
variable {F : Fence} {n : Nat} {P : Program} {Q : Exit → Act → List Frame → World → Prop} {a : Act} {cs : List Frame} {w : World}
def inBlockS (id:Nat) (Q:Exit→Act→List Frame→World→Prop):Exit→Act→List Frame→World→Prop
 | .normal,a,cs,w=>Q .normal a cs w
 | .exit id',a,cs,w=>if id'=id then Q .normal a cs w else Q (.exit id') a cs w
 | e,a,cs,w=>Q e a cs w
theorem wpSIn_block {id:Nat} {c:Code} (h:c.wpSIn F n P (inBlockS id Q) a cs w):(Code.block id c).wpSIn F n P Q a cs w:=by
 intro b k hbk hbr hb hr
 have h0:(lone (b.atR a (.code (.block id c) :: k)) cs w).fenced P F:=fenced_calm hb hr rfl
 obtain⟨e,a₁,cs₁,w₁,hl,hq,harr⟩:=h b (.inBlock id :: k) hbk hbr hb hr
 cases e with
 | normal=>exact⟨.normal,a₁,cs₁,w₁,hl,hq,.head h0 stepR_block (StepsIn.trans harr (.one (fenced_calm hb (hl ▸ hr) rfl) stepR_inBlock))⟩
 | exit id'=>
  by_cases hid:id'=id
  ·simp only[inBlockS,hid,if_true] at hq
   exact⟨.normal,a₁,cs₁,w₁,hl,hq,.head h0 stepR_block (harr.1 k (by simp[exitTo,hid]))⟩
  ·simp only[inBlockS,hid,if_false] at hq
   have this:(id == id')=false:=by simp;exact fun h=>hid h.symm
   have hx:exitTo id' (.inBlock id :: k)=exitTo id' k:=by simp[exitTo,this]
   exact⟨.exit id',a₁,cs₁,w₁,hl,hq,fun k' hk=>.head h0 stepR_block (harr.1 k' (by rw[hx];exact hk)),
    fun hr' hk=>let ⟨k₁,h1,h2⟩:=harr.2 hr' (by rw[hx];exact hk);⟨k₁,h1,.head h0 stepR_block h2⟩⟩
 | goto l=>
  have hx:gotoIn l (.inBlock id :: k)=gotoIn l k:=by simp[gotoIn]
  exact⟨_,a₁,cs₁,w₁,hl,hq,fun k' hk=>.head h0 stepR_block (harr.1 k' (by rw[hx];exact hk)),
   fun hr' hk=>let ⟨k₁,h1,h2⟩:=harr.2 hr' (by rw[hx];exact hk);⟨k₁,h1,.head h0 stepR_block h2⟩⟩
 | ret=>exact⟨_,a₁,cs₁,w₁,hl,hq,.of_steps (.one h0 stepR_block) harr⟩
 | panic ch=>exact⟨_,a₁,cs₁,w₁,hl,hq,.of_steps (.one h0 stepR_block) harr⟩
 | outgrown=>exact⟨_,a₁,cs₁,w₁,hl,hq,.of_steps (.one h0 stepR_block) harr⟩
theorem JC {c:Code} {Q':Exit→Act→List Frame→World→Prop} (h:c.wpSIn F n P Q a cs w) (hq:∀e a cs w,Q e a cs w→Q' e a cs w):c.wpSIn F n P Q' a cs w:=
 fun b k h1 h2 h3 h4=>let ⟨e,a',cs',w',l,q,r⟩:=h b k h1 h2 h3 h4;⟨e,a',cs',w',l,hq _ _ _ _ q,r⟩
end
section
variable {P : Program} {fl : Nat}
def DSt [Vars] (w0:World) (G:Gh) (cs:List Frame) (fl:Nat) (e0:Exit) (s:St) (e:Exit) (a':Act) (cs':List Frame) (w':World):Prop:=
 e=e0∧cs'=cs∧∃G',Ext fl G G'∧G'.own=G.own∧fl≤s.n∧Sim w0 G' s a' w'
theorem evOpsR_ok [Vars] {w0:World} {G0:Gh} {base:Nat} {cs:List Frame} (hcs:recoverD cs=none) (hfl:fl≤base) {ops:Array Oper} {s:St}:∀(l:List Oper) (i:Nat) (G:Gh) (st:St) (a:Act) (w:World),
  (∀j,l[j]? = ops[i + j]?)→RSim w0 G0 fl base (List.range' i l.length) G st a w→G.own=G0.own→evOpsR P base i l st=some s→wpOpsSIn (FR none) 0 P ops (DSt w0 G0 cs fl .normal s) (List.range' i l.length) a cs w
 | [],i,G,st,a,w,hl,S,ho,he=>by
  simp only[evOpsR,Option.some.injEq] at he
  subst he
  exact⟨rfl,rfl,G,S.ext,ho,S.lim,S.sim⟩
 | o :: rs,i,G,st,a,w,hl,S,ho,he=>by
  simp only[List.length_cons,List.range'_succ,wpOpsSIn]
  have hoi:ops[i]? = some o:=by have:=hl 0;simpa using this.symm
  have hl':∀j,rs[j]? = ops[i + 1 + j]?:=fun j=>by have:=hl (j + 1);rw[show i + 1 + j=i + (j + 1) by omega];simpa using this
  simp only[hoi]
  refine⟨fun _ _=>trivial,?_⟩
  simp only[evOpsR] at he
  split at he
  ·rename_i hc
   obtain⟨hg,hd⟩:=hc
   have hw:Region.wanted o (yielded ops a.tmps)=true:=by simp[Region.wanted,hg]
   rw[hw]
   simp only[if_true]
   simp only[List.length_cons,List.range'_succ] at S
   have hsim:=S.sim
   have hnm:=S.names i (by simp)
   have hi:i ∉ List.range' (i + 1) rs.length:=by simp[List.mem_range'];omega
   have hrem:∀j ∈ List.range' (i + 1) rs.length,G.reg (base + j)=none∧base + j < st.n:=fun j hj=>S.names j (by simp[hj])
   split at he
   ·rename_i hr
    have hrun:(execOp a.eval o).run P w=.ok .recover w:=by
     unfold isRec at hr
     split at hr
     ·rename_i c1 c2 c3 hop
      simp only[execOp,hop,resolve,Sem.run_bind,Sem.run_pure,Result.andThen_ok,invoke,builtin]
     ·cases hr
    simp only[hrun,hcs]
    refine evOpsR_ok hcs hfl rs (i + 1) G _ _ w hl' ⟨⟨?_,?_,?_,?_,?_⟩,S.ext,by rw[put_nt.2.2];exact S.lim,fun j hj=>?_,S.own⟩ ho he
    ·rw[put_nt.2.1];exact hsim.inv
    ·rw[Jv,put_nt.1];exact hsim.size
    ·rw[jj];exact hsim.defers
    ·exact JA hsim.slots hsim.size hd (by simp[Rv,Value.oneCell'])
    ·rw[put_nt.2.2];exact hsim.fresh
    ·rw[put_nt.2.2];exact hrem j hj
   ·split at he
    ·rename_i x h' hx
     have hev:∀x,Rv G (ev st.s x) (a.eval x):=Qe hsim.inv.oth.vars hsim.slots
     obtain⟨cv,w',G',hr,hreg,hle,I',hv⟩:=step_ok hsim.inv hnm.1 hev o hx
     have hRS:RSim w0 G0 fl base (List.range' (i + 1) rs.length) G' (put {st with h:=h'} o.dst x) (a.put o.dst cv) w':=by
      refine⟨⟨?_,?_,?_,?_,?_⟩,⟨fun k hk=>?_,fun b v e=>hle.imm _ _ (S.ext.imm _ _ e),by rw[hle.own];exact S.ext.own,by rw[hle.base];exact S.ext.base,fun b hb=>hle.lps _ (S.ext.lps _ hb)⟩,by rw[put_nt.2.2];exact S.lim,fun j hj=>?_,hle.own.trans S.own⟩
      ·rw[put_nt.2.1];exact I'
      ·rw[Jv,put_nt.1];exact hsim.size
      ·rw[jj,hle.own,hle.base];exact hsim.defers
      ·exact JA (st:={st with h:=h'}) (fun t=>(hsim.slots t).mono hle.v) hsim.size hd hv
      ·rw[put_nt.2.2]
       intro k hk
       simp only at hk
       rw[hreg k (by have:=hnm.2;omega)];exact hsim.fresh k hk
      ·rw[hreg k (by omega)];exact S.ext.reg k hk
      ·rw[put_nt.2.2]
       have hne:base + j≠base + i:=fun e=>hi (by have:j=i:=by omega
                                                 exact this ▸ hj)
       rw[hreg _ hne];exact hrem j hj
     have ih:=evOpsR_ok hcs hfl rs (i + 1) G' _ _ w' hl' hRS (hle.own.trans ho) he
     rcases hr with hr | ⟨hr,rfl⟩
     ·simp only[hr];exact ih
     ·simp only[hr];exact ih
    ·cases he
  ·cases he
theorem evDS_ok [Vars] {cs:List Frame} (hcs:recoverD cs=none) {w0:World}:∀(c:Code) (st:St) (e:Exit) (s:St),QI P c st=some (e,s)→∀G a w,Sim w0 G st a w→fl≤st.n→c.wpSIn (FR none) 0 P (DSt w0 G cs fl e s) a cs w:=by
 intro c
 induction c with
 | skip=>intro st e s h G a w S hf;simp only[QI,Option.some.injEq,Prod.mk.injEq] at h;obtain⟨rfl,rfl⟩:=h;exact wpSIn_of_wpIn rfl (wpIn_skip ⟨rfl,rfl,G,Ext.refl _ _,rfl,hf,S⟩)
 | label l=>intro st e s h G a w S hf;simp only[QI,Option.some.injEq,Prod.mk.injEq] at h;obtain⟨rfl,rfl⟩:=h;exact wpSIn_of_wpIn rfl (wpIn_label ⟨rfl,rfl,G,Ext.refl _ _,rfl,hf,S⟩)
 | exit id=>intro st e s h G a w S hf;simp only[QI,Option.some.injEq,Prod.mk.injEq] at h;obtain⟨rfl,rfl⟩:=h;exact wpSIn_of_wpIn rfl (wpIn_exit ⟨rfl,rfl,G,Ext.refl _ _,rfl,hf,S⟩)
 | ret=>intro st e s h G a w S hf;simp only[QI,Option.some.injEq,Prod.mk.injEq] at h;obtain⟨rfl,rfl⟩:=h;exact wpSIn_of_wpIn rfl (wpIn_ret ⟨rfl,rfl,G,Ext.refl _ _,rfl,hf,S⟩)
 | seq x y ihx ihy=>
  intro st e s h G a w S hf
  simp only[QI] at h
  refine wpSIn_seq ?_
  split at h
  ·rename_i s1 h1
   refine JC (ihx _ _ _ h1 G a w S hf) ?_
   rintro e1 a1 cs1 w1 ⟨rfl,rfl,G1,x1,x2,x3,x4⟩
   refine JC (ihy _ _ _ h G1 a1 w1 x4 x3) ?_
   rintro e2 a2 cs2 w2 ⟨rfl,rfl,G2,y1,y2,y3,y4⟩
   exact⟨rfl,rfl,G2,x1.trans y1,y2.trans x2,y3,y4⟩
  ·rename_i hne
   refine JC (ihx _ _ _ h G a w S hf) ?_
   rintro e1 a1 cs1 w1 ⟨rfl,rfl,q⟩
   cases e1 with
   | normal=>exact absurd h (hne _)
   | _=>exact⟨rfl,rfl,q⟩
 | cond o x y ihx ihy=>
  intro st e s h G a w S hf
  simp only[QI] at h
  have hev:=Qe S.inv.oth.vars S.slots o
  split at h
  ·rename_i ho
   rw[ho] at hev;simp only[Rv] at hev
   exact wpSIn_cond (t:=true) hev.1 (ihx _ _ _ h G a w S hf)
  ·rename_i ho
   rw[ho] at hev;simp only[Rv] at hev
   exact wpSIn_cond (t:=false) hev.1 (ihy _ _ _ h G a w S hf)
  ·cases h
 | block id x ih=>
  intro st e s h G a w S hf
  simp only[QI] at h
  refine wpSIn_block ?_
  split at h
  ·rename_i id' s1 h1
   refine JC (ih _ _ _ h1 G a w S hf) ?_
   rintro e1 a1 cs1 w1 ⟨rfl,rfl,G1,x1,x2,x3,x4⟩
   simp only[inBlockS]
   split at h
   ·rename_i hid
    cases h
    rw[if_pos hid];exact⟨rfl,rfl,G1,x1,x2,x3,x4⟩
   ·rename_i hid
    cases h
    rw[if_neg hid];exact⟨rfl,rfl,G1,x1,x2,x3,x4⟩
  ·rename_i hne
   refine JC (ih _ _ _ h G a w S hf) ?_
   rintro e1 a1 cs1 w1 ⟨rfl,rfl,q⟩
   cases e1 with
   | exit id'=>exact absurd h (hne _ _)
   | _=>exact⟨rfl,rfl,q⟩
 | region id ops d=>
  intro st e s h G a w S hf
  simp only[QI] at h
  split at h
  ·cases h
  ·rename_i hd
   have:d=false:=by simpa using hd
   subst this
   split at h
   ·rename_i s1 h1
    cases h
    refine wpSIn_region ?_
    have:=evOpsR_ok (P:=P) (fl:=fl) (w0:=w0) (G0:=G) hcs hf (ops:=ops) (s:=s) ops.toList 0 G {st with n:=st.n + ops.size} a w (fun j=>by simp) (ZD S hf ops.size _ (fun j hj=>by simp only[List.mem_range',Array.length_toList] at hj;obtain⟨k,hk,rfl⟩:=hj;omega)) rfl h1
    rw[Array.length_toList] at this
    rw[List.range_eq_range']
    exact this
   ·cases h
 | _=>intro st e s h;simp only[QI] at h;cases h
def finE:Exit→Bool
 | .normal=>true
 | .ret=>true
 | _=>false
theorem adcalls_lim [Vars] {f:FuncId} {fn:Func} {c:Code} {args:List AV} {h:zI} {n:Nat} {K:AV→zI→Nat→Prop} (hf:P.funcs[f]? = some fn) (hb:fn.body=some c) (hgo:JZ P f=true) (hlen:args.length≤fn.ntmps)
  {e:Exit} {s:St} (he:QI P c {nt:=fn.ntmps,s:=zu 0 args,h,n}=some (e,s)) (hfe:finE e=true) {xs:List AV} (hx:j5 P s.s s.h fn.results.toList=some xs) (hK:n≤s.n→K (zr xs) s.h s.n):J4 P f args h n K:=by
 refine⟨hgo,fun w0 G w vs I hfr hr=>?_⟩
 have hl:=hr.length
 obtain⟨Gc,hGc⟩:∃Gc:Gh,Gc = {G with own:=[],base:=(G.own ++ G.base.1,[],G.base.2.2)}:=⟨_,rfl⟩
 have r1:Gc.reg=G.reg:=by rw[hGc]
 have i1:Gc.imm=G.imm:=by rw[hGc]
 have hv1:VLe G Gc:=⟨fun k r e=>by rw[r1];exact e,fun a v e=>by rw[i1];exact e⟩
 have Ic:Inv w0 Gc h w:=I.reoth r1 i1 (by
  rw[hGc]
  refine⟨by simp,fun k hk=>?_,by simpa using I.oth.nd,I.oth.lps,I.oth.old,I.oth.vars,I.oth.tabs⟩
  rcases List.mem_append.1 hk with h' | h'
  ·exact (I.oth.own k h').1
  ·exact I.oth.base k h')
 have hrc:RvL Gc args vs:=hr.mono hv1
 have hfc:Zs n Gc:=fun k hk=>by rw[r1];exact hfr k hk
 refine callsDIn_of_wpSIn hf hb trivial fun c₀ cs hu=>?_
 have hcs:recoverD (c₀ :: cs)=none:=by simp[recoverD,hu]
 refine JC (evDS_ok (fl:=n) hcs (w0:=w0) c _ e s he Gc _ w ⟨Ic,by simp;omega,by rw[hGc];rfl,fun t=>?_,hfc⟩ (Nat.le_refl _)) ?_
 ·have:=jK args vs 0 hrc t
  simp only[Nat.zero_le,if_true,Nat.sub_zero] at this
  have e:(vs.toArray ++ Array.replicate (fn.ntmps - vs.toArray.size) undef).getD t undef=vs.getD t undef:=by
   simp only[Array.getD_eq_getD_getElem?,List.getD_eq_getElem?_getD]
   rcases Nat.lt_or_ge t vs.length with ht | ht
   ·rw[Array.getElem?_append_left (by simpa using ht)];simp
   ·rw[Array.getElem?_append_right (by simpa using ht),List.getElem?_eq_none ht]
    simp only[Array.getElem?_replicate]
    split <;> rfl
  rw[e];exact this
 ·rintro e' a' cs' w' ⟨rfl,rfl,G',x1,x2,x3,x4⟩
  have hbase:G'.base=(G.own ++ G.base.1,[],G.base.2.2):=by rw[x1.base,hGc]
  have hown:G'.own=[]:=by rw[x2,hGc]
  have hdef:a'.defers=[]:=by rw[x4.defers,hown,hbase];rfl
  have S':Sim w0 G' s {tmps:=a'.tmps,defers:=[]} w':=⟨x4.inv,x4.size,by rw[hown,hbase];rfl,x4.slots,x4.fresh⟩
  obtain⟨v,h1,h2⟩:=qS (P:=P) (fn:=fn) (K:=K) I S' ⟨fun k hk=>by rw[x1.reg k hk,r1],fun a v e=>x1.imm _ _ (by rw[i1];exact e),fun b hb=>x1.lps _ (by rw[hGc];exact hb)⟩ hown hbase ⟨x3,xs,hx,zY (hK x3)⟩
  have fin:a'.defers=[]∧∃u',c₀ :: cs = {c₀ with mode:=u'} :: cs∧∃v,(results fn a'.tmps).run P w'=.ok v w'∧(u'=.returning∧qU w0 n G K (.returned v) w'):=⟨hdef,.returning,by rw[←hu],v,h1,rfl,h2⟩
  cases e' with
  | normal=>exact fin
  | ret=>exact fin
  | _=>cases hfe
end
end Go.AM
namespace Go.AM
open Go.RowKit
def defOf (ops:Array Oper):Option (List Oper × Operand × List Operand):=match ops.toList.reverse with
 | o :: r=>match o.op,o.guard,o.dst with
  | .defer c,none,none=>match c.callee with
   | .value fo=>some (r.reverse,fo,c.args.toList)
   | _=>none
  | _,_,_=>none
 | []=>none
theorem defOf_ok {ops:Array Oper} {pre:List Oper} {fo:Operand} {as:List Operand} (h:defOf ops=some (pre,fo,as)) :
  ∃o c,ops.toList=pre ++ [o]∧o.op=.defer c∧c.callee=.value fo∧o.guard=none∧o.dst=none∧as=c.args.toList:=by
 unfold defOf at h
 split at h
 ·rename_i o r hr
  split at h
  ·rename_i c h1 h2 h3
   split at h
   ·rename_i f hc
    simp only[Option.some.injEq,Prod.mk.injEq] at h
    obtain⟨rfl,rfl,rfl⟩:=h
    refine⟨o,c,?_,h1,hc,h2,h3,rfl⟩
    have:=congrArg List.reverse hr
    simpa using this
   ·cases h
  ·cases h
 ·cases h
section
variable (P : Program) (ct : CTr) (cl : CCl) (rd : Nat) (fn : Func) (lm : Nat)
def finO (s:St):Outs:=match j5 P s.s s.h fn.results.toList with
 | some xs=>some [(zr xs,s.h,s.n)]
 | none=>none
def evClo [Vars] (g:FuncId) (dl:List AV) (s:St):Outs:=match P.funcs[g]? with
 | none=>none
 | some cf=>match cf.body with
  | none=>none
  | some c=>if JZ P g && decide (dl.length≤cf.ntmps) then match QI P c ⟨cf.ntmps,zu 0 dl,s.h,s.n⟩ with
    | some (e,s2)=>if finE e then match j5 P s2.s s2.h cf.results.toList with
      | some _=>finO P fn {s with h:=s2.h,n:=s2.n}
      | none=>none
     else none
    | none=>none
   else none
noncomputable def evDef [Vars] (rt : List Nat) (ops : Array Oper) (pre : List Oper) (fo : Operand) (as : List Operand) (B : Code) (st : St) : Outs :=
 Ju (qv P ct rt ops st.n 0 pre {st with n:=st.n + ops.size}) fun s=>match ev s.s fo with
  | .func (.func g) first cap=>let dl:=first ++ as.map (ev s.s) ++ cap
   Ju ((cC P ct cl lm rd B).f (jT dl ++ rt) s) fun x=>if okE x.1 then evClo P fn g dl x.2 else none
  | _=>none
noncomputable def cD [Vars] (rt : List Nat) : Code → St → Outs
 | .seq x y,st=>match (match x with | .region _ ops false=>defOf ops | _=>none) with
  | some (pre,fo,as)=>match x with
   | .region _ ops false=>evDef P ct cl rd fn lm rt ops pre fo as y st
   | _=>none
  | none=>Ju ((cC P ct cl lm rd x).f rt st) fun r=>match r.1 with
   | .normal=>cD rt y r.2
   | .ret=>finO P fn r.2
   | _=>none
 | c,st=>Ju ((cC P ct cl lm rd c).f rt st) fun r=>if okE r.1 then finO P fn r.2 else none
end
section
variable {P : Program} {ct : CTr} {cl : CCl} {rd : Nat} {fn : Func} {lm : Nat} {n : Nat} {K : AV → zI → Nat → Prop}
theorem finO_ok [Vars] {s:St} {L:List (AV × zI × Nat)} (h:finO P fn s=some L) (hn:n≤s.n) (hK:∀o ∈ L,Zg n K o.1 o.2.1 o.2.2):Fin P fn n K s:=by
 unfold finO at h
 split at h
 ·rename_i xs hx
  cases h
  exact⟨hn,xs,hx,hK _ List.mem_cons_self⟩
 ·cases h
theorem ac_lim [Vars] {P:Program} {fl:Nat} {c:Code} {Q:Exit→St→Prop} {st:St} (h:ze P fl c Q st):ze P fl c (fun e s=>fl≤s.n∧Q e s) st:=
 fun r w0 G a w hr S hf=>wpIn_mono (h r w0 G a w hr S hf) fun _ _ _ ⟨G',s,e1,e2,e3,e4⟩=>⟨G',s,e1,e2,e3,e2,e4⟩
theorem evClo_ok [Vars] {g:FuncId} {dl:List AV} {s:St} {L:List (AV × zI × Nat)} (h:evClo P fn g dl s=some L) (hn:n≤s.n) (hK:∀o ∈ L,Zg n K o.1 o.2.1 o.2.2) :
  J4 P g dl s.h s.n fun _ h' n'=>Fin P fn n K {s with h:=h',n:=n'}:=by
 unfold evClo at h
 split at h
 ·cases h
 ·rename_i cf hf
  split at h
  ·cases h
  ·rename_i c hb
   split at h
   ·rename_i hc
    simp only[Bool.and_eq_true,decide_eq_true_eq] at hc
    split at h
    ·rename_i e s2 he
     split at h
     ·rename_i hfe
      split at h
      ·rename_i xs hx
       refine adcalls_lim hf hb hc.1 hc.2 he hfe hx fun hle=>?_
       exact finO_ok h (Nat.le_trans hn hle) hK
      ·cases h
     ·cases h
    ·cases h
   ·cases h
theorem evDef_ok [Vars] (hct:qD P ct) (hcl:Q5 P cl) {rt:List Nat} {id:Nat} {ops:Array Oper} {pre:List Oper} {fo:Operand} {as:List Operand} {B:Code} {st:St} {L:List (AV × zI × Nat)} (hd:defOf ops=some (pre,fo,as)) (h:evDef P ct cl rd fn lm rt ops pre fo as B st=some L) (_hn:n≤st.n) (hK:∀o ∈ L,Zg n K o.1 o.2.1 o.2.2) :
  DC P fn n K (.seq (.region id ops false) B) st:=by
 obtain⟨o,c,h1,h2,h3,h4,h5,rfl⟩:=defOf_ok hd
 unfold evDef at h
 obtain⟨l,e1,e2⟩:=jG h
 refine dc_defer h1 h2 h3 h4 h5 (qM hct pre 0 _ l e1 fun s hs=>?_)
 obtain⟨L',e3,e4⟩:=e2 s hs
 split at e3
 ·rename_i g first cap hf
  refine fun hsn=>⟨g,first,cap,hf,?_⟩
  obtain⟨l2,e5,e6⟩:=jG e3
  refine ac_mono (ac_lim (cC_ok (fl:=s.n) hct hcl B (fun e s'=>okE e=true∧(n≤s'.n→J4 P g (first ++ c.args.toList.map (ev s.s) ++ cap) s'.h s'.n fun _ h' n'=>Fin P fn n K {s' with h:=h',n:=n'})) s l2 e5 fun x hx=>?_)) fun e s' hq=>?_
  ·obtain⟨L2,e7,e8⟩:=e6 x hx
   split at e7
   ·rename_i hok
    exact⟨hok,fun hle=>evClo_ok e7 hle fun o ho=>hK o (e4 o (e8 o ho))⟩
   ·cases e7
  ·obtain⟨q1,q2,q3⟩:=hq
   refine⟨?_,?_,?_⟩
   ·cases e <;> first | exact .inl rfl | exact .inr rfl | cases q2
   ·omega
   ·exact q3 (by omega)
 ·cases e3
theorem cD_ok [Vars] (hct:qD P ct) (hcl:Q5 P cl) {rt:List Nat}:∀(c:Code) (st:St) (L:List (AV × zI × Nat)),cD P ct cl rd fn lm rt c st=some L→n≤st.n→(∀o ∈ L,Zg n K o.1 o.2.1 o.2.2)→DC P fn n K c st:=by
 have gen:∀(c:Code) (st:St) (L:List (AV × zI × Nat)),(Ju ((cC P ct cl lm rd c).f rt st) fun r=>if okE r.1 then finO P fn r.2 else none)=some L→(∀o ∈ L,Zg n K o.1 o.2.1 o.2.2)→DC P fn n K c st:=by
  intro c st L h hK
  obtain⟨l,e1,e2⟩:=jG h
  refine dc_code (ac_mono (ac_lim (cC_ok (fl:=n) hct hcl c (fun e s=>okE e=true∧(n≤s.n→Fin P fn n K s)) st l e1 fun x hx=>?_)) fun e s hq=>?_)
  ·obtain⟨L',e3,e4⟩:=e2 x hx
   split at e3
   ·rename_i hok
    exact⟨hok,fun hle=>finO_ok e3 hle fun o ho=>hK o (e4 o ho)⟩
   ·cases e3
  ·obtain⟨q1,q2,q3⟩:=hq
   refine⟨?_,q3 q1⟩
   cases e <;> first | exact .inl rfl | exact .inr rfl | cases q2
 intro c
 induction c with
 | seq x y _ ihy=>
  intro st L h hn hK
  simp only[cD] at h
  split at h
  ·rename_i pre fo as hd
   split at h
   ·rename_i id ops
    exact evDef_ok hct hcl hd h hn hK
   ·cases h
  ·obtain⟨l,e1,e2⟩:=jG h
   refine dc_seq (ac_mono (ac_lim (cC_ok (fl:=n) hct hcl x (fun e s=>n≤s.n→dcK P fn n K y e s) st l e1 fun r hr hle=>?_)) fun e s hq=>hq.2 hq.1)
   obtain⟨L',e3,e4⟩:=e2 r hr
   obtain⟨e,s⟩:=r
   cases e with
   | normal=>exact ihy s L' e3 hle fun o ho=>hK o (e4 o ho)
   | ret=>exact finO_ok e3 hle fun o ho=>hK o (e4 o ho)
   | _=>cases e3
 | _=>intro st L h hn hK;exact gen _ st L h hK
section
variable (P rd)
noncomputable def evBodyD [Vars] (ct : CTr) (cl : CCl) (rt : List Nat) (g : FuncId) (full : List AV) (h : zI) (n : Nat) : Outs := match P.funcs[g]? with
 | none=>none
 | some fn=>match fn.body with
  | none=>none
  | some c=>if JZ P g && decide (full.length≤fn.ntmps) then cD P ct cl rd fn (Jl c ||| liveR fn.results.toList) rt c ⟨fn.ntmps,zu 0 full,h,n⟩
  else none
end
theorem evBodyD_ok [Vars] (hct:qD P ct) (hcl:Q5 P cl) {rt:List Nat} {g:FuncId} {full:List AV} {h:zI} {L:List (AV × zI × Nat)} (he:evBodyD P rd ct cl rt g full h n=some L) (hK:∀o ∈ L,Zg n K o.1 o.2.1 o.2.2):zQ P g full h n K:=by
 unfold evBodyD at he
 split at he
 ·cases he
 ·rename_i fn hf
  split at he
  ·cases he
  ·rename_i c hb
   split at he
   ·rename_i hc
    simp only[Bool.and_eq_true,decide_eq_true_eq] at hc
    exact calls_of_dc hf hb hc.1 hc.2 (cD_ok hct hcl c _ L he (Nat.le_refl _) hK)
   ·cases he
end
end Go.AM
namespace Go.AM
open Go.RowKit
section
variable (P : Program) (rd : Nat)
def findT:List (FuncId × List AV × List AV)→FuncId→List AV→Option (List AV)
 | [],_,_=>none|(f,a,R) :: r,g,l=>bif Nat.beq f g then (bif JW a l then some R else findT r g l) else findT r g l
theorem findT_mem:∀(tab:List (FuncId × List AV × List AV)) (g:FuncId) (l R:List AV),findT tab g l=some R→(g,l,R) ∈ tab
 | [],_,_,_,h=>by cases h|(f,a,R') :: r,g,l,R,h=>by
  simp only[findT] at h
  cases hb:Nat.beq f g with
  | true=>
   rw[hb] at h
   simp only[cond_true] at h
   cases hc:JW a l with
   | true=>
    rw[hc] at h
    simp only[cond_true,Option.some.injEq] at h
    have e1:=Nat.eq_of_beq_eq_true hb
    have e2:=jL _ _ hc
    subst h e2
    have e1':f=g:=e1
    subst e1'
    exact List.mem_cons_self
   | false=>rw[hc] at h;exact List.mem_cons_of_mem _ (findT_mem r g l R h)
  | false=>rw[hb] at h;exact List.mem_cons_of_mem _ (findT_mem r g l R h)
def findX:List (FuncId × Nat)→FuncId→Option Nat
 | [],_=>none|(f,k) :: r,g=>bif Nat.beq f g then some k else findX r g
theorem findX_mem:∀(xt:List (FuncId × Nat)) (g:FuncId) (k:Nat),findX xt g=some k→(g,k) ∈ xt
 | [],_,_,h=>by cases h|(f,k') :: r,g,k,h=>by
  simp only[findX] at h
  cases hb:Nat.beq f g with
  | true=>
   rw[hb] at h
   simp only[cond_true,Option.some.injEq] at h
   have e1:f=g:=Nat.eq_of_beq_eq_true hb
   subst e1 h
   exact List.mem_cons_self
  | false=>rw[hb] at h;exact List.mem_cons_of_mem _ (findX_mem r g k h)
noncomputable def evT [Vars] (tab : List (FuncId × List AV × List AV)) (xt : List (FuncId × Nat)) (opn : FuncId → Nat) : Nat → CTr × CCl
 | 0=>(fun _ _ _ _ _=>none,fun _ _=>none)
 | d + 1=>(fun rt fv args h n=>match fv with
   | .func (.func g) first cap=>fL (first ++ args ++ cap) fun full=>match findX xt g with
    | some k=>match evExt k full h n with
     | some o=>some [o]
     | none=>none
    | none=>match (match findT tab g full with | some R=>some R | none=>bif Nat.beq (opn g) 0 then qY P rd (evT tab xt opn d).1 (evT tab xt opn d).2 g full else none) with
     | some R=>some (R.map fun x=>(x,h,n))
     | none=>bif Nat.beq (opn g) 2 then evBodyD P rd (evT tab xt opn d).1 (evT tab xt opn d).2 rt g full h n else evBody P rd (evT tab xt opn d).1 (evT tab xt opn d).2 rt g full h n
   | .yld m=>evYield P rd (evT tab xt opn d).1 (evT tab xt opn d).2 rt m args h n
   | _=>none,
  fun fv args=>match fv with
   | .func (.func g) first cap=>fL (first ++ args ++ cap) fun full=>match findX xt g with
    | some k=>if k≤1 then (evExt k full (fun _=>none) 0).map (·.1) else none
    | none=>match (match findT tab g full with | some R=>some R | none=>qY P rd (evT tab xt opn d).1 (evT tab xt opn d).2 g full) with
     | some [x]=>some x
     | _=>none
   | _=>none)
end
section
variable {P : Program} {rd : Nat} {ct : CTr} {cl : CCl}
def JQ [Vars] (P:Program) (tab:List (FuncId × List AV × List AV)):Prop:=∀e ∈ tab,∀h n (K:AV→zI→Nat→Prop),(∀x ∈ e.2.2,K x h n)→zQ P e.1 e.2.1 h n K
theorem tab_mem [Vars] {tab:List (FuncId × List AV × List AV)} {g:FuncId} {l R:List AV} (ht:JQ P tab) (h:findT tab g l=some R) {hh:zI} {n:Nat} {K:AV→zI→Nat→Prop} (hK:∀x ∈ R,K x hh n):zQ P g l hh n K:=
 ht _ (findT_mem tab g l R h) hh n K hK
theorem evExt_pure {k:Nat} (hk:k≤1) {args:List AV} {x:AV} {h0:zI} (he:(evExt k args h0 0).map (·.1)=some x) (h:zI) (n:Nat):evExt k args h n=some (x,h,n):=by
 unfold evExt at he ⊢
 split at he
 ·simp only[Option.map_some,Option.some.injEq] at he;subst he;rfl
 ·simp only[Option.map_some,Option.some.injEq] at he;subst he;rfl
 ·omega
 ·cases he
theorem evT_ok [Vars] {tab:List (FuncId × List AV × List AV)} (htab:JQ P tab) {xt:List (FuncId × Nat)} (hxt:XtOk P xt) {opn:FuncId→Nat}:∀d,qD P (evT P rd tab xt opn d).1∧Q5 P (evT P rd tab xt opn d).2
 | 0=>⟨fun _ _ _ _ _ _ h=>by simp[evT] at h,fun _ _ _ h=>by simp[evT] at h⟩
 | d + 1=>by
  obtain⟨h1,h2⟩:=evT_ok htab hxt (opn:=opn) d
  refine⟨fun rt fv args h n L he K hK=>?_,fun fv args x he h n K hK=>?_⟩
  ·simp only[evT] at he
   split at he
   ·rename_i g first cap
    simp only[fL_eq] at he
    split at he
    ·rename_i k hp
     split at he
     ·rename_i o ho
      cases he
      exact .inr (evExt_ok hxt (findX_mem _ _ _ hp) ho (hK o List.mem_cons_self))
     ·cases he
    ·split at he
     ·rename_i R hR
      cases he
      split at hR
      ·rename_i R' hfe
       cases hR
       exact .inl (tab_mem htab hfe fun x hx=>hK (x,h,n) (List.mem_map.2 ⟨x,hx,rfl⟩))
      ·cases ho:Nat.beq (opn g) 0 with
       | true=>
        rw[ho] at hR
        simp only[cond_true] at hR
        exact .inl (QG h1 h2 hR fun x hx=>hK (x,h,n) (List.mem_map.2 ⟨x,hx,rfl⟩))
       | false=>rw[ho] at hR;cases hR
     ·cases ho:Nat.beq (opn g) 2 with
      | true=>
       rw[ho] at he
       simp only[cond_true] at he
       exact .inl (evBodyD_ok h1 h2 he fun o ho=>zY (hK o ho))
      | false=>
       rw[ho] at he
       simp only[cond_false] at he
       exact .inl (evBody_ok h1 h2 he fun o ho=>zY (hK o ho))
   ·exact evYield_ok h1 h2 he hK
   ·cases he
  ·simp only[evT] at he
   split at he
   ·rename_i g first cap
    simp only[fL_eq] at he
    split at he
    ·rename_i k hp
     split at he
     ·rename_i hk
      exact .inr (evExt_ok hxt (findX_mem _ _ _ hp) (evExt_pure hk he h n) hK)
     ·cases he
    ·split at he
     ·rename_i y hR
      cases he
      split at hR
      ·rename_i R' hfe
       simp only[Option.some.injEq] at hR
       refine .inl (tab_mem htab hfe fun z hz=>?_)
       rw[hR] at hz
       simp only[List.mem_singleton] at hz
       subst hz;exact hK
      ·refine .inl (QG h1 h2 hR fun z hz=>?_)
       simp only[List.mem_singleton] at hz
       subst hz;exact hK
     ·cases he
   ·cases he
theorem evT_closed [Vars] {tab:List (FuncId × List AV × List AV)} (htab:JQ P tab) {xt:List (FuncId × Nat)} (hxt:XtOk P xt) {opn:FuncId→Nat} {d:Nat} {g:FuncId} {full:List AV} {R:List AV} (he:qY P rd (evT P rd tab xt opn d).1 (evT P rd tab xt opn d).2 g full=some R) {h:zI} {n:Nat} {K:AV→zI→Nat→Prop} (hK:∀x ∈ R,K x h n):zQ P g full h n K:=
 QG (evT_ok htab hxt d).1 (evT_ok htab hxt d).2 he hK
end
end Go.AM
namespace Go.AM
section
variable {P : Program} {ops : Array Oper} {fl : Nat} {Q : Exit → St → Prop} {st : St} {id : Nat}
theorem zm [Vars] (hm:P.follows .mixedOrders=true) (hok:qOK ops=true)
  (h:∀K:List (Nat × AV)→Prop,zC (∀s,Q .normal ⟨st.nt,s,st.h,st.n + ops.size⟩→K s)→aQ P ops st.n st.nt st.h (st.n + ops.size) K 0 ops.toList st.s):ze P fl (.region id ops true) Q st:=
 ac_quiet hm hok (h _ fun _ h=>h)
theorem ZU [Vars] (E:List Nat) (Hp:zI→Prop) (hm:P.follows .mixedOrders=true) (hok:chOK E ops=true) (hp:Hp st.h)
  (h:∀K:List (Nat × AV)→zI→Prop,zC (∀s h,Q .normal ⟨st.nt,s,h,st.n + ops.size⟩→K s h)→aC P ops E Hp st.n st.nt (st.n + ops.size) K 0 ops.toList st.s st.h):ze P fl (.region id ops true) Q st:=
 ac_chain E Hp hm hok hp (h _ fun _ _ h=>h)
end
section
variable {P : Program} {ops : Array Oper} {base nt n : Nat} {o : Oper} {s : List (Nat × AV)} {h h2 : zI} {x : AV}
theorem aC_c [Vars] {E:List Nat} {Hp:zI→Prop} {K:List (Nat × AV)→zI→Prop} {i:Nat} {r:List Oper} (hd:Zh nt o.dst=true) (hi:i ∉ E) (hf:∀h',Hp h'→Zx P ops (base + i) o s h' n (fun x' h2 n'=>x'=x∧h2=h'∧n'=n))
  (hr:aC P ops E Hp base nt n K (i + 1) r (pS o.dst x s) h):aC P ops E Hp base nt n K i (o :: r) s h:=
 ⟨hd,.inr ⟨hi,x,hf,hr⟩⟩
theorem aC_x [Vars] {E:List Nat} {Hp:zI→Prop} {K:List (Nat × AV)→zI→Prop} {i:Nat} {r:List Oper} (hd:Zh nt o.dst=true) (hi:i ∈ E) (hf:Zx P ops (base + i) o s h n (fun x' h' n'=>x'=x∧h'=h2∧n'=n)) (hh:r=[]∨Hp h2)
  (hr:aC P ops E Hp base nt n K (i + 1) r (pS o.dst x s) h2):aC P ops E Hp base nt n K i (o :: r) s h:=
 ⟨hd,.inl ⟨hi,x,h2,hf,hh,hr⟩⟩
end
end Go.AM
namespace Go.AM
class Sz (x:ByteArray) (n:outParam Nat):Prop where
 le:x.size≤n
instance Sz.app {x y : ByteArray} {a b : Nat} [hx : Sz x a] [hy : Sz y b] : Sz (x ++ y) (a + b) := ⟨by
 have h1:=hx.le
 have h2:=hy.le
 rw[ByteArray.size_append];omega⟩
instance Sz.l0 : Sz ⟨#[]⟩ 0 := ⟨Nat.le_refl _⟩
instance Sz.l1 (a : UInt8) : Sz ⟨#[a]⟩ 1 := ⟨Nat.le_refl _⟩
instance Sz.l2 (a b : UInt8) : Sz ⟨#[a, b]⟩ 2 := ⟨Nat.le_refl _⟩
instance Sz.l3 (a b c : UInt8) : Sz ⟨#[a, b, c]⟩ 3 := ⟨Nat.le_refl _⟩
instance Sz.l4 (a b c d : UInt8) : Sz ⟨#[a, b, c, d]⟩ 4 := ⟨Nat.le_refl _⟩
instance Sz.l5 (a b c d e : UInt8) : Sz ⟨#[a, b, c, d, e]⟩ 5 := ⟨Nat.le_refl _⟩
instance Sz.l6 (a b c d e f : UInt8) : Sz ⟨#[a, b, c, d, e, f]⟩ 6 := ⟨Nat.le_refl _⟩
instance Sz.l7 (a b c d e f g : UInt8) : Sz ⟨#[a, b, c, d, e, f, g]⟩ 7 := ⟨Nat.le_refl _⟩
instance Sz.l8 (a b c d e f g i : UInt8) : Sz ⟨#[a, b, c, d, e, f, g, i]⟩ 8 := ⟨Nat.le_refl _⟩
@[go_sem ↓] theorem add_str {x y:ByteArray} {a b:Nat} [hx:Sz x a] [hy:Sz y b] (h:a + b≤1152921504606846976):Qt .add x y=some (sv (x ++ y)):=by
 have h1:=hx.le
 have h2:=hy.le
 have e:(2:Nat) ^ 60=1152921504606846976:=by decide
 simp only[Qt]
 rw[if_pos (by omega)]
end Go.AM
