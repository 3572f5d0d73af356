/- The abstract machine: regions that draw their order; helpers of a walk. Conditions: as each theorem says. -/
import Derived.Test.YtabidiilbgakoaaGreatDoorAmc
namespace Go.AM
open Go.RowKit
theorem yieldK.mono [Vars] {P:Program} {m:Nat} {args:List AV} {h:zI} {n:Nat} {K K':AV→zI→Nat→Prop} (hy:yieldK P m args h n K) (hk:∀x h n,K x h n→K' x h n):yieldK P m args h n K':=by
 unfold yieldK at hy ⊢
 split at hy
 ·refine⟨hy.1,ac_mono hy.2 fun e st hq=>?_⟩
  cases e with
  | normal=>
   obtain⟨a,b,c,d,e,q1,q2⟩:=hq
   refine⟨a,b,c,d,e,q1,ac_mono q2 fun e st hr=>?_⟩
   cases e <;> first|(obtain⟨a,b,c,d,e,q1,q2⟩:=hr;exact⟨a,b,c,d,e,q1,hk _ _ _ q2⟩)|exact hr.elim
  | _=>exact hq.elim
 ·exact hy
theorem XCalls.mono [Vars] {P:Program} {f:FuncId} {args:List AV} {h:zI} {n:Nat} {K K':AV→zI→Nat→Prop} (hc:XCalls P f args h n K) (hk:∀x h n,K x h n→K' x h n):XCalls P f args h n K':=
 fun w0 G w vs I hf hr=>let ⟨r,w',h1,G',x,h',n',e1,e2,e3,e4,e5,e6⟩:=hc w0 G w vs I hf hr;⟨r,w',h1,G',x,h',n',e1,e2,e3,e4,e5,hk _ _ _ e6⟩
theorem GCalls.mono [Vars] {P:Program} {f:FuncId} {args:List AV} {h:zI} {n:Nat} {K K':AV→zI→Nat→Prop} (hc:GCalls P f args h n K) (hk:∀x h n,K x h n→K' x h n):GCalls P f args h n K':=
 hc.elim (fun h=>.inl (h.mono hk)) (fun h=>.inr (h.mono hk))
theorem ZV [Vars] {P:Program} {ops:Array Oper} {nm:Nat} {o:Oper} {s:List (Nat × AV)} {h:zI} {n:Nat} {K K':AV→zI→Nat→Prop} (hv:Zx P ops nm o s h n K) (hk:∀x h n,K x h n→K' x h n):Zx P ops nm o s h n K':=by
 unfold Zx at hv ⊢
 split at hv
 ·exact hv
 ·exact hk _ _ _ hv
 ·split at hv
  ·unfold callK at hv ⊢
   split at hv
   ·exact hv.mono hk
   ·exact hv.mono hk
   ·exact hv
  ·unfold jq at hv ⊢
   split at hv
   ·exact hk _ _ _ hv
   ·exact hv
def agreeOn (l:List Tmp) (s s':List (Nat × AV)):Prop:=∀t ∈ l,get s t=get s' t
theorem looks_op {ops:Array Oper} {o:Oper} {t:Tmp} (h:Operand.tmp t ∈ o.op.operands):t ∈ o.looksAt ops:=by
 simp only[Oper.looksAt,List.mem_append,List.mem_filterMap]
 exact .inl ⟨.tmp t,by simpa using h,rfl⟩
theorem ev_agree [Vars] {ops:Array Oper} {o:Oper} {s s':List (Nat × AV)} (h:agreeOn (o.looksAt ops) s s'):∀x ∈ o.op.operands,ev s x=ev s' x:=by
 intro x hx
 cases x with
 | tmp t=>exact h t (looks_op hx)
 | _=>rfl
theorem wanted_agree {ops:Array Oper} {o:Oper} {s s':List (Nat × AV)} (h:agreeOn (o.looksAt ops) s s'):ZR ops s o.guard=ZR ops s' o.guard:=by
 unfold ZR
 cases hg:o.guard with
 | none=>rfl
 | some jw=>
  obtain⟨j,want⟩:=jw
  simp only
  cases hj:(ops[j]?).bind (·.dst) with
  | none=>rfl
  | some d=>
   simp only
   have:get s d=get s' d:=h d (by simp[Oper.looksAt,hg,hj])
   rw[this]
theorem aStep_agree [Vars] {P:Program} {nm:Nat} {op:Op} {s s':List (Nat × AV)} {h:zI} (hs:∀x ∈ op.operands,ev s x=ev s' x):zc P nm op s h=zc P nm op s' h:=by
 have pairs:∀ps:Array (Nat × Operand),(∀x ∈ (ps.toList.map (·.2)).toArray,ev s x=ev s' x)→(ps.toList.map fun p=>(p.1,ev s p.2))=(ps.toList.map fun p=>(p.1,ev s' p.2)):=fun ps hp=>
  List.map_congr_left fun p hm=>by rw[hp p.2 (by simpa using ⟨p.1,by simpa using hm⟩)]
 have lst:∀ps:Array Operand,(∀x ∈ ps,ev s x=ev s' x)→ps.toList.map (ev s)=ps.toList.map (ev s'):=fun ps hp=>
  List.map_congr_left fun p hm=>hp p (by simpa using hm)
 have opt:∀o:Option Operand,(∀x ∈ o.toArray,ev s x=ev s' x)→o.map (ev s)=o.map (ev s'):=fun o ho=>by
  cases o with
  | none=>rfl
  | some x=>simp only[Option.map_some];rw[ho x (by simp)]
 cases op
 case build t ps=>simp only[Op.operands] at hs;simp only[zc,evP_eq];rw[pairs ps hs]
 case buildSlice t n ps=>simp only[Op.operands] at hs;simp only[zc,evP_eq];rw[pairs ps hs]
 case makeFunc fn a b=>simp only[Op.operands] at hs;simp only[zc];rw[lst a fun x hx=>hs x (by simp[hx]),lst b fun x hx=>hs x (by simp[hx])]
 case slice t x lo hi mx=>
  simp only[Op.operands] at hs
  simp only[zc]
  rw[hs x (by simp),opt lo fun y hy=>hs y (by simp only[Array.mem_append];exact .inl (.inl (.inr hy))),opt hi fun y hy=>hs y (by simp only[Array.mem_append];exact .inl (.inr hy)),opt mx fun y hy=>hs y (by simp only[Array.mem_append];exact .inr hy)]
 case call c=>
  obtain⟨callee,args,ats⟩:=c
  cases callee with
  | builtin b=>simp only[Op.operands,Call.operands] at hs;simp only[zc];rw[lst args fun x hx=>hs x (by simp[hx])]
  | _=>rfl
 case unOp op t x=>simp only[Op.operands] at hs;have:=hs x (by simp);cases op <;> simp only[zc,this]
 case pick c a b=>simp only[Op.operands] at hs;simp only[zc,hs c (by simp),hs a (by simp),hs b (by simp)]
 case store t a x=>simp only[Op.operands] at hs;simp only[zc,hs a (by simp),hs x (by simp)]
 case binOp op t x y t'=>simp only[Op.operands] at hs;simp only[zc,hs x (by simp),hs y (by simp)]
 case makeSlice t x y=>simp only[Op.operands] at hs;simp only[zc,hs x (by simp),hs y (by simp)]
 case indexAddr t x y=>simp only[Op.operands] at hs;simp only[zc,hs x (by simp),hs y (by simp)]
 case index t x y=>simp only[Op.operands] at hs;simp only[zc,hs x (by simp),hs y (by simp)]
 case lookup t x y ok=>simp only[Op.operands] at hs;simp only[zc,hs x (by simp),hs y (by simp)]
 case mapUpdate t x y z=>simp only[Op.operands] at hs;simp only[zc,hs x (by simp),hs y (by simp),hs z (by simp)]
 case insert t x y z=>simp only[Op.operands] at hs;simp only[zc,hs x (by simp),hs y (by simp),hs z (by simp)]
 case mapEntry t x y=>simp only[Op.operands] at hs;simp only[zc,hs x (by simp),hs y (by simp)]
 case entryStore t x y z=>simp only[Op.operands] at hs;simp only[zc,hs x (by simp),hs y (by simp),hs z (by simp)]
 case typeAssert x t u ok=>simp only[Op.operands] at hs;simp only[zc,hs x (by simp)]
 case makeInterface t x=>simp only[Op.operands] at hs;simp only[zc,hs x (by simp)]
 case makeMap t r=>cases r <;> rfl
 all_goals first
  | rfl|(rename_i x;simp only[Op.operands] at hs;simp only[zc,hs x (by simp)])|(rename_i x _;simp only[Op.operands] at hs;simp only[zc,hs x (by simp)])|(rename_i x _ _;simp only[Op.operands] at hs;simp only[zc,hs x (by simp)])
theorem Zc [Vars] {P:Program} {ops:Array Oper} {nm:Nat} {o:Oper} {s s':List (Nat × AV)} {h:zI} {n:Nat} {K:AV→zI→Nat→Prop} (ha:agreeOn (o.looksAt ops) s s') :
  Zx P ops nm o s h n K↔Zx P ops nm o s' h n K:=by
 have he:=ev_agree ha
 unfold Zx
 rw[wanted_agree ha,aStep_agree (P:=P) (nm:=nm) (h:=h) he]
 have hcall:∀f args,Zo o.op=some (f,args)→ev s f=ev s' f∧args.map (ev s)=args.map (ev s'):=by
  intro f args hc
  unfold Zo at hc
  split at hc
  ·rename_i f' aa ats hop
   simp only[Option.some.injEq,Prod.mk.injEq] at hc
   obtain⟨rfl,rfl⟩:=hc
   rw[hop] at he
   simp only[Op.operands,Call.operands] at he
   exact⟨he _ (by simp),List.map_congr_left fun p hm=>he p (by simp only[Array.mem_append];exact .inr (by simpa using hm))⟩
  ·cases hc
 split <;> first | rfl | skip
 split
 ·rename_i f args hc
  obtain⟨h1,h2⟩:=hcall f args hc
  rw[h1,h2]
 ·rfl
inductive Cl where
 | a | b (x:Operand)|d | w
def Z7 (P:Program):Op→Cl
 | .convert a b _=>if isUns P a b then .w else .a
 | .move _ | .assign _ | .pick .. | .build .. | .buildSlice .. | .nilCheck _ | .binOp .. | .unOp .. | .makeFunc .. | .slice _ _ _ none _ | .fieldAddr .. | .indexAddr .. | .index .. | .extract .. | .makeInterface .. | .typeAssert ..=>.a
 | .call {callee:=.builtin .len,argTypes,..}=>match argTypes.toList with
  | [t]=>if qG P t=.slice∨qG P t=.string then .a else .w
  | _=>.w
 | .call {callee:=.builtin .max,..} | .call {callee:=.builtin .min,..}=>.a
 | .load _ x=>.b x
 | .alloc _ | .box .. | .makeSlice ..=>.d
 | _=>.w
theorem notCall {P:Program} {op:Op} (hc:Z7 P op≠.w):Zo op=none:=by
 unfold Zo
 split
 ·simp[Z7] at hc
 ·rfl
theorem cl_a [Vars] {P:Program} {op:Op} (hc:Z7 P op=.a) (s:List (Nat × AV)):∃X:Option AV,∀nm h,zc P nm op s h=X.map (·,h):=by
 cases op <;> simp only[Z7,reduceCtorEq] at hc
 case move x=>exact⟨some (ev s x),fun _ _=>rfl⟩
 case assign x=>exact⟨some (ev s x),fun _ _=>rfl⟩
 case pick c a b=>
  simp only[zc]
  cases ev s c with
  | c v=>cases v with
   | bool t=>exact⟨some (if t then ev s a else ev s b),fun _ _=>rfl⟩
   | _=>exact⟨none,fun _ _=>rfl⟩
  | _=>exact⟨none,fun _ _=>rfl⟩
 case build t ps=>exact⟨_,fun _ _=>rfl⟩
 case buildSlice t n ps=>exact⟨_,fun _ _=>rfl⟩
 case nilCheck x=>
  simp only[zc]
  cases ev s x with
  | ptr n o=>exact⟨some (.ptr n o),fun _ _=>rfl⟩
  | fptr l=>exact⟨some (.fptr l),fun _ _=>rfl⟩
  | func fn p q=>cases fn with
   | func f=>exact⟨some (.func (.func f) p q),fun _ _=>rfl⟩
   | _=>exact⟨none,fun _ _=>rfl⟩
  | _=>exact⟨none,fun _ _=>rfl⟩
 case binOp=>exact⟨_,fun _ _=>rfl⟩
 case unOp op t x=>
  cases op with
  | not=>
   simp only[zc]
   cases ev s x with
   | c v=>cases v with
    | bool t=>exact⟨some (bv (!t)),fun _ _=>rfl⟩
    | _=>exact⟨none,fun _ _=>rfl⟩
   | _=>exact⟨none,fun _ _=>rfl⟩
  | neg=>exact⟨_,fun _ _=>rfl⟩
  | xor=>exact⟨_,fun _ _=>rfl⟩
  | plus=>exact⟨none,fun _ _=>rfl⟩
 case convert a b x=>
  simp only[zc]
  have:isUns P a b=false:=by
   cases hi:isUns P a b with
   | true=>rw[hi] at hc;cases hc
   | false=>rfl
  rw[this]
  exact⟨_,fun _ _=>rfl⟩
 case makeFunc fn a b=>exact⟨some (.func fn (a.toList.map (ev s)) (b.toList.map (ev s))),fun _ _=>rfl⟩
 case slice t x lo hi mx=>
  cases hi with
  | none=>exact⟨aSlice P t (ev s x) (lo.map (ev s)) none (mx.map (ev s)),fun _ _=>by simp[zc]⟩
  | some y=>simp at hc
 case fieldAddr t x f=>
  simp only[zc]
  cases zt P t f with
  | none=>exact⟨none,fun _ _=>rfl⟩
  | some oz=>
   obtain⟨o,z⟩:=oz
   simp only
   by_cases hz:z=0
   ·simp only[if_pos hz];exact⟨none,fun _ _=>rfl⟩
   ·simp only[if_neg hz]
    cases ev s x with
    | ptr n off=>exact⟨some (.ptr n (off + o)),fun _ _=>rfl⟩
    | fptr l=>exact⟨some (.fptr (l.drop o)),fun _ _=>rfl⟩
    | _=>exact⟨none,fun _ _=>rfl⟩
 case indexAddr t x i=>
  simp only[zc]
  split
  ·split
   ·split
    ·split
     ·exact⟨some _,fun _ _=>rfl⟩
     ·exact⟨none,fun _ _=>rfl⟩
    ·exact⟨none,fun _ _=>rfl⟩
   ·split
    ·exact⟨some _,fun _ _=>rfl⟩
    ·exact⟨none,fun _ _=>rfl⟩
   ·exact⟨none,fun _ _=>rfl⟩
  ·exact⟨_,fun _ _=>rfl⟩
 case makeInterface=>exact⟨_,fun _ _=>rfl⟩
 case typeAssert=>exact⟨_,fun _ _=>rfl⟩
 case index t x i=>
  simp only[zc]
  split
  ·split
   ·split
    ·exact⟨some _,fun _ _=>rfl⟩
    ·exact⟨none,fun _ _=>rfl⟩
   ·exact⟨none,fun _ _=>rfl⟩
  ·exact⟨_,fun _ _=>rfl⟩
 case extract x i=>
  simp only[zc]
  cases ev s x with
  | tup vs=>exact⟨_,fun _ _=>rfl⟩
  | _=>exact⟨none,fun _ _=>rfl⟩
 case call c=>
  obtain⟨callee,args,ats⟩:=c
  cases callee with
  | builtin b=>
   cases b <;> simp only[reduceCtorEq] at hc
   case len=>
    split at hc
    ·rename_i t ht
     split at hc
     ·rename_i hk
      simp only[zc,Jo,ht]
      cases hl:args.toList.map (ev s) with
      | nil=>exact⟨none,fun _ _=>rfl⟩
      | cons x r=>
       cases r with
       | nil=>
        refine⟨aLen P t x (fun _=>none),fun nm h=>?_⟩
        simp only
        congr 1
        rcases hk with hk | hk
        ·cases x <;> simp[aLen,hk]
        ·cases x with
         | c v=>cases v <;> simp[aLen,hk]
         | _=>simp[aLen,hk]
       | cons y r=>exact⟨none,fun _ _=>rfl⟩
     ·cases hc
    ·cases hc
   case max=>
    simp only[zc,Jo]
    split
    all_goals first
     | exact⟨_,fun _ _=>rfl⟩
     | exact⟨none,fun _ _=>rfl⟩
     | simp_all
   case min=>
    simp only[zc,Jo]
    split
    all_goals first
     | exact⟨_,fun _ _=>rfl⟩
     | exact⟨none,fun _ _=>rfl⟩
     | simp_all
  | _=>simp at hc
end Go.AM
namespace Go.AM
open Go.RowKit
theorem cl_b [Vars] {P:Program} {op:Op} {x:Operand} (hc:Z7 P op=.b x) (s:List (Nat × AV)):x ∈ op.operands∧∃X:Option AObj→Option AV,∀nm h,zc P nm op s h=(X (match ev s x with | .ptr m _=>h m | _=>none)).map (·,h)∧(match ev s x with | .ptr m _=>h m=none→zc P nm op s h=none | _=>True):=by
 cases op <;> simp only[Z7,reduceCtorEq,Cl.b.injEq] at hc
 case convert=>split at hc <;> cases hc
 case slice t x lo hi mx=>cases hi <;> simp at hc
 case load t y=>
  subst hc
  refine⟨by simp[Op.operands],?_⟩
  simp only[zc]
  cases lay P t with
  | none=>exact⟨fun _=>none,fun nm h=>⟨rfl,by split <;> simp⟩⟩
  | some sg=>
   cases hy:ev s y with
   | ptr n off=>
    refine⟨fun o=>match o with | some (.cells l)=>jB sg (l.drop off)|some (.tcells _ _ l)=>jB sg (l.drop off)|_=>none,fun nm h=>⟨?_,fun e=>by simp[e]⟩⟩
    simp only
    cases h n with
    | none=>rfl
    | some o=>cases o <;> rfl
   | fptr l=>exact⟨fun _=>jB sg l,fun nm h=>⟨rfl,trivial⟩⟩
   | _=>exact⟨fun _=>none,fun nm h=>⟨rfl,trivial⟩⟩
 case call c=>
  obtain⟨callee,args,ats⟩:=c
  cases callee with
  | builtin b=>
   cases b <;> simp only[reduceCtorEq] at hc
   case len=>
    split at hc
    ·split at hc <;> cases hc
    ·cases hc
  | _=>simp at hc
theorem cl_d [Vars] {P:Program} {op:Op} (hc:Z7 P op=.d) (s:List (Nat × AV)) (nm:Nat):∃X:Option (AV × AObj),∀h,zc P nm op s h=X.map fun (x,o)=>(x,h.upd nm (some o)):=by
 cases op <;> simp only[Z7,reduceCtorEq] at hc
 case convert=>split at hc <;> cases hc
 case slice t x lo hi mx=>cases hi <;> simp at hc
 case alloc t=>
  simp only[zc]
  cases zd P t with
  | none=>exact⟨none,fun _=>rfl⟩
  | some z=>
   by_cases hz:(cellsOf z).all AV.scalar=true
   ·simp only[hz,if_true];exact⟨some (.ptr nm 0,if Vars.typed.contains t then .tcells t (some (cellsOf z).length) (cellsOf z) else .cells (cellsOf z)),fun _=>rfl⟩
   ·simp only[hz];exact⟨none,fun _=>rfl⟩
 case box t x=>
  simp only[zc]
  by_cases hz:(cellsOf (ev s x)).all AV.scalar=true
  ·simp only[hz,if_true];exact⟨some (.ptr nm 0,.cells (cellsOf (ev s x))),fun _=>rfl⟩
  ·simp only[hz];exact⟨none,fun _=>rfl⟩
 case makeSlice t n m=>
  simp only[zc]
  split
  ·split
   ·exact⟨some (_,_),fun _=>rfl⟩
   ·exact⟨none,fun _=>rfl⟩
  ·exact⟨none,fun _=>rfl⟩
 case call c=>
  obtain⟨callee,args,ats⟩:=c
  cases callee with
  | builtin b=>
   cases b <;> simp only[reduceCtorEq] at hc
   case len=>
    split at hc
    ·split at hc <;> cases hc
    ·cases hc
  | _=>simp at hc
def JV [Vars] (P:Program) (ops:Array Oper) (nm:Nat) (o:Oper) (s:List (Nat × AV)) (h:zI):Option (AV × zI):=
 match ZR ops s o.guard with
 | none=>none
 | some false=>some (.tup [],h)
 | some true=>zc P nm o.op s h
theorem Jm [Vars] {P:Program} {ops:Array Oper} {nm:Nat} {o:Oper} (hc:Z7 P o.op≠.w) {s:List (Nat × AV)} {h:zI} {n:Nat} {K:AV→zI→Nat→Prop} :
  Zx P ops nm o s h n K↔jq (JV P ops nm o s h) n K:=by
 unfold Zx JV
 rw[notCall hc]
 cases ZR ops s o.guard with
 | none=>simp[jq]
 | some b=>cases b <;> simp[jq]
theorem f_a [Vars] {P:Program} {ops:Array Oper} {o:Oper} (hc:Z7 P o.op=.a) (s:List (Nat × AV)):∃X:Option AV,∀nm h,JV P ops nm o s h=X.map (·,h):=by
 obtain⟨X,hX⟩:=cl_a hc s
 unfold JV
 cases ZR ops s o.guard with
 | none=>exact⟨none,fun _ _=>rfl⟩
 | some b=>
  cases b with
  | false=>exact⟨some (.tup []),fun _ _=>rfl⟩
  | true=>exact⟨X,hX⟩
theorem f_b [Vars] {P:Program} {ops:Array Oper} {o:Oper} {x:Operand} (hc:Z7 P o.op=.b x) (s:List (Nat × AV)):∃X:Option AObj→Option AV,(∀nm h,JV P ops nm o s h=(X (match ev s x with | .ptr m _=>h m | _=>none)).map (·,h))∧
  ((∃v,∀p,X p=some v)∨(match ev s x with | .ptr m _=>∀nm h,h m=none→JV P ops nm o s h=none | _=>True)):=by
 obtain⟨_,X,hX⟩:=cl_b hc s
 unfold JV
 cases ZR ops s o.guard with
 | none=>exact⟨fun _=>none,fun _ _=>rfl,.inr (by split <;> simp)⟩
 | some b=>
  cases b with
  | false=>exact⟨fun _=>some (.tup []),fun _ _=>rfl,.inl ⟨.tup [],fun _=>rfl⟩⟩
  | true=>
   refine⟨X,fun nm h=>(hX nm h).1,.inr ?_⟩
   split
   ·rename_i m off he
    intro nm h e
    have:=(hX nm h).2
    rw[he] at this
    exact this e
   ·trivial
theorem f_d [Vars] {P:Program} {ops:Array Oper} {o:Oper} (hc:Z7 P o.op=.d) (s:List (Nat × AV)) (nm:Nat):∃X:Option (AV × Option AObj),∀h,JV P ops nm o s h=X.map fun (x,o)=>(x,match o with | some o=>h.upd nm (some o)|none=>h):=by
 obtain⟨X,hX⟩:=cl_d hc s nm
 unfold JV
 cases ZR ops s o.guard with
 | none=>exact⟨none,fun _=>rfl⟩
 | some b=>
  cases b with
  | false=>exact⟨some (.tup [],none),fun _=>rfl⟩
  | true=>
   cases X with
   | none=>exact⟨none,hX⟩
   | some xo=>obtain⟨x,o⟩:=xo;exact⟨some (x,some o),hX⟩
def compat:Cl→Cl→Bool
 | .a,_ | _,.a=>true
 | .b _,.b _ | .b _,.d | .d,.b _ | .d,.d=>true
 | _,_=>false
def comm (P:Program) (ops:Array Oper) (p i:Oper):Bool:=p.apart ops i && compat (Z7 P p.op) (Z7 P i.op)
structure Facts [Vars] (P:Program) (ops:Array Oper) (st:St) (nmp nmi:Nat) (p i:Oper):Prop where
 ne:nmp≠nmi
 look:∀x,Z7 P i.op=.b x→Z7 P p.op=.d→∀off,ev st.s x≠.ptr nmp off
 free:Z7 P i.op=.d→st.h nmi=none
 runs:Z7 P i.op=.a→∃x,∀nm h,JV P ops nm i st.s h=some (x,h)
 dok:Zh st.nt i.dst=true
def Eqv (a b:St):Prop:=a.nt=b.nt∧a.h=b.h∧a.n=b.n∧∀t,get a.s t=get b.s t
theorem Eqv.refl (a:St):Eqv a a:=⟨rfl,rfl,rfl,fun _=>rfl⟩
theorem Eqv.symm {a b:St} (h:Eqv a b):Eqv b a:=⟨h.1.symm,h.2.1.symm,h.2.2.1.symm,fun t=>(h.2.2.2 t).symm⟩
theorem Eqv.trans {a b c:St} (h:Eqv a b) (k:Eqv b c):Eqv a c:=⟨h.1.trans k.1,h.2.1.trans k.2.1,h.2.2.1.trans k.2.2.1,fun t=>(h.2.2.2 t).trans (k.2.2.2 t)⟩
theorem get_put {nt n:Nat} {s:List (Nat × AV)} {h:zI} {d:Option Tmp} {x:AV} {t:Tmp} (hd:d≠some t):get (put ⟨nt,s,h,n⟩ d x).s t=get s t:=by
 cases d with
 | none=>rfl
 | some d=>
  simp only[put,get]
  rw[if_neg (fun e=>hd (by rw[e]))]
theorem put_swap {nt n:Nat} {s:List (Nat × AV)} {h:zI} {d e:Option Tmp} {x y:AV} (hd:∀t,d=some t→e≠some t) (n':Nat) (h':zI) :
  Eqv (put ⟨nt,(put ⟨nt,s,h,n⟩ d x).s,h',n'⟩ e y) (put ⟨nt,(put ⟨nt,s,h,n⟩ e y).s,h',n'⟩ d x):=by
 refine⟨by rw[put_nt.1,put_nt.1],by rw[put_nt.2.1,put_nt.2.1],by rw[put_nt.2.2,put_nt.2.2],fun t=>?_⟩
 cases d with
 | none=>cases e <;> simp[put,get]
 | some d=>
  cases e with
  | none=>simp[put,get]
  | some e=>
   have:d≠e:=fun h=>hd d rfl (by rw[h])
   simp only[put,get]
   by_cases h1:t=e
   ·subst h1;rw[if_pos rfl,if_neg (Ne.symm this)];simp
   ·by_cases h2:t=d
    ·subst h2;simp[h1]
    ·simp[h1,h2]
theorem swap_ok [Vars] {P:Program} {ops:Array Oper} {nmp nmi:Nat} {p i:Oper} {st:St} (hc:comm P ops p i=true) (F:Facts P ops st nmp nmi p i) {K:St→Prop} (hK:∀a b,Eqv a b→K a→K b)
  (h:aOp P ops nmp p st (fun s1=>aOp P ops nmi i s1 K)):aOp P ops nmi i st (fun s1=>aOp P ops nmp p s1 K):=by
 simp only[comm,Bool.and_eq_true] at hc
 obtain⟨hap,hcl⟩:=hc
 obtain⟨ha1,ha2,ha3⟩:=Oper.apart_spec hap
 obtain⟨nt,s,hp,n⟩:=st
 obtain⟨hdp,h⟩:=h
 simp only at hdp h ⊢
 have ag1:∀x h1 n1,agreeOn (i.looksAt ops) (put ⟨nt,s,h1,n1⟩ p.dst x).s s:=fun x h1 n1 t ht=>get_put (fun e=>ha1 t e ht)
 have ag2:∀x h1 n1,agreeOn (p.looksAt ops) (put ⟨nt,s,h1,n1⟩ i.dst x).s s:=fun x h1 n1 t ht=>get_put (fun e=>ha3 t e ht)
 have hh:Zx P ops nmp p s hp n fun x h1 n1=>Zh nt i.dst=true∧Zx P ops nmi i s h1 n1 fun y h2 n2=>K (put ⟨nt,(put ⟨nt,s,h1,n1⟩ p.dst x).s,h2,n2⟩ i.dst y):=by
  refine ZV h fun x h1 n1 hk=>?_
  obtain⟨k1,k2⟩:=hk
  rw[put_nt.1] at k1
  rw[put_nt.1,put_nt.2.1,put_nt.2.2] at k2
  exact⟨k1,(Zc (ag1 x h1 n1)).1 k2⟩
 have goal:(Zh nt i.dst=true∧Zx P ops nmi i s hp n fun y h1 n1=>Zx P ops nmp p s h1 n1 fun x h2 n2=>K (put ⟨nt,(put ⟨nt,s,h1,n1⟩ p.dst x).s,h2,n2⟩ i.dst y))→aOp P ops nmi i ⟨nt,s,hp,n⟩ (fun s1=>aOp P ops nmp p s1 K):=by
  rintro⟨g1,g2⟩
  refine⟨g1,ZV g2 fun y h1 n1 hk=>⟨by rw[put_nt.1];exact hdp,?_⟩⟩
  rw[put_nt.1,put_nt.2.1,put_nt.2.2]
  refine (Zc (ag2 y h1 n1)).2 (ZV hk fun x h2 n2 hk=>?_)
  refine hK _ _ (put_swap (fun t e=>ha2 t e) n2 h2) ?_
  exact hk
 refine goal ?_
 clear goal h
 refine⟨F.dok,?_⟩
 have hh:Zx P ops nmp p s hp n fun x h1 n1=>Zx P ops nmi i s h1 n1 fun y h2 n2=>K (put ⟨nt,(put ⟨nt,s,h1,n1⟩ p.dst x).s,h2,n2⟩ i.dst y):=ZV hh fun _ _ _ hk=>hk.2
 have hs:∀x h1 n1 h2 n2,(put ⟨nt,s,h1,n1⟩ p.dst x).s=(put ⟨nt,s,h2,n2⟩ p.dst x).s:=fun x h1 n1 h2 n2=>by cases p.dst <;> rfl
 by_cases hia:Z7 P i.op=.a
 ·obtain⟨y,hy⟩:=F.runs hia
  simp only at hy
  have e1:∀h1 n1 K1,Zx P ops nmi i s h1 n1 K1↔K1 y h1 n1:=fun h1 n1 K1=>by rw[Jm (by rw[hia];simp),hy];rfl
  rw[e1]
  exact ZV hh fun x h1 n1 hk=>by rw[e1] at hk;rw[hs x hp n h1 n1];exact hk
 by_cases hpa:Z7 P p.op=.a
 ·obtain⟨X,hX⟩:=f_a (ops:=ops) hpa s
  have e1:∀h1 n1 K1,Zx P ops nmp p s h1 n1 K1↔jq (X.map (·,h1)) n1 K1:=fun h1 n1 K1=>by rw[Jm (by rw[hpa];simp),hX]
  rw[e1] at hh
  cases X with
  | none=>exact hh.elim
  | some x=>
   simp only[Option.map_some,jq] at hh
   refine ZV hh fun y h1 n1 hk=>?_
   rw[e1]
   simp only[Option.map_some,jq]
   rw[hs x h1 n1 hp n];exact hk
 have hpw:Z7 P p.op≠.w:=by intro e;rw[e] at hcl;cases hc2:Z7 P i.op <;> rw[hc2] at hcl hia <;> simp[compat] at hcl hia
 have hiw:Z7 P i.op≠.w:=by intro e;rw[e] at hcl;cases hc2:Z7 P p.op <;> rw[hc2] at hcl hpa <;> simp[compat] at hcl hpa
 rw[Jm hpw] at hh
 rw[Jm hiw]
 have key:∀x h1 y h2,JV P ops nmp p s hp=some (x,h1)→JV P ops nmi i s h1=some (y,h2)→∃h3,JV P ops nmi i s hp=some (y,h3)∧JV P ops nmp p s h3=some (x,h2):=by
  intro x h1 y h2 e1 e2
  cases hcp:Z7 P p.op with
  | a=>exact absurd hcp hpa
  | w=>exact absurd hcp hpw
  | b xp=>
   obtain⟨X,hX,hX2⟩:=f_b (ops:=ops) hcp s
   have hX1:=e1
   rw[hX] at hX1
   simp only[Option.map_eq_some_iff,Prod.mk.injEq] at hX1
   obtain⟨x',hx',rfl,rfl⟩:=hX1
   cases hci:Z7 P i.op with
   | a=>exact absurd hci hia
   | w=>exact absurd hci hiw
   | b xi=>
    obtain⟨Y,hY,_⟩:=f_b (ops:=ops) hci s
    have hY1:=e2
    rw[hY] at hY1
    simp only[Option.map_eq_some_iff,Prod.mk.injEq] at hY1
    obtain⟨y',hy',rfl,rfl⟩:=hY1
    exact⟨hp,e2,e1⟩
   | d=>
    refine⟨h2,e2,?_⟩
    obtain⟨Y,hY⟩:=f_d (ops:=ops) hci s nmi
    rw[hY] at e2
    simp only[Option.map_eq_some_iff] at e2
    obtain⟨⟨y',oo⟩,rfl,e3⟩:=e2
    simp only[Prod.mk.injEq] at e3
    obtain⟨rfl,rfl⟩:=e3
    rw[hX]
    have hfree:=F.free hci
    simp only at hfree
    have same:X (match ev s xp with | .ptr m _=>(match oo with | some o=>hp.upd nmi (some o)|none=>hp) m | _=>none)=some x':=by
     rcases hX2 with ⟨v,hv⟩ | hX2
     ·rw[hv] at hx' ⊢;exact hx'
     ·cases hxp:ev s xp with
      | ptr m off=>
       rw[hxp] at hX2 hx'
       simp only at hX2 hx' ⊢
       have hm:m≠nmi:=by
        intro e
        have:=hX2 nmp hp (by rw[e];exact hfree)
        rw[this] at e1;cases e1
       cases oo with
       | none=>exact hx'
       | some o=>simp only;rw[zB _ _ _ _ hm];exact hx'
      | _=>rw[hxp] at hx';exact hx'
    rw[same];rfl
  | d=>
   obtain⟨X,hX⟩:=f_d (ops:=ops) hcp s nmp
   have hX1:=e1
   rw[hX] at hX1
   simp only[Option.map_eq_some_iff] at hX1
   obtain⟨⟨x',op⟩,rfl,e3⟩:=hX1
   simp only[Prod.mk.injEq] at e3
   obtain⟨rfl,rfl⟩:=e3
   cases hci:Z7 P i.op with
   | a=>exact absurd hci hia
   | w=>exact absurd hci hiw
   | b xi=>
    obtain⟨Y,hY,_⟩:=f_b (ops:=ops) hci s
    have hY1:=e2
    rw[hY] at hY1
    simp only[Option.map_eq_some_iff,Prod.mk.injEq] at hY1
    obtain⟨y',hy',rfl,rfl⟩:=hY1
    refine⟨hp,?_,e1⟩
    rw[hY]
    have:(match ev s xi with | .ptr m _=>hp m | _=>none)=(match ev s xi with | .ptr m _=>(match op with | some o=>hp.upd nmp (some o)|none=>hp) m | _=>none):=by
     cases hxi:ev s xi with
     | ptr m off=>
      have hm:m≠nmp:=fun e=>F.look xi hci hcp off (by rw[←e];exact hxi)
      cases op with
      | none=>rfl
      | some o=>simp only;rw[zB _ _ _ _ hm]
     | _=>rfl
    rw[this,hy'];rfl
   | d=>
    obtain⟨Y,hY⟩:=f_d (ops:=ops) hci s nmi
    have hY1:=e2
    rw[hY] at hY1
    simp only[Option.map_eq_some_iff] at hY1
    obtain⟨⟨y',oi⟩,rfl,e3⟩:=hY1
    simp only[Prod.mk.injEq] at e3
    obtain⟨rfl,rfl⟩:=e3
    refine⟨_,by rw[hY];rfl,?_⟩
    rw[hX]
    simp only[Option.map_some,Option.some.injEq,Prod.mk.injEq,true_and]
    cases op with
    | none=>rfl
    | some o=>
     cases oi with
     | none=>rfl
     | some o'=>
      funext k
      simp only[zI.upd]
      have:=F.ne
      by_cases h1:k=nmp
      ·subst h1;simp[this]
      ·simp[h1]
 cases hx:JV P ops nmp p s hp with
 | none=>rw[hx] at hh;exact hh.elim
 | some xh=>
  obtain⟨x,h1⟩:=xh
  rw[hx] at hh
  simp only[jq] at hh
  rw[Jm hiw] at hh
  cases hy:JV P ops nmi i s h1 with
  | none=>rw[hy] at hh;exact hh.elim
  | some yh=>
   obtain⟨y,h2⟩:=yh
   rw[hy] at hh
   simp only[jq] at hh
   obtain⟨h3,e1,e2⟩:=key x h1 y h2 hx hy
   rw[e1]
   simp only[jq]
   rw[Jm hpw,e2]
   simp only[jq]
   rw[hs x h3 n h1 n];exact hh
end Go.AM
namespace Go.AM
open Go.RowKit
def jI [Vars] (P:Program) (ops:Array Oper) (base:Nat) (K:St→Prop):List Nat→St→Prop
 | [],st=>K st
 | i :: r,st=>match ops[i]? with
  | some o=>aOp P ops (base + i) o st (jI P ops base K r)
  | none=>False
theorem aOp_mono [Vars] {P:Program} {ops:Array Oper} {nm:Nat} {o:Oper} {st:St} {K K':St→Prop} (h:aOp P ops nm o st K) (hk:∀s,K s→K' s):aOp P ops nm o st K':=
 ⟨h.1,ZV h.2 fun _ _ _=>hk _⟩
theorem aOp_eqv [Vars] {P:Program} {ops:Array Oper} {nm:Nat} {o:Oper} {a b:St} (he:Eqv a b) {K:St→Prop} (hK:∀a b,Eqv a b→K a→K b) (h:aOp P ops nm o a K):aOp P ops nm o b K:=by
 obtain⟨e1,e2,e3,e4⟩:=he
 obtain⟨h1,h2⟩:=h
 refine⟨by rw[←e1];exact h1,?_⟩
 have h3:=(Zc (s:=a.s) (s':=b.s) (fun t _=>e4 t)).1 h2
 rw[e2,e3] at h3
 refine ZV h3 fun x h n hk=>hK _ _ ⟨?_,?_,?_,?_⟩ hk
 ·rw[put_nt.1,put_nt.1];exact e1
 ·rw[put_nt.2.1,put_nt.2.1]
 ·rw[put_nt.2.2,put_nt.2.2]
 ·intro t
  cases o.dst with
  | none=>exact e4 t
  | some d=>simp only[put,get];rw[e4 t]
theorem aOpsI_eqv [Vars] {P:Program} {ops:Array Oper} {base:Nat} {K:St→Prop} (hK:∀a b,Eqv a b→K a→K b):∀(l:List Nat) (a b:St),Eqv a b→jI P ops base K l a→jI P ops base K l b
 | [],a,b,he,h=>hK a b he h
 | i :: r,a,b,he,h=>by
  simp only[jI] at h ⊢
  cases hi:ops[i]? with
  | none=>rw[hi] at h;exact h
  | some o=>rw[hi] at h;exact aOp_eqv he (aOpsI_eqv hK r) h
theorem aOpsI_mono [Vars] {P:Program} {ops:Array Oper} {base:Nat} {K K':St→Prop} (hk:∀s,K s→K' s):∀(l:List Nat) (st:St),jI P ops base K l st→jI P ops base K' l st
 | [],st,h=>hk _ h
 | i :: r,st,h=>by
  simp only[jI] at h ⊢
  cases hi:ops[i]? with
  | none=>rw[hi] at h;exact h
  | some o=>rw[hi] at h;exact aOp_mono h (aOpsI_mono hk r)
theorem aOp_keep [Vars] {P:Program} {ops:Array Oper} {nm:Nat} {o:Oper} {st:St} {K:St→Prop} (h:aOp P ops nm o st K) :
  aOp P ops nm o st fun s=>K s∧s.nt=st.nt∧(∀t,o.dst≠some t→get s.s t=get st.s t)∧(Z7 P o.op≠.w→∀m,m≠nm→s.h m=st.h m):=by
 have hb:∀x h' n',(put ⟨st.nt,st.s,h',n'⟩ o.dst x).nt=st.nt∧(∀t,o.dst≠some t→get (put ⟨st.nt,st.s,h',n'⟩ o.dst x).s t=get st.s t):=fun x h' n'=>⟨put_nt.1,fun t ht=>get_put ht⟩
 refine⟨h.1,?_⟩
 by_cases hw:Z7 P o.op=.w
 ·exact ZV h.2 fun x h' n' hk=>⟨hk,(hb x h' n').1,(hb x h' n').2,fun hc=>absurd hw hc⟩
 ·have h2:=h.2
  rw[Jm hw] at h2 ⊢
  cases hx:JV P ops nm o st.s st.h with
  | none=>rw[hx] at h2;exact h2.elim
  | some xh=>
   obtain⟨x,h'⟩:=xh
   rw[hx] at h2
   refine⟨h2,(hb x h' st.n).1,(hb x h' st.n).2,fun _ m hm=>?_⟩
   rw[put_nt.2.1]
   simp only
   cases hc:Z7 P o.op with
   | w=>exact absurd hc hw
   | a=>
    obtain⟨X,hX⟩:=f_a (ops:=ops) hc st.s
    rw[hX] at hx
    simp only[Option.map_eq_some_iff,Prod.mk.injEq] at hx
    obtain⟨_,_,_,rfl⟩:=hx;rfl
   | b y=>
    obtain⟨X,hX,_⟩:=f_b (ops:=ops) hc st.s
    rw[hX] at hx
    simp only[Option.map_eq_some_iff,Prod.mk.injEq] at hx
    obtain⟨_,_,_,rfl⟩:=hx;rfl
   | d=>
    obtain⟨X,hX⟩:=f_d (ops:=ops) hc st.s nm
    rw[hX] at hx
    simp only[Option.map_eq_some_iff] at hx
    obtain⟨⟨_,oo⟩,_,e⟩:=hx
    simp only[Prod.mk.injEq] at e
    obtain⟨_,rfl⟩:=e
    cases oo with
    | none=>rfl
    | some o=>exact zB _ _ _ _ hm
theorem wp_real {P:Program} {o:Oper} {a:Act} {w:World} {next:Act→World→Prop} (h:o.wpIn (FR none) 0 P a w next fun _ _ _=>False):∃a' w',next a' w':=by
 have h:=h.2
 unfold Oper.uponIn at h
 split at h
 ·exact⟨_,_,h⟩
 ·exact⟨_,_,h⟩
 ·exact⟨_,_,h⟩
 ·obtain⟨_,_,h⟩:=h
  obtain⟨e,w',fr,hR,_⟩:=h [] (room_FR none _)
  cases e with
  | returned v=>exact⟨_,_,hR⟩
  | panicked c=>exact hR.elim
  | outgrown=>obtain⟨_,_,hq⟩:=hR;exact hq.elim
 ·obtain⟨v,w',hR,_⟩:=h.2 default [] (room_FR none _)
  exact⟨_,_,hR⟩
 ·obtain⟨_,_,h⟩:=h
  obtain⟨e,w',hR,_⟩:=h default [] (room_FR none _)
  cases e with
  | returned v=>exact⟨_,_,hR⟩
  | panicked c=>exact hR.elim
  | outgrown=>obtain⟨_,_,hq⟩:=hR;exact hq.elim
 ·exact h.elim
 ·exact h.elim
theorem real_step [Vars] {P:Program} {w0:World} {G0:Gh} {fl base i:Nat} {rem:List Nat} {G:Gh} {st:St} {a:Act} {w:World} {ops:Array Oper} {o:Oper} {K:St→Prop}
  (S:RSim w0 G0 fl base (i :: rem) G st a w) (hfl:fl≤base) (hi:i ∉ rem) (h:aOp P ops (base + i) o st K):∃G' st' a' w',RSim w0 G0 fl base rem G' st' a' w'∧K st':=by
 have:=op_ok (Q:=fun _ _ _=>False) S hfl hi h (next:=fun a' w'=>∃G' st',RSim w0 G0 fl base rem G' st' a' w'∧K st') (fun G' st' a' w' S' k=>⟨G',st',S',k⟩) none
 split at this
 ·obtain⟨a',w',G',st',h1,h2⟩:=wp_real this;exact⟨G',st',a',w',h1,h2⟩
 ·obtain⟨_,G',st',h1,h2⟩:=this;exact⟨G',st',_,_,h1,h2⟩
theorem real_run [Vars] {P:Program} {w0:World} {G0:Gh} {fl base:Nat} {ops:Array Oper} (hfl:fl≤base) {l2:List Nat} {i:Nat} {K:St→Prop} {T:List Tmp}:∀(l1:List Nat) {G:Gh} {st:St} {a:Act} {w:World}
  (_:RSim w0 G0 fl base (l1 ++ i :: l2) G st a w) (_:(l1 ++ i :: l2).Nodup) (_:∀p ∈ l1,∀o,ops[p]? = some o→∀d,o.dst=some d→d ∉ T) (_:jI P ops base K (l1 ++ i :: l2) st),
  ∃st',st'.nt=st.nt∧(∀t ∈ T,get st'.s t=get st.s t)∧jI P ops base K (i :: l2) st'
 | [],G,st,a,w,S,hn,hT,h=>⟨st,rfl,fun _ _=>rfl,h⟩
 | p :: l1,G,st,a,w,S,hn,hT,h=>by
  simp only[List.cons_append] at S hn h
  have hn':=List.nodup_cons.1 hn
  have h':=h
  simp only[jI] at h'
  cases ho:ops[p]? with
  | none=>rw[ho] at h';exact h'.elim
  | some o=>
   rw[ho] at h'
   obtain⟨G1,st1,a1,w1,S1,k1,k2,k3,_⟩:=real_step S hfl hn'.1 (aOp_keep h')
   obtain⟨st',e1,e2,e3⟩:=real_run hfl l1 S1 hn'.2 (fun q hq=>hT q (by simp[hq])) k1
   exact⟨st',e1.trans k2,fun t ht=>(e2 t ht).trans (k3 t fun e=>hT p (by simp) o ho t e ht),e3⟩
theorem fVal_agree [Vars] {P:Program} {ops:Array Oper} {nm:Nat} {o:Oper} {s s':List (Nat × AV)} {h:zI} (ha:agreeOn (o.looksAt ops) s s'):JV P ops nm o s h=JV P ops nm o s' h:=by
 unfold JV
 rw[wanted_agree ha,aStep_agree (ev_agree ha)]
theorem front [Vars] {P:Program} {base:Nat} {ops:Array Oper} {i:Nat} {o:Oper} (ho:ops[i]? = some o) {l2:List Nat} {K:St→Prop} (hK:∀a b,Eqv a b→K a→K b):∀(l1:List Nat) (st:St)
  (_:∀p ∈ l1,p≠i∧∀q,ops[p]? = some q→comm P ops q o=true∧Facts P ops st (base + p) (base + i) q o) (_:jI P ops base K (l1 ++ i :: l2) st),
  jI P ops base K (i :: (l1 ++ l2)) st
 | [],st,_,h=>h
 | p :: l1,st,hc,h=>by
  simp only[List.cons_append] at h
  have h':=h
  simp only[jI] at h'
  obtain⟨hpi,hq⟩:=hc p (by simp)
  cases hp:ops[p]? with
  | none=>rw[hp] at h';exact h'.elim
  | some q=>
   rw[hp] at h'
   obtain⟨hcm,hF⟩:=hq q hp
   have hap:q.apart ops o=true:=by simp only[comm,Bool.and_eq_true] at hcm;exact hcm.1
   obtain⟨ha1,_,_⟩:=Oper.apart_spec hap
   have h1:aOp P ops (base + p) q st (fun s1=>aOp P ops (base + i) o s1 (jI P ops base K (l1 ++ l2))):=by
    refine aOp_mono (aOp_keep h') fun s1 ⟨k1,k2,k3,k4⟩=>?_
    have ih:=front ho hK l1 s1 (fun p' hp'=>⟨(hc p' (by simp[hp'])).1,fun q' hq'=>?_⟩) k1
    ·simpa only[jI,ho] using ih
    ·obtain⟨g1,g2⟩:=(hc p' (by simp[hp'])).2 q' hq'
     have hag:agreeOn (o.looksAt ops) s1.s st.s:=fun t ht=>k3 t fun e=>ha1 t e ht
     refine⟨g1,g2.ne,fun x hx hd off e=>?_,fun hd=>?_,fun hA=>?_,by rw[k2];exact g2.dok⟩
     ·refine g2.look x hx hd off ?_
      rw[←e]
      exact (ev_agree hag x (cl_b hx st.s).1).symm
     ·have hqw:Z7 P q.op≠.w:=by
       intro e
       simp only[comm,Bool.and_eq_true] at hcm
       rw[e,hd] at hcm
       simp[compat] at hcm
      rw[k4 hqw _ (fun e=>hpi (by omega))]
      exact g2.free hd
     ·obtain⟨x,hx⟩:=g2.runs hA
      exact⟨x,fun nm h=>by rw[fVal_agree hag];exact hx nm h⟩
   have h2:=swap_ok hcm hF (aOpsI_eqv hK (l1 ++ l2)) h1
   simp only[jI,ho]
   refine aOp_mono h2 fun s1 k=>?_
   simp only[List.cons_append,jI,hp]
   exact k
end Go.AM
namespace Go.AM
open Go.RowKit
def ancMask (acc:List Nat) (l:List Edge):Nat:=l.foldl (fun s e=>if Region.binds .any e then s ||| 2 ^ e.on ||| acc.getD e.on 0 else s) 0
def qV (acc:List Nat):List Oper→List Nat
 | []=>acc
 | o :: r=>qV (acc ++ [ancMask acc o.after.toList]) r
theorem ancMask_bit {acc:List Nat} {p:Nat}:∀(l:List Edge) (s:Nat),(l.foldl (fun s e=>if Region.binds .any e then s ||| 2 ^ e.on ||| acc.getD e.on 0 else s) s).testBit p=true→
  s.testBit p=true∨∃e ∈ l,Region.binds .any e=true∧(e.on=p∨(acc.getD e.on 0).testBit p=true)
 | [],s,h=>.inl h
 | e :: r,s,h=>by
  simp only[List.foldl_cons] at h
  rcases ancMask_bit r _ h with h | ⟨f,h1,h2⟩
  ·by_cases hb:Region.binds .any e=true
   ·rw[if_pos hb] at h
    simp only[Nat.testBit_or,Bool.or_eq_true,Nat.testBit_two_pow] at h
    rcases h with (h | h)|h
    ·exact .inl h
    ·exact .inr ⟨e,by simp,hb,.inl (by simpa using h)⟩
    ·exact .inr ⟨e,by simp,hb,.inr h⟩
   ·rw[if_neg hb] at h;exact .inl h
  ·exact .inr ⟨f,by simp[h1],h2⟩
def Good (ops:List Oper) (listed:Nat→Prop) (acc:List Nat):Prop:=
 ∀(i m:Nat),acc[i]? = some m→∀o,ops[i]? = some o→(∀e ∈ o.after,Region.binds .any e=true→listed e.on)→∀p,m.testBit p=true→listed p
theorem anc_good [Vars] {ops:List Oper} {listed:Nat→Prop} (hd:∀(i:Nat) o,ops[i]? = some o→listed i→∀e ∈ o.after,Region.binds .any e=true→listed e.on) :
  ∀(r:List Oper) (acc:List Nat),ops.drop acc.length=r→acc.length≤ops.length→Good ops listed acc→Good ops listed (qV acc r)
 | [],acc,_,_,h=>h
 | o :: r,acc,hr,hle,h=>by
  have hlt:acc.length < ops.length:=by
   rcases Nat.lt_or_ge acc.length ops.length with h' | h'
   ·exact h'
   ·rw[List.drop_eq_nil_of_le h'] at hr;cases hr
  have ho:ops[acc.length]? = some o:=by
   have:(ops.drop acc.length)[0]? = some o:=by rw[hr];rfl
   simpa using this
  simp only[qV]
  refine anc_good hd r _ ?_ (by simp;omega) ?_
  ·simp only[List.length_append,List.length_cons,List.length_nil]
   rw[←List.drop_drop,hr];rfl
  ·intro i m hm q hq hl p hp
   rcases Nat.lt_or_ge i acc.length with hi | hi
   ·rw[List.getElem?_append_left hi] at hm;exact h i m hm q hq hl p hp
   ·rw[List.getElem?_append_right hi] at hm
    have:i - acc.length=0:=by
     rcases Nat.eq_zero_or_pos (i - acc.length) with h' | h'
     ·exact h'
     ·rw[List.getElem?_eq_none (by simp;omega)] at hm;cases hm
    rw[this] at hm
    simp only[List.getElem?_cons_zero,Option.some.injEq] at hm
    subst hm
    have hi':i=acc.length:=by omega
    subst hi'
    rw[ho] at hq;cases hq
    rcases ancMask_bit _ _ hp with hz | ⟨e,he,hb,h1⟩
    ·simp at hz
    ·have hle:=hl e (by simpa using he) hb
     rcases h1 with h1 | h1
     ·exact h1 ▸ hle
     ·have hlt2:e.on < acc.length:=by
       rcases Nat.lt_or_ge e.on acc.length with h' | h'
       ·exact h'
       ·rw[List.getD_eq_getElem?_getD,List.getElem?_eq_none h'] at h1;simp at h1
      rw[List.getD_eq_getElem?_getD,List.getElem?_eq_getElem hlt2] at h1
      obtain⟨q',hq'⟩:∃q',ops[e.on]? = some q':=⟨ops[e.on],List.getElem?_eq_getElem (by omega)⟩
      exact h e.on _ (List.getElem?_eq_getElem hlt2) q' hq' (hd _ _ hq' hle) p (by simpa using h1)
def drawOK (P:Program) (ops:Array Oper):Bool:=
 let m:=qV [] ops.toList
 (List.range ops.size).all fun i=>match ops[i]? with
   | none=>false
   | some o=>(o.after.toList.all fun e=>!Region.binds .any e || decide (e.on < i)) &&
    (List.range i).all fun p=>(m.getD i 0).testBit p || (match ops[p]? with | some q=>comm P ops q o | none=>false)
section
variable {P : Program} {ops : Array Oper}
theorem drawOK_edge (h:drawOK P ops=true) {i:Nat} {o:Oper} (ho:ops[i]? = some o):∀e ∈ o.after,Region.binds .any e=true→e.on < i:=by
 intro e he hb
 have hi:i < ops.size:=(Array.getElem?_eq_some_iff.1 ho).1
 have:=List.all_eq_true.1 h i (by simpa using hi)
 rw[ho] at this
 simp only[Bool.and_eq_true] at this
 have:=List.all_eq_true.1 this.1 e (by simpa using he)
 simpa [hb] using this
theorem drawOK_comm (h:drawOK P ops=true) {i p:Nat} {o q:Oper} (ho:ops[i]? = some o) (hq:ops[p]? = some q) (hp:p < i) (hn:((qV [] ops.toList).getD i 0).testBit p=false):comm P ops q o=true:=by
 have hi:i < ops.size:=(Array.getElem?_eq_some_iff.1 ho).1
 have:=List.all_eq_true.1 h i (by simpa using hi)
 rw[ho] at this
 simp only[Bool.and_eq_true] at this
 have:=List.all_eq_true.1 this.2 p (by simpa using hp)
 rw[hn,hq] at this
 simpa using this
theorem qo:∀(r:List Oper) (acc:List Nat),(qV acc r).length=acc.length + r.length
 | [],acc=>rfl
 | o :: r,acc=>by simp only[qV];rw[qo r];simp;omega
theorem jr {listed:Array Bool} {i:Nat} (h:i ∈ Region.ready .any ops listed):i < ops.size∧listed.getD i true=false∧∃o,ops[i]? = some o∧∀e ∈ o.after,Region.binds .any e=true→listed.getD e.on false=true:=by
 simp only[Region.ready,List.mem_filter,List.mem_range,Bool.and_eq_true,Bool.not_eq_true'] at h
 obtain⟨h1,h2,h3⟩:=h
 refine⟨h1,h2,ops[i],Array.getElem?_eq_getElem h1,?_⟩
 rw[Array.getElem?_eq_getElem h1] at h3
 simp only[Option.map_some,Option.getD_some] at h3
 intro e he hb
 have:=(Array.all_eq_true_iff_forall_mem.1 h3) e he
 simpa [hb] using this
theorem any_ok [Vars] (r:Option Nat) (hok:drawOK P ops=true) {w0:World} {G0:Gh} {fl base:Nat} (hfl:fl≤base) {K:St→Prop} (hK:∀a b,Eqv a b→K a→K b) {Q:Exit→Act→World→Prop}
  (hQ:∀G st a w,RSim w0 G0 fl base [] G st a w→K st→Q .normal a w):∀(fuel:Nat) (rem:List Nat) (listed:Array Bool) (G:Gh) (st:St) (a:Act) (w:World),
  rem.length≤fuel→rem.Pairwise (·< ·)→listed.size=ops.size→(∀j,j ∈ rem↔j < ops.size∧listed.getD j true=false)→
  (∀(i:Nat) o,ops[i]? = some o→listed.getD i false=true→∀e ∈ o.after,Region.binds .any e=true→listed.getD e.on false=true)→
  RSim w0 G0 fl base rem G st a w→jI P ops base K rem st→wpAnyIn (FR r) 0 P .any ops Q fuel listed a w:=by
 intro fuel
 induction fuel with
 | zero=>
  intro rem listed G st a w hf hs hsz hr hd S h
  have:rem=[]:=List.length_eq_zero_iff.1 (by omega)
  subst this
  refine⟨?_,hQ G st a w S h⟩
  cases hrd:Region.ready .any ops listed with
  | nil=>rfl
  | cons i r=>
   obtain⟨h1,h2,_⟩:=jr (by rw[hrd];simp:i ∈ Region.ready .any ops listed)
   have:=(hr i).2 ⟨h1,h2⟩
   simp at this
 | succ fuel ih=>
  intro rem listed G st a w hf hs hsz hr hd S h
  refine⟨fun hnil=>?_,fun i hi=>?_⟩
  ·cases rem with
   | nil=>exact hQ G st a w S h
   | cons i r=>
    exfalso
    obtain⟨hi1,hi2⟩:=(hr i).1 (by simp)
    have hready:i ∈ Region.ready .any ops listed:=by
     simp only[Region.ready,List.mem_filter,List.mem_range,Bool.and_eq_true,Bool.not_eq_true']
     refine⟨hi1,hi2,?_⟩
     rw[Array.getElem?_eq_getElem hi1]
     simp only[Option.map_some,Option.getD_some]
     refine Array.all_eq_true_iff_forall_mem.2 fun e he=>?_
     by_cases hb:Region.binds .any e=true
     ·have hlt:=drawOK_edge hok (Array.getElem?_eq_getElem hi1) e he hb
      have:listed.getD e.on false=true:=by
       have hne:e.on ∉ i :: r:=by
        intro hm
        rcases List.mem_cons.1 hm with h' | h'
        ·omega
        ·have:=(List.pairwise_cons.1 hs).1 _ h';omega
       have h3:¬(e.on < ops.size∧listed.getD e.on true=false):=fun h'=>hne ((hr _).2 h')
       have hlt2:e.on < listed.size:=by omega
       simp only[Array.getD_eq_getD_getElem?,Array.getElem?_eq_getElem hlt2,Option.getD_some] at h3 ⊢
       cases hv:listed[e.on] with
       | true=>rfl
       | false=>exact absurd ⟨by omega,hv⟩ h3
      simp[this]
     ·simp[hb]
    rw[hnil] at hready
    cases hready
  ·obtain⟨h1,h2,o,ho,h3⟩:=jr hi
   have hmem:=(hr i).2 ⟨h1,h2⟩
   obtain⟨l1,l2,hl⟩:=List.append_of_mem hmem
   subst hl
   have hnd:(l1 ++ i :: l2).Nodup:=hs.imp (fun h=>Nat.ne_of_lt h)
   have hpw:=List.pairwise_append.1 hs
   have hcomm:∀p ∈ l1,∀q,ops[p]? = some q→comm P ops q o=true:=by
    intro p hp q hq
    have hpi:p < i:=hpw.2.2 p hp i (by simp)
    refine drawOK_comm hok ho hq hpi ?_
    have hgood:=anc_good (ops:=ops.toList) (listed:=fun j=>listed.getD j false=true) (fun j o' hj hl e he hb=>hd j o' (by simpa using hj) hl e he hb) ops.toList [] rfl (by simp) (fun j m hm=>by simp at hm)
    cases hb:((qV [] ops.toList).getD i 0).testBit p with
    | false=>rfl
    | true=>
     exfalso
     have hlen:i < (qV [] ops.toList).length:=by rw[qo];simpa using h1
     rw[List.getD_eq_getElem?_getD,List.getElem?_eq_getElem hlen] at hb
     have hlp:=hgood i _ (List.getElem?_eq_getElem hlen) o (by simpa using ho) h3 p (by simpa using hb)
     obtain⟨p1,p2⟩:=(hr p).1 (by simp[hp])
     have hps:p < listed.size:=by omega
     simp only[Array.getD_eq_getD_getElem?,Array.getElem?_eq_getElem hps,Option.getD_some] at hlp p2
     rw[p2] at hlp;cases hlp
   have hTd:∀p ∈ l1,∀q,ops[p]? = some q→∀d,q.dst=some d→d ∉ o.looksAt ops:=by
    intro p hp q hq d hd'
    have:=hcomm p hp q hq
    simp only[comm,Bool.and_eq_true] at this
    exact (Oper.apart_spec this.1).1 d hd'
   obtain⟨st1,r1,r2,r3⟩:=real_run hfl l1 S hnd hTd h
   simp only[jI,ho] at r3
   have hfacts:∀p ∈ l1,p≠i∧∀q,ops[p]? = some q→comm P ops q o=true∧Facts P ops st (base + p) (base + i) q o:=by
    intro p hp
    have hpi:p < i:=hpw.2.2 p hp i (by simp)
    refine⟨by omega,fun q hq=>⟨hcomm p hp q hq,by omega,fun x hx hcd off e=>?_,fun hcd=>?_,fun hca=>?_,by rw[←r1];exact r3.1⟩⟩
    ·have:=Qe S.sim.inv.oth.vars S.sim.slots x
     rw[e] at this
     simp only[Rv] at this
     obtain⟨_,_,_,hreg,_⟩:=this
     rw[(S.names p (by simp[hp])).1] at hreg;cases hreg
    ·cases hh:st.h (base + i) with
     | none=>rfl
     | some ob=>
      obtain⟨_,hreg⟩:=(S.sim.inv.obj _ _ hh).hasReg
      rw[(S.names i (by simp)).1] at hreg;cases hreg
    ·obtain⟨X,hX⟩:=f_a (ops:=ops) hca st.s
     have hv:=r3.2
     rw[Jm (by rw[hca];simp),fVal_agree (s':=st.s) (fun t ht=>r2 t ht),hX] at hv
     cases X with
     | none=>exact hv.elim
     | some x=>exact⟨x,fun nm h=>by rw[hX];rfl⟩
   have hfr:=front ho hK l1 st hfacts h
   simp only[jI,ho] at hfr
   have hmove:∀j,j ∈ i :: (l1 ++ l2)→j ∈ l1 ++ i :: l2:=by
    intro j hj
    simp only[List.mem_cons,List.mem_append] at hj ⊢
    rcases hj with rfl | hj | hj
    ·exact .inr (.inl rfl)
    ·exact .inl hj
    ·exact .inr (.inr hj)
   have hnotin:i ∉ l1 ++ l2:=by
    intro hm
    have hnd2:=List.nodup_append.1 hnd
    rcases List.mem_append.1 hm with h' | h'
    ·exact hnd2.2.2 i h' i (by simp) rfl
    ·exact (List.nodup_cons.1 hnd2.2.1).1 h'
   have hres:=op_ok (Q:=Q) (S.sub hmove) hfl hnotin hfr (next:=wpAnyIn (FR r) 0 P .any ops Q fuel (listed.setIfInBounds i true)) ?_ r
   ·unfold wpOpIn
    rw[ho]
    simp only
    split at hres
    ·rename_i hw;rw[if_pos hw];exact hres
    ·rename_i hw;rw[if_neg hw];exact hres
   ·intro G' st' a' w' S' h'
    have hsize:(listed.setIfInBounds i true).size=listed.size:=by simp
    have hget:∀(j:Nat) (d:Bool),(listed.setIfInBounds i true).getD j d=if j=i then (if i < listed.size then true else d) else listed.getD j d:=by
     intro j d
     simp only[Array.getD_eq_getD_getElem?,Array.getElem?_setIfInBounds]
     by_cases hji:i=j
     ·subst hji;by_cases hh:i < listed.size <;> simp[hh]
     ·rw[if_neg hji,if_neg (Ne.symm hji)]
    have hil:i < listed.size:=by omega
    refine ih (l1 ++ l2) _ G' st' a' w' ?_ ?_ ?_ (fun j=>?_) (fun j o' hj hl e he hb=>?_) S' h'
    ·simp only[List.length_append,List.length_cons] at hf ⊢;omega
    ·exact List.pairwise_append.2 ⟨hpw.1,(List.pairwise_cons.1 hpw.2.1).2,fun x hx y hy=>hpw.2.2 x hx y (by simp[hy])⟩
    ·rw[hsize];exact hsz
    ·rw[hget]
     have hrj:=hr j
     by_cases hji:j=i
     ·subst hji
      simp only[if_true,hil]
      constructor
      ·intro hm;exact absurd hm hnotin
      ·rintro⟨_,hc⟩;cases hc
     ·rw[if_neg hji,←hrj]
      simp only[List.mem_append,List.mem_cons]
      constructor
      ·rintro (h' | h')
       ·exact .inl h'
       ·exact .inr (.inr h')
      ·rintro (h' | h' | h')
       ·exact .inl h'
       ·exact absurd h' hji
       ·exact .inr h'
    ·rw[hget] at hl ⊢
     by_cases hei:e.on=i
     ·simp[hei,hil]
     ·rw[if_neg hei]
      by_cases hji:j=i
      ·subst hji
       rw[ho] at hj;cases hj
       exact h3 e he hb
      ·rw[if_neg hji] at hl
       exact hd j o' hj hl e he hb
theorem ac_draw [Vars] {fl:Nat} {Q:Exit→St→Prop} {st:St} {id:Nat} (hm:P.follows .mixedOrders=true) (hok:drawOK P ops=true) (h:jI P ops st.n (Q .normal) (List.range ops.size) {st with n:=st.n + ops.size}):ze P fl (.region id ops true) Q st:=by
 intro r w0 G a w hr S hf
 have S':Sim w0 G st a w.drew:=⟨S.inv.drew,S.size,S.defers,S.slots,S.fresh⟩
 have hQ:∀(G':Gh) (s:St) (a':Act) (w':World),RSim w0 G fl st.n [] G' s a' w'→(∃s0,Eqv s0 s∧Q .normal s0)→∃G'' st',Ext fl G G''∧fl≤st'.n∧Sim w0 G'' st' a' w'∧Q .normal st':=by
  rintro G' s a' w' S1 ⟨s0,e1,e2⟩
  exact⟨G',s0,S1.ext,by rw[e1.2.2.1];exact S1.lim,⟨by rw[e1.2.1];exact S1.sim.inv,by rw[e1.1];exact S1.sim.size,S1.sim.defers,fun t=>by rw[e1.2.2.2];exact S1.sim.slots t,by rw[e1.2.2.1];exact S1.sim.fresh⟩,e2⟩
 refine wpIn_region_any hm (any_ok r hok (base:=st.n) (G0:=G) (w0:=w0) hf (K:=fun s=>∃s0,Eqv s0 s∧Q .normal s0) (fun a b e ⟨s0,e1,e2⟩=>⟨s0,e1.trans e,e2⟩) hQ ops.size (List.range ops.size) (Array.replicate ops.size false) G _ a w.drew
  (by simp) List.pairwise_lt_range (by simp) (fun j=>?_) (fun i o ho hl=>?_) (ZD S' hf ops.size _ (fun j hj=>by simpa using hj)) (aOpsI_mono (fun s hs=>⟨s,Eqv.refl s,hs⟩) _ _ h))
 ·simp only[List.mem_range]
  constructor
  ·intro hj;exact⟨hj,by simp[Array.getD_eq_getD_getElem?,hj]⟩
  ·exact fun h=>h.1
 ·exfalso
  have hi:i < ops.size:=(Array.getElem?_eq_some_iff.1 ho).1
  simp[Array.getD_eq_getD_getElem?,hi] at hl
end
end Go.AM
namespace Go.AM
open Go.RowKit
attribute [go_sem] Zo
def goK [Vars] (c:Option (Operand × List Operand)) (P:Program) (nm:Nat) (o:Op) (s:List (Nat × AV)) (h:zI) (n:Nat) (K:AV→zI→Nat→Prop):Prop:=
 match c with
 | some (f,args)=>callK P (ev s f) (args.map (ev s)) h n K
 | none=>jq (zc P nm o s h) n K
def wantK [Vars] (w:Option Bool) (P:Program) (nm:Nat) (o:Op) (s:List (Nat × AV)) (h:zI) (n:Nat) (K:AV→zI→Nat→Prop):Prop:=
 match w with
 | none=>False
 | some false=>K (.tup []) h n
 | some true=>goK (Zo o) P nm o s h n K
@[go_sem] theorem aVal_eq [Vars] (P:Program) (ops:Array Oper) (nm:Nat) (o:Oper) (s:List (Nat × AV)) (h:zI) (n:Nat) (K:AV→zI→Nat→Prop) :
  Zx P ops nm o s h n K=wantK (ZR ops s o.guard) P nm o.op s h n K:=by
 unfold Zx wantK goK
 split <;> rename_i h1 <;> simp only[h1]
 rfl
@[go_sem] theorem wantK_false [Vars] (P:Program) (nm:Nat) (o:Op) (s:List (Nat × AV)) (h:zI) (n:Nat) (K:AV→zI→Nat→Prop):wantK (some false) P nm o s h n K=K (.tup []) h n:=rfl
@[go_sem] theorem wantK_true [Vars] (P:Program) (nm:Nat) (o:Op) (s:List (Nat × AV)) (h:zI) (n:Nat) (K:AV→zI→Nat→Prop):wantK (some true) P nm o s h n K=goK (Zo o) P nm o s h n K:=rfl
@[go_sem] theorem goK_some [Vars] (f:Operand) (l:List Operand) (P:Program) (nm:Nat) (o:Op) (s:List (Nat × AV)) (h:zI) (n:Nat) (K:AV→zI→Nat→Prop):goK (some (f,l)) P nm o s h n K=callK P (ev s f) (l.map (ev s)) h n K:=rfl
@[go_sem] theorem goK_none [Vars] (P:Program) (nm:Nat) (o:Op) (s:List (Nat × AV)) (h:zI) (n:Nat) (K:AV→zI→Nat→Prop):goK none P nm o s h n K=jq (zc P nm o s h) n K:=rfl
@[go_sem] theorem stepK_some (x:AV) (h:zI) (n:Nat) (K:AV→zI→Nat→Prop):jq (some (x,h)) n K=K x h n:=rfl
@[go_sem] theorem callK_func [Vars] (P:Program) (g:FuncId) (first captured args:List AV) (h:zI) (n:Nat) (K:AV→zI→Nat→Prop):callK P (.func (.func g) first captured) args h n K=GCalls P g (first ++ args ++ captured) h n K:=rfl
def nextK (nt:Nat) (s:List (Nat × AV)) (dst:Option Tmp) (K:St→Prop) (x:AV) (h:zI) (n:Nat):Prop:=K (put ⟨nt,s,h,n⟩ dst x)
@[go_sem] theorem nextK_eq (nt:Nat) (s:List (Nat × AV)) (dst:Option Tmp) (K:St→Prop) (x:AV) (h:zI) (n:Nat):nextK nt s dst K x h n=K (put ⟨nt,s,h,n⟩ dst x):=rfl
@[go_sem] theorem aOp_eq [Vars] (P:Program) (ops:Array Oper) (nm:Nat) (o:Oper) (st:St) (K:St→Prop) :
  aOp P ops nm o st K=(Zh st.nt o.dst=true∧Zx P ops nm o st.s st.h st.n (nextK st.nt st.s o.dst K)):=rfl
@[go_sem] theorem aOps_nil [Vars] (P:Program) (ops:Array Oper) (base:Nat) (K:St→Prop) (i:Nat) (st:St):Jb P ops base K i [] st=K st:=rfl
def restK [Vars] (P:Program) (ops:Array Oper) (base:Nat) (K:St→Prop) (i:Nat) (r:List Oper) (st:St):Prop:=Jb P ops base K i r st
@[go_sem] theorem restK_eq [Vars] (P:Program) (ops:Array Oper) (base:Nat) (K:St→Prop) (i:Nat) (r:List Oper) (st:St):restK P ops base K i r st=Jb P ops base K i r st:=rfl
@[go_sem] theorem aOps_cons [Vars] (P:Program) (ops:Array Oper) (base:Nat) (K:St→Prop) (i:Nat) (o:Oper) (r:List Oper) (st:St):Jb P ops base K i (o :: r) st=aOp P ops (base + i) o st (restK P ops base K (i + 1) r):=rfl
theorem far {m n:Nat} (hlt:m < n):(∀(g:zI) (o:Option AObj),(g.upd n o) m=g m)∧(∀(g:zI) (j:Nat) (o:Option AObj),(g.upd (n + j) o) m=g m)∧(∀(g:zI) (i j:Nat) (o:Option AObj),(g.upd (n + i + j) o) m=g m)∧(∀(g:zI) (i j k:Nat) (o:Option AObj),(g.upd (n + i + j + k) o) m=g m)∧(∀(g:zI) (i j k l:Nat) (o:Option AObj),(g.upd (n + i + j + k + l) o) m=g m):=
 ⟨fun _ _=>zB _ _ _ _ (by omega),fun _ _ _=>zB _ _ _ _ (by omega),fun _ _ _ _=>zB _ _ _ _ (by omega),fun _ _ _ _ _=>zB _ _ _ _ (by omega),fun _ _ _ _ _ _=>zB _ _ _ _ (by omega)⟩
def NB (h:zI) (n:Nat):Prop:=∀k,n≤k→h k=none
theorem NB.upd {h:zI} {n k m:Nat} {o:Option AObj} (hb:NB h n) (hk:k < m) (hm:n≤m):NB (h.upd k o) m:=fun j hj=>by
 rw[zB _ _ _ _ (by omega)];exact hb j (by omega)
theorem NB.mono {h:zI} {n m:Nat} (hb:NB h n) (hm:n≤m):NB h m:=fun j hj=>hb j (by omega)
theorem zM {n:Int} (h0 : -9223372036854775808≤n) (h1:n≤9223372036854775807):IntKind.i64.wrap n=n:=by
 rw[IntKind.wrap_i64];omega
theorem aOps_aOpsI [Vars] {P:Program} {ops:Array Oper} {base:Nat} {K:St→Prop}:∀(l:List Oper) (i:Nat) (_:ops.toList.drop i=l) (st:St),Jb P ops base K i l st→jI P ops base K (List.range' i l.length) st
 | [],_,_,_,h=>h
 | o :: r,i,hl,st,h=>by
  have hlt:i < ops.toList.length:=by
   rcases Nat.lt_or_ge i ops.toList.length with h' | h'
   ·exact h'
   ·rw[List.drop_eq_nil_of_le h'] at hl;cases hl
  have ho:ops[i]? = some o:=by
   have:(ops.toList.drop i)[0]? = some o:=by rw[hl];rfl
   simpa using this
  have hr:ops.toList.drop (i + 1)=r:=by rw[←List.drop_drop,hl];rfl
  simp only[List.length_cons,List.range'_succ,jI,ho]
  simp only[Jb] at h
  exact aOp_mono h fun s hs=>aOps_aOpsI r (i + 1) hr s hs
theorem ac_draw' [Vars] {P:Program} {ops:Array Oper} {fl:Nat} {Q:Exit→St→Prop} {st:St} {id:Nat} (hm:P.follows .mixedOrders=true) (hok:drawOK P ops=true) (h:Jb P ops st.n (Q .normal) 0 ops.toList {st with n:=st.n + ops.size}):ze P fl (.region id ops true) Q st:=by
 refine ac_draw hm hok ?_
 have:=aOps_aOpsI ops.toList 0 rfl _ h
 rwa [←List.range_eq_range',Array.length_toList] at this
theorem ac_cond_k [Vars] {P:Program} {fl:Nat} {Q:Exit→St→Prop} {st:St} {c:Operand} {x y:Code} (h:∀Kt Kf:Prop,(ze P fl x Q st→Kt)→(ze P fl y Q st→Kf)→match ev st.s c with | .c (.bool b)=>(b=true→Kt)∧(b=false→Kf)|_=>False) :
  ze P fl (.cond c x y) Q st:=by
 have h:=h _ _ id id
 split at h
 ·rename_i b hb
  exact ac_cond hb h.1 h.2
 ·exact h.elim
theorem zl [Vars] {I:St→Prop} {μ:St→Nat} {m:Nat} {nt n:Nat} {s s':List (Nat × AV)} {h h':zI} (ha:agree s s') (hs:Sub h' h) (hI:I ⟨nt,s',h',n⟩) (hm:μ ⟨nt,s',h',n⟩ < m) :
  ∃s'',Wk ⟨nt,s,h,n⟩ s''∧I s''∧μ s'' < m:=⟨_,Wk.of ha hs,hI,hm⟩
theorem zS [Vars] {I:St→Prop} {nt n:Nat} {s s':List (Nat × AV)} {h h':zI} (ha:agree s s') (hs:Sub h' h) (hI:I ⟨nt,s',h',n⟩) :
  ∃s'',Wk ⟨nt,s,h,n⟩ s''∧I s'':=⟨_,Wk.of ha hs,hI⟩
attribute [go_sem] agree
def ZL (s:St) (t:Nat):Int:=match get s.s t with | .c (.int _ k)=>k | _=>0
def APureAt [Vars] (P:Program) (f:FuncId) (args:List AV) (h:zI) (n:Nat) (x:AV):Prop:=zQ P f args h n fun r h' n'=>r=x∧h'=h∧n'=n
theorem APureAt.call [Vars] {P:Program} {f:FuncId} {args:List AV} {x:AV} {h:zI} {n:Nat} (hp:APureAt P f args h n x) {K:AV→zI→Nat→Prop} (hk:K x h n):zQ P f args h n K:=
 hp.mono fun _ _ _ ⟨e1,e2,e3⟩=>by subst e1;subst e2;subst e3;exact hk
def ATurn [Vars] (P:Program) (f:FuncId) (args:List AV) (h:zI) (n:Nat) (x:AV) (H:zI):Prop:=zQ P f args h n fun r h' n'=>r=x∧h'=H∧n'=n
theorem ATurn.call [Vars] {P:Program} {f:FuncId} {args:List AV} {x:AV} {h H:zI} {n:Nat} (hp:ATurn P f args h n x H) {K:AV→zI→Nat→Prop} (hk:K x H n):zQ P f args h n K:=
 hp.mono fun _ _ _ ⟨e1,e2,e3⟩=>by subst e1;subst e2;subst e3;exact hk
theorem zQ.keep [Vars] {P:Program} {f:FuncId} {args:List AV} {h:zI} {n:Nat} {K:AV→zI→Nat→Prop} (H:zI) (hH:HB H n) (hc:zQ P f args h n (fun x h' _=>(∀k,k < n→h' k=H k)∧AM.below n x∧K x H n)):zQ P f args h n K:=by
 refine⟨hc.1,fun w0 G w vs I hf hr=>(hc.2 w0 G w vs I hf hr).mono ?_⟩
 rintro e w' ⟨G',r,x,h',n',e1,⟨e2,eo⟩,e3,e4,e5,e6,e7,e8,e9⟩
 exact⟨G'.cut n,r,x,H,n,e1,⟨e2.trans Gh.cut_ext,eo⟩,e3.cut (fun k o ek=>⟨by rw[e7 k (hH k o ek).1];exact ek,hH k o ek⟩),Gh.cut_fresh,Nat.le_refl _,
  Rv.restrict Gh.cut_ext.reg (fun _ _ e=>e) _ _ e8 e6,e9⟩
theorem HB.set {h:zI} {n k:Nat} {o:AObj} (hb:HB h n) (hk:k < n) (ho:QU n o):HB (h.upd k (some o)) n:=fun j p e=>by
 by_cases hj:j=k
 ·subst hj;rw[zD] at e;cases e;exact⟨hk,ho⟩
 ·rw[zB _ _ _ _ hj] at e;exact hb j p e
end Go.AM
namespace Go.AM
open Go.RowKit
def zC (p:Prop):Prop:=p
theorem zC.out {p:Prop} (h:zC p):p:=h
section
variable {P : Program} {fl : Nat} {Q : Exit → St → Prop} {st : St}
theorem zF [Vars] {x y:Code} (h:∀K:St→Prop,zC (∀s,ze P fl y Q s→K s)→ze P fl x (zG K Q) st):ze P fl (.seq x y) Q st:=
 ac_seq_k fun K hK=>h K hK
theorem zA [Vars] {id:Nat} {ops:Array Oper} (h:∀K:St→Prop,zC (∀s,Q .normal s→K s)→Jb P ops st.n K 0 ops.toList {st with n:=st.n + ops.size}):ze P fl (.region id ops false) Q st:=
 ac_region (h _ fun _ h=>h)
theorem z6 [Vars] {id:Nat} {ops:Array Oper} (hm:P.follows .mixedOrders=true) (hok:drawOK P ops=true) (h:∀K:St→Prop,zC (∀s,Q .normal s→K s)→Jb P ops st.n K 0 ops.toList {st with n:=st.n + ops.size}):ze P fl (.region id ops true) Q st:=
 ac_draw' hm hok (h _ fun _ h=>h)
theorem zH [Vars] {c:Operand} {x y:Code} (h:∀Kt Kf:Prop,zC (ze P fl x Q st→Kt)→zC (ze P fl y Q st→Kf)→match ev st.s c with | .c (.bool b)=>(b=true→Kt)∧(b=false→Kf)|_=>False) :
  ze P fl (.cond c x y) Q st:=ac_cond_k fun Kt Kf ht hf=>h Kt Kf ht hf
end
@[go_sem] theorem callK_yld [Vars] (P:Program) (m:Nat) (args:List AV) (h:zI) (n:Nat) (K:AV→zI→Nat→Prop):callK P (.yld m) args h n K=yieldK P m args h n K:=rfl
theorem yield_at [Vars] {P:Program} {m:Nat} {args:List AV} {h:zI} {n:Nat} {K:AV→zI→Nat→Prop} {nt:Nat} {s:List (Nat × AV)} {ps:Array Tmp} {asg body:Code} (hm:h m=some (.loop .ready none nt s ps asg body))
  (hl:args.length=ps.size) (hp:ps.all (·< nt)=true) (hc:ze P n asg (asgK P n m nt s ps asg body K) ⟨nt,Zk s ps.toList args,h,n⟩):yieldK P m args h n K:=by
 unfold yieldK;rw[hm];exact⟨⟨hl,hp⟩,hc⟩
def SubX (l:Nat) (H h:zI):Prop:=∀k o,k≠l→H k=some o→h k=some o
theorem SubX.refl (l:Nat) (H:zI):SubX l H H:=fun _ _ _ e=>e
theorem SubX.at {l:Nat} {H h:zI} (s:SubX l H h) (o:Option AObj):SubX l H (h.upd l o):=fun k p hk e=>by rw[zB _ _ _ _ hk];exact s k p hk e
theorem SubX.same {l:Nat} {H h:zI} (s:SubX l H h) {n:Nat} {o:AObj} (hn:H n=some o):SubX l H (h.upd n (some o)):=fun k p hk e=>by
 by_cases hkn:k=n
 ·subst hkn;rw[hn] at e;rw[zD];exact e
 ·rw[zB _ _ _ _ hkn];exact s k p hk e
theorem SubX.back {l:Nat} {H h:zI} (s:SubX l H h) {o:AObj} (hl:H l=some o):Sub H (h.upd l (some o)):=fun k p e=>by
 by_cases hk:k=l
 ·subst hk;rw[hl] at e;rw[zD];exact e
 ·rw[zB _ _ _ _ hk];exact s k p hk e
@[go_sem] theorem roundSlots_cons (s:List (Nat × AV)) (t:Tmp) (ts:List Tmp) (x:AV) (xs:List AV):Zk s (t :: ts) (x :: xs)=Zk ((t,x) :: s) ts xs:=rfl
@[go_sem] theorem roundSlots_nil (s:List (Nat × AV)) (xs:List AV):Zk s [] xs=s:=by cases xs <;> rfl
@[go_sem] theorem max_ite (a b:Int):(if a < b then b else a)=max a b:=by split <;> omega
@[go_sem] theorem min_ite (a b:Int):(if b < a then b else a)=min a b:=by split <;> omega
def YieldsA [Vars] (P:Program) (m:Nat) (args:List AV) (I J:zI→Nat→Prop) (h:zI) (n:Nat):Prop:=
 ∀K:AV→zI→Nat→Prop,zC (∀h' n',I h' n'→K (.c (.bool true)) h' n')→zC (∀h' n',J h' n'→K (.c (.bool false)) h' n')→yieldK P m args h n K
section
variable {P : Program} {fl m nt : Nat} {s : List (Nat × AV)} {ps : Array Tmp} {asg body : Code} {K : AV → zI → Nat → Prop} {st : St}
end
def mk3 (g:Bool) (s b:Nat) (z:AV) (n m:Int):Option (Nat × List AV × Nat):=
 if g=true∧0≤n∧n≤m∧m * b≤2 ^ 47∧m≤2 ^ 47 then some (s,Q4 z n.toNat,n.toNat) else none
def mk2 (s b:Option Nat) (z:Option AV) (n m:Int):Option (Nat × List AV × Nat):=
 match s,b,z with
 | some s,some b,some z=>mk3 (decide ((cellsOf z).length=s∧0 < s∧(cellsOf z).all AV.scalar=true)) s b z n m
 | _,_,_=>none
def mk1 (P:Program) (e:Option TypeId) (n m:Int):Option (Nat × List AV × Nat):=
 match e with
 | some e=>mk2 (zo P e) (ZC P e) (zd P e) n m
 | none=>none
@[go_sem] theorem aMake_eq (P:Program) (t:Nat) (n m:Int):aMake P t n m=mk1 P (ZS P t) n m:=by
 unfold aMake mk1
 cases ZS P t with
 | none=>rfl
 | some e=>
  simp only[mk2,mk3]
  cases zo P e <;> cases ZC P e <;> cases zd P e <;> simp only
  congr 1
  simp only[eq_iff_iff,decide_eq_true_eq]
  constructor <;> (rintro⟨_⟩;simp_all)
@[go_sem] theorem mk1_some (P:Program) (e:TypeId) (n m:Int):mk1 P (some e) n m=mk2 (zo P e) (ZC P e) (zd P e) n m:=rfl
@[go_sem] theorem mk2_some (s b:Nat) (z:AV) (n m:Int):mk2 (some s) (some b) (some z) n m=mk3 (decide ((cellsOf z).length=s∧0 < s∧(cellsOf z).all AV.scalar=true)) s b z n m:=rfl
theorem ZJ (s b:Nat) (z:AV) (n m:Int) (h:0≤n∧n≤m∧m * b≤140737488355328∧m≤140737488355328):mk3 true s b z n m=some (s,Q4 z n.toNat,n.toNat):=by
 unfold mk3;rw[if_pos];exact⟨rfl,h⟩
theorem zV {α:Type} (x:α):∀n,(List.replicate n [x]).flatten=List.replicate n x
 | 0=>rfl
 | n + 1=>by simp[List.replicate_succ,zV x n]
theorem ZK {c:Prop} [Decidable c] (r:Option (AV × zI)) (n:Nat) (K:AV→zI→Nat→Prop) (h:c):jq (if c then r else none) n K=jq r n K:=by rw[if_pos h]
theorem JT [Vars] {b:Bool} {P:Program} {nm:Nat} {o:Op} {s:List (Nat × AV)} {h:zI} {n:Nat} {K:AV→zI→Nat→Prop} (h1:b=true→wantK (some true) P nm o s h n K) (h2:b=false→wantK (some false) P nm o s h n K):wantK (some b) P nm o s h n K:=by
 cases b
 ·exact h2 rfl
 ·exact h1 rfl
theorem zO {a b:Int} (h:a < b):(a < b)=True:=eq_true h
theorem zT {a b:Int} (h:b≤a):(a < b)=False:=eq_false (by omega)
theorem zP {a b:Int} (h:a≤b):(a≤b)=True:=eq_true h
theorem zg {a b:Int} (h:b < a):(a≤b)=False:=eq_false (by omega)
theorem zR {p:Prop} (h:p:=by (refine zb ?_;try dsimp only[zG,zN];refine⟨by simp,_,(by first | rfl|(simp (disch:=omega) [go_sem,zB] <;> rfl)),?_⟩;refine zY ⟨fun k hk=>(by first | rfl|(repeat rw[zB _ _ _ _ (by omega)])),(by simp[go_sem,below]),(by simp[go_sem] <;> omega),by simp,by simp⟩)):p:=h
end Go.AM
