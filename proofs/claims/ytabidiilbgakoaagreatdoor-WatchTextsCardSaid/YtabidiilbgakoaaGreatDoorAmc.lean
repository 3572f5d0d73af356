/- The abstract machine: code, loops, ranges over functions, what a return gives back. Conditions: as each theorem says. -/
import Derived.RangeFuncNested
import Derived.Test.YtabidiilbgakoaaGreatDoorAmb
namespace Go.AM
open Go.RowKit
section
variable {P : Program} {fl : Nat} {Q : Exit → St → Prop} {st : St}
theorem ac_mono [Vars] {c:Code} {Q':Exit→St→Prop} (h:ze P fl c Q st) (hq:∀e st,Q e st→Q' e st):ze P fl c Q' st:=
 fun r w0 G a w hr S hf=>wpIn_mono (h r w0 G a w hr S hf) fun _ _ _ ⟨G',st',e1,e2,e3,e4⟩=>⟨G',st',e1,e2,e3,hq _ _ e4⟩
def zG (K:St→Prop) (Q:Exit→St→Prop):Exit→St→Prop
 | .normal,st=>K st
 | e,st=>Q e st
theorem ac_seq [Vars] {x y:Code} (h:ze P fl x (zG (fun s=>ze P fl y Q s) Q) st):ze P fl (.seq x y) Q st:=by
 intro r w0 G a w hr S hf
 refine wpIn_seq (wpIn_mono (h r w0 G a w hr S hf) ?_)
 rintro e a' w' ⟨G',st',e1,e2,e3,e4⟩
 cases e with
 | normal=>
  refine wpIn_mono (e4 r w0 G' a' w' (fun l hl=>e1.lps _ (hr l hl)) e3 e2) ?_
  rintro e a2 w2 ⟨G2,st2,f1,f2,f3,f4⟩
  exact⟨G2,st2,e1.trans f1,f2,f3,f4⟩
 | _=>exact⟨G',st',e1,e2,e3,e4⟩
theorem ac_seq_k [Vars] {x y:Code} (h:∀K:St→Prop,(∀s,ze P fl y Q s→K s)→ze P fl x (zG K Q) st):ze P fl (.seq x y) Q st:=
 ac_seq (h _ fun _ h=>h)
theorem zL [Vars] (h:Q .normal st):ze P fl .skip Q st:=fun _ _ G _ _ _ S hf=>wpIn_skip ⟨G,st,Ext.refl _ _,hf,S,h⟩
theorem ac_label [Vars] {l:Nat} (h:Q .normal st):ze P fl (.label l) Q st:=fun _ _ G _ _ _ S hf=>wpIn_label ⟨G,st,Ext.refl _ _,hf,S,h⟩
theorem zk [Vars] {id:Nat} (h:Q (.exit id) st):ze P fl (.exit id) Q st:=fun _ _ G _ _ _ S hf=>wpIn_exit ⟨G,st,Ext.refl _ _,hf,S,h⟩
theorem zb [Vars] (h:Q .ret st):ze P fl .ret Q st:=fun _ _ G _ _ _ S hf=>wpIn_ret ⟨G,st,Ext.refl _ _,hf,S,h⟩
theorem ac_cond [Vars] {c:Operand} {x y:Code} {b:Bool} (hc:ev st.s c=.c (.bool b)) (ht:b=true→ze P fl x Q st) (hff:b=false→ze P fl y Q st):ze P fl (.cond c x y) Q st:=by
 intro r w0 G a w hr S hf
 have:=Qe S.inv.oth.vars S.slots c
 rw[hc] at this
 simp only[Rv] at this
 exact wpIn_cond_split this.1 (fun h=>ht h r w0 G a w hr S hf) (fun h=>hff h r w0 G a w hr S hf)
def zN (id:Nat) (Q:Exit→St→Prop):Exit→St→Prop
 | .exit id',st=>if id'=id then Q .normal st else Q (.exit id') st
 | e,st=>Q e st
theorem zJ [Vars] {id:Nat} {c:Code} (h:ze P fl c (zN id Q) st):ze P fl (.block id c) Q st:=by
 intro r w0 G a w hr S hf
 refine wpIn_block (wpIn_mono (h r w0 G a w hr S hf) ?_)
 rintro e a' w' ⟨G',st',e1,e2,e3,e4⟩
 cases e with
 | exit id'=>
  simp only[zN] at e4
  simp only[Exit.inBlock]
  split
  ·rename_i hid;rw[if_pos hid] at e4;exact⟨G',st',e1,e2,e3,e4⟩
  ·rename_i hid;rw[if_neg hid] at e4;exact⟨G',st',e1,e2,e3,e4⟩
 | _=>exact⟨G',st',e1,e2,e3,e4⟩
theorem least {p:Nat→Prop} (h:∃n,p n):∃n,p n∧∀m,p m→n≤m:=by
 obtain⟨n,hn⟩:=h
 induction n using Nat.strongRecOn with
 | _ n ih=>
  by_cases hx:∃m,p m∧m < n
  ·obtain⟨m,hm,hlt⟩:=hx;exact ih m hlt hm
  ·exact⟨n,hn,fun m hm=>by
    rcases Nat.lt_or_ge m n with hlt | hge
    ·exact absurd ⟨m,hm,hlt⟩ hx
    ·exact hge⟩
theorem ac_loop [Vars] {c:Code} (I:St→Prop) (μ:St→Nat) (h0:I st)
  (round:∀s,I s→ze P fl c (zG (fun s'=>I s'∧μ s' < μ s) Q) s):ze P fl (.loop c) Q st:=by
 intro r w0 G a w hr S hf
 let J:Act→World→Nat→Prop:=fun a' w' k=>∃G' s,Ext fl G G'∧fl≤s.n∧Sim w0 G' s a' w'∧I s∧μ s=k
 let M:Act→World→Nat:=fun a' w'=>open Classical in if h:∃k,J a' w' k then Classical.choose (least h) else 0
 have hM:∀a' w',(∃k,J a' w' k)→J a' w' (M a' w')∧∀m,J a' w' m→M a' w'≤m:=fun a' w' h=>by
  simp only[M,dif_pos h];exact Classical.choose_spec (least h)
 refine wpIn_loop (fun a' w'=>∃k,J a' w' k) M ⟨_,G,st,Ext.refl _ _,hf,S,h0,rfl⟩ ?_
 intro a' w' hk
 obtain⟨⟨G',s,e1,e2,e3,e4,e5⟩,hmin⟩:=hM a' w' hk
 refine wpIn_mono (round s e4 r w0 G' a' w' (fun l hl=>e1.lps _ (hr l hl)) e3 e2) ?_
 rintro e a2 w2 ⟨G2,s2,f1,f2,f3,f4⟩
 cases e with
 | normal=>
  have hj:J a2 w2 (μ s2):=⟨G2,s2,e1.trans f1,f2,f3,f4.1,rfl⟩
  refine⟨⟨_,hj⟩,?_⟩
  have:=(hM a2 w2 ⟨_,hj⟩).2 _ hj
  rw[←e5]
  exact Nat.lt_of_le_of_lt this f4.2
 | _=>exact⟨G2,s2,e1.trans f1,f2,f3,f4⟩
theorem ops_ok [Vars] {r:Option Nat} {w0:World} {G0:Gh} {base:Nat} (hfl:fl≤base) {ops:Array Oper} {K:St→Prop} {Q':Exit→Act→World→Prop}
  (hK:∀G st a w,RSim w0 G0 fl base [] G st a w→K st→Q' .normal a w):∀(l:List Oper) (i:Nat) (G:Gh) (st:St) (a:Act) (w:World),
  RSim w0 G0 fl base (List.range' i l.length) G st a w→Jb P ops base K i l st→wpListIn (FR r) 0 P ops Q' l a w
 | [],i,G,st,a,w,S,h=>wpListIn_nil (hK G st a w (S.sub (by simp)) h)
 | o :: rs,i,G,st,a,w,S,h=>by
  refine wpListIn_step fun K' hK'=>?_
  simp only[List.length_cons,List.range'_succ] at S
  refine op_ok S hfl (by simp[List.mem_range'];omega) h (next:=K') ?_ r
  intro G' st' a' w' S' h'
  exact hK' a' w' (ops_ok hfl hK rs (i + 1) G' st' a' w' S' h')
theorem ZD [Vars] {w0:World} {G:Gh} {a:Act} {w:World} (S:Sim w0 G st a w) (hf:fl≤st.n) (k:Nat) (rem:List Nat) (hr:∀j ∈ rem,j < k):RSim w0 G fl st.n rem G {st with n:=st.n + k} a w:=
 ⟨⟨S.inv,S.size,S.defers,S.slots,fun j hj=>S.fresh j (Nat.le_trans (Nat.le_add_right _ _) hj)⟩,Ext.refl _ _,Nat.le_trans hf (Nat.le_add_right _ _),fun j hj=>⟨S.fresh _ (Nat.le_add_right _ _),Nat.add_lt_add_left (hr j hj) _⟩,rfl⟩
theorem ac_region [Vars] {id:Nat} {ops:Array Oper} (h:Jb P ops st.n (Q .normal) 0 ops.toList {st with n:=st.n + ops.size}):ze P fl (.region id ops false) Q st:=by
 intro r w0 G a w hr S hf
 exact wpIn_region_list (ops_ok (base:=st.n) hf (fun G' s a' w' S' hq=>⟨G',s,S'.ext,S'.lim,S'.sim,hq⟩) ops.toList 0 G _ a w
  (ZD S hf ops.size _ (fun j hj=>by simp only[List.mem_range',Array.length_toList] at hj;obtain⟨k,hk,rfl⟩:=hj;omega)) h)
def aRes (P:Program) (s:List (Nat × AV)) (h:zI):ResultVar→Option AV
 | .tmp t=>some (get s t)
 | .cell t ty=>match lay P ty,get s t with
  | some sg,.ptr n off=>match h n with
   | some (.cells l)=>jB sg (l.drop off)
   | _=>none
  | _,_=>none
def j5 (P:Program) (s:List (Nat × AV)) (h:zI):List ResultVar→Option (List AV)
 | []=>some []
 | r :: rs=>match aRes P s h r,j5 P s h rs with
  | some x,some xs=>some (x :: xs)
  | _,_=>none
def zr:List AV→AV
 | [x]=>x
 | xs=>.tup xs
theorem res_ok [Vars] {w0:World} {G:Gh} {a:Act} {w:World} (S:Sim w0 G st a w) {fn:Func} {xs:List AV} (hx:j5 P st.s st.h fn.results.toList=some xs):∃v,(results fn a.tmps).run P w=.ok v w∧Rv G (zr xs) v:=by
 have key:∀(rs:List ResultVar) (xs:List AV),j5 P st.s st.h rs=some xs→∃vs,(rs.mapM fun | .tmp t=>pure (a.tmps.getD t undef)|.cell x t=>do loadVar t (←asAddr (a.tmps.getD x undef)):Sem (List Value)).run P w=.ok vs w∧RvL G xs vs:=by
  intro rs
  induction rs with
  | nil=>intro xs e;simp only[j5,Option.some.injEq] at e;subst e;exact⟨[],by simp,by simp[RvL]⟩
  | cons r rs ih=>
   intro xs e
   simp only[j5] at e
   split at e
   ·rename_i x ys h1 h2
    cases e
    obtain⟨vs,h3,h4⟩:=ih _ h2
    cases r with
    | tmp t=>
     simp only[aRes,Option.some.injEq] at h1
     subst h1
     refine⟨_ :: vs,?_,by simp only[RvL];exact⟨_,_,rfl,S.slots t,h4⟩⟩
     rw[List.mapM_cons]
     simp only[Sem.run_bind,Sem.run_pure,Result.andThen_ok,h3]
    | cell t ty=>
     simp only[aRes] at h1
     split at h1
     ·rename_i sg n off hl hg
      split at h1
      ·rename_i l hn
       have hv:=S.slots t
       rw[hg] at hv
       obtain⟨cv,h5,h6⟩:=QZ (P:=P) S.inv hl hv hn h1
       refine⟨cv :: vs,?_,by simp only[RvL];exact⟨_,_,rfl,h6,h4⟩⟩
       simp only[Rv] at hv
       obtain⟨b,lo,tt,hr,hp⟩:=hv
       rw[hp] at h5
       simp only[Instr.loadAt,Instr.sureAddr,Sem.run_bind,Sem.run_pure,Result.andThen_ok] at h5
       have hasA:asAddr (a.tmps.getD t undef)=pure ⟨b,lo + off,none⟩:=by rw[hp];rfl
       rw[List.mapM_cons]
       simp only[hasA,Sem.run_bind,Sem.run_pure,Result.andThen_ok,h5,h3]
      ·cases h1
     ·cases h1
   ·cases e
 obtain⟨vs,h1,h2⟩:=key _ _ hx
 have hm:(fn.results.mapM fun | .tmp t=>pure (a.tmps.getD t undef)|.cell x t=>do loadVar t (←asAddr (a.tmps.getD x undef)):Sem (Array Value)).run P w=.ok vs.toArray w:=by
  rw[Array.mapM_eq_mapM_toList]
  simp only[Sem.run_map]
  rw[h1]
  rfl
 have hlen:=h2.length
 have e0:(results fn a.tmps).run P w=((fn.results.mapM fun | .tmp t=>pure (a.tmps.getD t undef)|.cell x t=>do loadVar t (←asAddr (a.tmps.getD x undef)):Sem (Array Value)) >>= fun vs=>(pure (if h:vs.size=1 then vs[0] else .tuple vs):Sem Value)).run P w:=rfl
 rw[e0,Sem.run_bind,hm]
 simp only[Result.andThen_ok,Sem.run_pure]
 cases xs with
 | nil=>
  have:vs=[]:=List.length_eq_zero_iff.1 (by simpa using hlen)
  subst this
  exact⟨_,rfl,by simp only[zr,Rv];exact⟨#[],by simp,by simp[RvL]⟩⟩
 | cons x r=>
  cases r with
  | nil=>
   simp only[RvL] at h2
   obtain⟨v,vr,rfl,h3,rfl⟩:=h2
   exact⟨_,rfl,by simpa [zr] using h3⟩
  | cons y r=>
   refine⟨_,rfl,?_⟩
   have hne:¬vs.toArray.size=1:=by simp[hlen]
   rw[dif_neg hne]
   simp only[zr,Rv]
   exact⟨_,rfl,h2⟩
def zu:Nat→List AV→List (Nat × AV)
 | _,[]=>[]
 | i,x :: r=>(i,x) :: zu (i + 1) r
theorem jK {G:Gh}:∀(xs:List AV) (vs:List Value) (i:Nat) (_:RvL G xs vs) (t:Nat),Rv G (get (zu i xs) t) (if i≤t then vs.getD (t - i) undef else undef)
 | [],vs,i,h,t=>by simp[zu,get,Rv]
 | x :: r,vs,i,h,t=>by
  simp only[RvL] at h
  obtain⟨v,vr,rfl,h1,h2⟩:=h
  simp only[zu,get]
  by_cases ht:t=i
  ·subst ht;simpa using h1
  ·rw[if_neg ht]
   have:=jK r vr (i + 1) h2 t
   by_cases hlt:i + 1≤t
   ·rw[if_pos hlt] at this
    rw[if_pos (by omega)]
    rw[show t - i=(t - (i + 1)) + 1 by omega]
    simpa using this
   ·have hnot:¬i≤t:=by omega
    rw[if_neg hnot]
    rw[if_neg hlt] at this;exact this
def RSt [Vars] (fl:Nat) (x:AV) (h:zI) (n:Nat) (x':AV) (h':zI) (n':Nat):Prop:=
 ∀w0 G w v,Inv w0 G h w→Zs n G→Rv G x v→fl≤n→∃G',(Ext fl G G'∧G'.own=G.own)∧Inv w0 G' h' w∧Zs n' G'∧Rv G' x' v∧fl≤n'
def Zg [Vars] (fl:Nat) (K:AV→zI→Nat→Prop) (x:AV) (h:zI) (n:Nat):Prop:=∃x' h' n',RSt fl x h n x' h' n'∧K x' h' n'
theorem za [Vars] {f:FuncId} {fn:Func} {c:Code} {args:List AV} {h:zI} {n:Nat} {K:AV→zI→Nat→Prop} (hf:P.funcs[f]? = some fn) (hb:fn.body=some c) (hgo:JZ P f=true) (hlen:args.length≤fn.ntmps)
  (hc:ze P n c (fun e st=>(e=.normal∨e=.ret)∧∃xs,j5 P st.s st.h fn.results.toList=some xs∧Zg n K (zr xs) st.h st.n) {nt:=fn.ntmps,s:=zu 0 args,h,n}):zQ P f args h n K:=by
 refine⟨hgo,fun w0 G w vs I hfr hr=>?_⟩
 have hl:=hr.length
 obtain⟨Gc,hGc⟩:∃Gc:Gh,Gc = {G with own:=[],base:=(G.own ++ G.base.1,[],G.base.2.2)}:=⟨_,rfl⟩
 have r1:Gc.reg=G.reg:=by rw[hGc]
 have i1:Gc.imm=G.imm:=by rw[hGc]
 have hv1:VLe G Gc:=⟨fun k r e=>by rw[r1];exact e,fun a v e=>by rw[i1];exact e⟩
 have Ic:Inv w0 Gc h w:=I.reoth r1 i1 (by
  rw[hGc]
  refine⟨by simp,fun k hk=>?_,by simpa using I.oth.nd,I.oth.lps,I.oth.old,I.oth.vars,I.oth.tabs⟩
  rcases List.mem_append.1 hk with h' | h'
  ·exact (I.oth.own k h').1
  ·exact I.oth.base k h')
 have hrc:RvL Gc args vs:=hr.mono hv1
 have hfc:Zs n Gc:=fun k hk=>by rw[r1];exact hfr k hk
 refine callsIn_wide.1 (callsIn_of_wp_marks (F:=FR none) (n:=0) hf hb trivial (wpIn_mono (hc none w0 Gc _ w (fun l hl=>by cases hl) ⟨Ic,by simp;omega,by rw[hGc];rfl,fun t=>?_,hfc⟩ (Nat.le_refl _)) ?_))
 ·have:=jK args vs 0 hrc t
  simp only[Nat.zero_le,if_true,Nat.sub_zero] at this
  have e:(vs.toArray ++ Array.replicate (fn.ntmps - vs.toArray.size) undef).getD t undef=vs.getD t undef:=by
   simp only[Array.getD_eq_getD_getElem?,List.getD_eq_getElem?_getD]
   rcases Nat.lt_or_ge t vs.length with ht | ht
   ·rw[Array.getElem?_append_left (by simpa using ht)];simp
   ·rw[Array.getElem?_append_right (by simpa using ht),List.getElem?_eq_none ht]
    simp only[Array.getElem?_replicate]
    split <;> rfl
  rw[e];exact this
 ·rintro e a' w' ⟨G',st',e1,e2,e3,he,xs,e4,x',h',n',e5,e6⟩
  have post:LeavesInM (FR none) 0 P fn a'.tmps (qU w0 n G K) a'.defers .returning w':=by
   rw[e3.defers]
   obtain⟨l0,hl0⟩:=e1.own
   have hbase:G'.base=(G.own ++ G.base.1,[],G.base.2.2):=by rw[e1.base,hGc]
   have hc0:Gc.own=[]:=by rw[hGc]
   rw[hc0,List.append_nil] at hl0
   have key:∀(l:List Nat) (G1:Gh) (w1:World),G1.reg=G'.reg→G1.imm=G'.imm→G1.lps=G'.lps→G1.own=l→G1.base=(G.own ++ G.base.1,[],G.base.2.2)→Sim w0 G1 st' {tmps:=a'.tmps,defers:=l.map mark} w1→
     LeavesInM (FR none) 0 P fn a'.tmps (qU w0 n G K) (l.map mark) .returning w1:=by
    intro l
    induction l with
    | nil=>
     intro G1 w1 q1 q2 q3 q4 q5 S1
     obtain⟨v,h1,h2⟩:=res_ok S1 e4
     obtain⟨G2,⟨g1,g1'⟩,g2,g3,g4,g5⟩:=e5 w0 G1 w1 v S1.inv S1.fresh h2 e2
     have o2:G2.own=[]:=by rw[g1',q4]
     have b2:G2.base=(G.own ++ G.base.1,[],G.base.2.2):=by rw[g1.base,q5]
     refine⟨v,h1,{G2 with own:=G.own,base:=G.base},v,x',h',n',rfl,⟨⟨fun k hk=>?_,fun a v e=>g1.imm _ _ (by rw[q2];exact e1.imm a v (by rw[i1];exact e)),⟨[],rfl⟩,rfl,fun k hk=>g1.lps k (by rw[q3];exact e1.lps k (by rw[hGc];exact hk))⟩,rfl⟩,
      g2.reoth rfl rfl ⟨fun k hk=>⟨g2.oth.base k (by rw[b2];exact List.mem_append.2 (.inl hk)),(I.oth.own k hk).2⟩,fun k hk=>g2.oth.base k (by rw[b2];exact List.mem_append.2 (.inr hk)),I.oth.nd,g2.oth.lps,fun a v e hl=>by have:=g2.oth.old a v e hl;rw[b2] at this;exact this,g2.oth.vars,g2.oth.tabs⟩,g3,g5,Rv.mono (show VLe G2 {G2 with own:=G.own,base:=G.base} from ⟨fun _ _ e=>e,fun _ _ e=>e⟩) _ _ g4,e6⟩
     show G2.reg k=G.reg k
     rw[g1.reg k hk,q1,e1.reg k hk,r1]
    | cons b l ih=>
     intro G1 w1 q1 q2 q3 q4 q5 S1
     refine⟨by simp,.inl ⟨b,_,rfl,run_takeDeferred (S1.inv.oth.own b (by rw[q4];simp)).1,?_⟩⟩
     exact ih {G1 with own:=l} _ q1 q2 q3 rfl q5 ⟨S1.inv.shut q4,S1.size,by simp[q5],fun t=>Rv.mono (show VLe G1 {G1 with own:=l} from ⟨fun _ _ e=>e,fun _ _ e=>e⟩) _ _ (S1.slots t),S1.fresh⟩
   rw[hl0,hbase,List.append_nil]
   refine key l0 G' w' rfl rfl rfl hl0 hbase ?_
   have:=e3
   obtain⟨s1,s2,s3,s4,s5⟩:=e3
   exact⟨s1,s2,by rw[hl0,hbase];simp,s4,s5⟩
  rcases he with rfl | rfl <;> exact post
def rangeK (m:Nat) (st:St) (Q:Exit→St→Prop) (_:AV) (h:zI) (n:Nat):Prop:=
 match h m with
 | some (.loop stt pend _ _ _ _ _)=>(stt≠.busy)∧match pend with
  | none=>Q .normal {st with h:=h.upd m none,n:=n}
  | some .ret=>Q .ret {st with h:=h.upd m none,n:=n}
  | some (.exit id)=>Q (.exit id) {st with h:=h.upd m none,n:=n}
  | _=>False
 | _=>False
theorem ac_rangeFunc [Vars] {g:Operand} {ps:Array Tmp} {asg body:Code} {f:FuncId} {first cap:List AV} (hg:ev st.s g=.func (.func f) first cap)
  (h:zQ P f (first ++ [.yld st.n] ++ cap) (st.h.upd st.n (some (.loop .ready none st.nt st.s ps asg body))) (st.n + 1) (rangeK st.n st Q)) :
  ze P fl (.rangeFunc g ps asg body) Q st:=by
 intro r w0 G a w hr S hf
 refine wpIn_rangeFunc fun fn _=>?_
 obtain⟨hgo,hc⟩:=h
 have hgv:=Qe S.inv.oth.vars S.slots g
 rw[hg] at hgv
 simp only[Rv] at hgv
 obtain⟨f',c',hge,hfr,hcr⟩:=hgv
 have hn:=S.fresh st.n (Nat.le_refl _)
 obtain⟨l,mk,w1,D,G1,own',he,hG1,hmk,I1,hlw⟩:∃(l:Nat) (mk:List Deferred) (w1:World) (D:Nat) (G1:Gh) (own':List Nat),(Instr.enterLoop fn a.tmps ps asg body r).run P w=.ok (l,mk) w1∧
   G1 = {G with own:=own' ++ G.own,reg:=(G.set st.n (l,0,1)).reg}∧mk=own'.map mark∧
   Inv w0 G1 (st.h.upd st.n (some (.loop .ready none st.nt st.s ps asg body))) w1∧w1.heap[l]? = some (.loop {state:=.ready,pending:=none,fn,tmps:=a.tmps,params:=ps,assign:=asg,body,defers:=D}):=by
  cases r with
  | none=>
   have I0:Inv w0 {G with own:=w.heap.size :: G.own} st.h (w.alloc (.deferred (some []))):=by
    have I':=S.inv
    have hold:∀k,k < w.heap.size→(w.alloc (.deferred (some []))).heap[k]? = w.heap[k]?:=fun k hk=>Below.heap_alloc w _ k hk
    have hlt:∀k (o:Obj),w.heap[k]? = some o→k < w.heap.size:=fun k o e=>(Array.getElem?_eq_some_iff.1 e).1
    have hv:VLe G {G with own:=w.heap.size :: G.own}:=⟨fun _ _ e=>e,fun _ _ e=>e⟩
    refine⟨I'.below.alloc I'.below.size _,fun a v e=>by rw[cell?_congr (hold _ (I'.imm_lt e))];exact I'.imm a v e,fun n o en=>(I'.obj n o en).keep hv (by simp) (fun r hr a ha=>?_) (fun r hr _=>hold _ ((I'.obj n o en).lt hr)) (fun r p' hr hp=>by rw[Zr (hold _ ((I'.obj n o en).lt hr))];exact hp),I'.disj,I'.sep,?_⟩
    ·have:=hold a.block (by rw[ha.1];exact (I'.obj n o en).lt hr)
     exact⟨cell?_congr this,frozen?_congr this⟩
    ·have lt:∀b ∈ G.own ++ G.base.1,b < w.heap.size:=fun b hb=>by
      rcases List.mem_append.1 hb with h' | h'
      ·exact hlt _ _ (I'.oth.own b h').1
      ·exact hlt _ _ (I'.oth.base b h')
     refine⟨fun b hb=>?_,fun b hb=>by rw[hold b (lt b (List.mem_append.2 (.inr hb)))];exact I'.oth.base b hb,?_,fun b hb=>?_,I'.oth.old,I'.oth.vars,I'.oth.tabs⟩
     ·rcases List.mem_cons.1 hb with rfl | hb
      ·exact⟨World.alloc_heap_new w _,I'.below.size⟩
      ·exact⟨by rw[hold b (lt b (List.mem_append.2 (.inl hb)))];exact (I'.oth.own b hb).1,(I'.oth.own b hb).2⟩
     ·rw[List.cons_append,List.nodup_cons]
      exact⟨fun hm=>by have:=lt _ hm;omega,I'.oth.nd⟩
     ·obtain⟨L,e⟩:=I'.oth.lps b hb
      exact⟨L,by rw[hold b (hlt _ _ e)];exact e⟩
   refine⟨_,_,_,w.heap.size,_,[w.heap.size],run_enterLoop_outer _ _ _ _ _,rfl,rfl,?_,?_⟩
   ·have hs:(w.alloc (.deferred (some []))).heap.size=w.heap.size + 1:=by simp
    have:=I0.alloc (nm:=st.n) hn (.inr trivial) (.loop {state:=.ready,pending:=none,fn,tmps:=a.tmps,params:=ps,assign:=asg,body,defers:=w.heap.size}) (.loop .ready none st.nt st.s ps asg body) 1
     ⟨w.heap.size + 1,fn,a.tmps,w.heap.size,by rw[hs];exact Gh.set_same,by have:=S.inv.below.size;omega,by have:=World.alloc_heap_new (w.alloc (.deferred (some []))) (.loop {state:=.ready,pending:=none,fn,tmps:=a.tmps,params:=ps,assign:=asg,body,defers:=w.heap.size});rwa [hs] at this,S.size,fun t=>Rv.mono (show VLe G (Gh.set {G with own:=w.heap.size :: G.own} st.n ((w.alloc (Obj.deferred (some []))).heap.size,0,1)) from ⟨fun k q e=>(Gh.le_set (G:=G) hn).reg k q e,fun _ _ e=>e⟩) _ _ (S.slots t)⟩
    rw[hs] at this
    exact this
   ·have:=World.alloc_heap_new (w.alloc (.deferred (some []))) (.loop {state:=.ready,pending:=none,fn,tmps:=a.tmps,params:=ps,assign:=asg,body,defers:=w.heap.size})
    simpa using this
  | some l0=>
   obtain⟨r0,hr0⟩:=S.inv.oth.lps l0 (hr l0 rfl)
   refine⟨_,_,_,r0.defers,_,[],run_enterLoop_inner hr0 _ _ _ _ _,rfl,rfl,?_,World.alloc_heap_new w _⟩
   exact S.inv.alloc (nm:=st.n) hn (.inr trivial) _ (.loop .ready none st.nt st.s ps asg body) 1 ⟨w.heap.size,fn,a.tmps,r0.defers,Gh.set_same,S.inv.below.size,World.alloc_heap_new w _,S.size,fun t=>(S.slots t).mono (Gh.le_set (G:=G) hn).v⟩
 have hv1:VLe G G1:=by rw[hG1];exact⟨fun k q e=>(Gh.le_set (G:=G) hn).reg k q e,fun _ _ e=>e⟩
 have hreg1:G1.reg st.n=some (l,0,1):=by rw[hG1];exact Gh.set_same
 have hreg1':∀k,k≠st.n→G1.reg k=G.reg k:=fun k hk=>by rw[hG1];exact Gh.set_ne hk
 have hf1:Zs (st.n + 1) G1:=fun k hk=>by rw[hreg1' k (by omega)];exact S.fresh k (by omega)
 have hargs:RvL G1 (first ++ [.yld st.n] ++ cap) (f'.toList ++ [.func (.yield l) #[] #[]] ++ c'.toList):=
  RvL.append (RvL.append (hfr.mono hv1) (by simp only[RvL];exact⟨_,_,rfl,by simp only[Rv];exact⟨l,0,1,hreg1,rfl⟩,rfl⟩)) (hcr.mono hv1)
 have hcall:=hc w0 G1 w1 _ I1 hf1 hargs
 refine⟨l,mk,w1,{target:=.fn (.func f) c',args:=f' ++ #[.func (.yield l) #[] #[]]},w1,f,f' ++ #[.func (.yield l) #[] #[]] ++ c',w1,he,?_,fun _ _=>trivial,?_,qZ r,calls_FR ?_⟩
 ·have hk:a.eval (.const (Value.func (.yield l) #[] #[]))=Value.func (.yield l) #[] #[]:=rfl
  simp[resolve,hge,hk,Deferred.ofValue]
 ·simp only[invoke,jp hgo]
 ·have harr:(f'.toList ++ [Value.func (.yield l) #[] #[]] ++ c'.toList).toArray=f' ++ #[Value.func (.yield l) #[] #[]] ++ c':=by apply Array.ext';simp
  rw[harr] at hcall
  refine hcall.mono ?_
  rintro e w' ⟨G',rv,x,h',n',rfl,⟨e2,eo⟩,e3,e4,e5,e6,e7⟩
  unfold rangeK at e7
  split at e7
  ·rename_i stt pend nt s ps' asg' body' hm
   obtain⟨hbusy,e7⟩:=e7
   have hreg2:G'.reg st.n=some (l,0,1):=by rw[e2.reg _ (Nat.lt_succ_self _)];exact hreg1
   obtain⟨b',fn',tmps',D',g1,g2,g3,g4,g5⟩:=e3.obj _ _ hm
   rw[hreg2] at g1;cases g1
   have hend:=run_endLoop (P:=P) g3 hbusy
   have I2:=(e3.setLoop hm hreg2 g3 .exhausted pend).drop st.n
   have hup:(h'.upd st.n (some (.loop .exhausted pend nt s ps' asg' body'))).upd st.n none=h'.upd st.n none:=by
    funext k;by_cases hk:k=st.n <;> simp[zI.upd,hk]
   rw[hup] at I2
   have hE:Ext fl G G':=by
    refine⟨fun k hk=>?_,fun a v e=>e2.imm a v (hv1.imm a v e),⟨own',by rw[eo,hG1]⟩,by rw[e2.base,hG1],fun b hb=>e2.lps b (by rw[hG1];exact hb)⟩
    rw[e2.reg k (by omega),hreg1' k (by omega)]
   have hS:Sim w0 G' {st with h:=h'.upd st.n none,n:=n'} {tmps:=a.tmps,defers:=mk ++ a.defers} (w'.putObj l (.loop {state:=.exhausted,pending:=pend,fn:=fn',tmps:=tmps',params:=ps',assign:=asg',body:=body',defers:=D'})):=by
    refine⟨I2,S.size,?_,fun t=>((S.slots t).mono hv1).mono (e2.le hf1),e4⟩
    show mk ++ a.defers=_
    rw[eo,e2.base,hG1,hmk,S.defers];simp
   have hfl:fl≤n':=by omega
   refine⟨pend,_,hend,?_⟩
   cases pend with
   | none=>exact⟨G',_,hE,hfl,hS,e7⟩
   | some c=>
    cases c with
    | ret=>exact wpIn_ret ⟨G',_,hE,hfl,hS,e7⟩
    | exit id=>exact wpIn_exit ⟨G',_,hE,hfl,hS,e7⟩
    | _=>exact e7.elim
  ·exact e7.elim
end
end Go.AM
namespace Go.AM
open Go.RowKit
mutual
def below (n:Nat):AV→Prop
 | .ptr m _=>m < n
 | .slc m _ _ _=>m < n
 | .map m=>m < n
 | .chan m=>m < n
 | .yld m=>m < n
 | .fptr cs=>belowL n cs
 | .fslc _ _ _ l=>belowL n l
 | .func _ f c=>belowL n f∧belowL n c
 | .iface _ x=>below n x
 | .agg cs=>belowL n cs
 | .tup cs=>belowL n cs
 | .undef=>True
 | .c _=>True
def belowL (n:Nat):List AV→Prop
 | []=>True
 | x :: r=>below n x∧belowL n r
end
theorem qt {n:Nat}:∀{l:List AV},belowL n l↔∀x ∈ l,below n x
 | []=>by simp[belowL]
 | x :: r=>by simp only[belowL,qt (l:=r),List.mem_cons,forall_eq_or_imp]
mutual
theorem below.mono {n m:Nat} (h:n≤m):∀x:AV,below n x→below m x
 | .ptr k _,hb=>by simp only[below] at hb ⊢;omega
 | .slc k _ _ _,hb=>by simp only[below] at hb ⊢;omega
 | .map k,hb=>by simp only[below] at hb ⊢;omega
 | .chan k,hb=>by simp only[below] at hb ⊢;omega
 | .yld k,hb=>by simp only[below] at hb ⊢;omega
 | .fptr cs,hb=>by simp only[below] at hb ⊢;exact belowL.mono h cs hb
 | .fslc _ _ _ l,hb=>by simp only[below] at hb ⊢;exact belowL.mono h l hb
 | .func _ f c,hb=>by simp only[below] at hb ⊢;exact⟨belowL.mono h f hb.1,belowL.mono h c hb.2⟩
 | .iface _ x,hb=>by simp only[below] at hb ⊢;exact below.mono h x hb
 | .agg cs,hb=>by simp only[below] at hb ⊢;exact belowL.mono h cs hb
 | .tup cs,hb=>by simp only[below] at hb ⊢;exact belowL.mono h cs hb
 | .undef,_=>by simp[below]
 | .c _,_=>by simp[below]
theorem belowL.mono {n m:Nat} (h:n≤m):∀l:List AV,belowL n l→belowL m l
 | [],_=>by simp[belowL]
 | x :: r,hb=>by simp only[belowL] at hb ⊢;exact⟨below.mono h x hb.1,belowL.mono h r hb.2⟩
end
mutual
theorem Rv.restrict {G G':Gh} {n:Nat} (hr:∀k,k < n→G'.reg k=G.reg k) (hi:∀a v,G.imm a=some v→G'.imm a=some v):∀(x:AV) (v:Value),below n x→Rv G x v→Rv G' x v
 | .undef,_,_,_=>by simp[Rv]
 | .c x,v,_,k=>by simpa [Rv] using k
 | .ptr m off,v,hb,k=>by
  simp only[below] at hb
  simp only[Rv] at k ⊢;obtain⟨b,lo,t,h1,h2⟩:=k;exact⟨b,lo,t,by rw[hr m hb];exact h1,h2⟩
 | .fptr cs,v,hb,k=>by
  simp only[below] at hb
  simp only[Rv] at k ⊢;obtain⟨a,vs,h1,h2,h3⟩:=k;exact⟨a,vs,h1,RvL.restrict hr hi cs vs hb h2,fun j v e=>hi _ _ (h3 j v e)⟩
 | .slc m off len s,v,hb,k=>by
  simp only[below] at hb
  simp only[Rv] at k ⊢;obtain⟨b,lo,t,cap,h1,h2⟩:=k;exact⟨b,lo,t,cap,by rw[hr m hb];exact h1,h2⟩
 | .fslc nl full s l,v,hb,k=>by
  simp only[below] at hb
  simp only[Rv] at k ⊢
  obtain⟨a,cap,h1,h2,h3,h4,h5⟩:=k
  exact⟨a,cap,h1,h2,h3,h4,fun e=>let ⟨ad,p,q⟩:=h5 e;⟨ad,p,RvE.restrict hr hi ad s l 0 hb q⟩⟩
 | .map m,v,hb,k=>by
  simp only[below] at hb
  simp only[Rv] at k ⊢;obtain⟨b,lo,t,h1,h2⟩:=k;exact⟨b,lo,t,by rw[hr m hb];exact h1,h2⟩
 | .func fn f c,v,hb,k=>by
  simp only[below] at hb
  simp only[Rv] at k ⊢;obtain⟨f',c',h1,h2,h3⟩:=k;exact⟨f',c',h1,RvL.restrict hr hi f _ hb.1 h2,RvL.restrict hr hi c _ hb.2 h3⟩
 | .iface t x,v,hb,k=>by
  simp only[below] at hb
  simp only[Rv] at k ⊢;obtain⟨y,h1,h2⟩:=k;exact⟨y,h1,Rv.restrict hr hi x y hb h2⟩
 | .agg cs,v,hb,k=>by
  simp only[below] at hb
  simp only[Rv] at k ⊢;obtain⟨vs,h1,h2⟩:=k;exact⟨vs,h1,RvL.restrict hr hi cs _ hb h2⟩
 | .tup cs,v,hb,k=>by
  simp only[below] at hb
  simp only[Rv] at k ⊢;obtain⟨vs,h1,h2⟩:=k;exact⟨vs,h1,RvL.restrict hr hi cs _ hb h2⟩
 | .chan m,v,hb,k=>by
  simp only[below] at hb
  simp only[Rv] at k ⊢;obtain⟨b,lo,t,h1,h2⟩:=k;exact⟨b,lo,t,by rw[hr m hb];exact h1,h2⟩
 | .yld m,v,hb,k=>by
  simp only[below] at hb
  simp only[Rv] at k ⊢;obtain⟨b,lo,t,h1,h2⟩:=k;exact⟨b,lo,t,by rw[hr m hb];exact h1,h2⟩
theorem RvL.restrict {G G':Gh} {n:Nat} (hr:∀k,k < n→G'.reg k=G.reg k) (hi:∀a v,G.imm a=some v→G'.imm a=some v):∀(l:List AV) (vs:List Value),belowL n l→RvL G l vs→RvL G' l vs
 | [],vs,_,k=>by simpa [RvL] using k
 | x :: r,vs,hb,k=>by
  simp only[belowL] at hb
  simp only[RvL] at k ⊢
  obtain⟨v,vr,h1,h2,h3⟩:=k
  exact⟨v,vr,h1,Rv.restrict hr hi x v hb.1 h2,RvL.restrict hr hi r vr hb.2 h3⟩
theorem RvE.restrict {G G':Gh} {n:Nat} (hr:∀k,k < n→G'.reg k=G.reg k) (hi:∀a v,G.imm a=some v→G'.imm a=some v) (a:Addr) (s:Nat):∀(l:List AV) (i:Nat),belowL n l→RvE G a s i l→RvE G' a s i l
 | [],_,_,_=>by simp[RvE]
 | x :: r,i,hb,k=>by
  simp only[belowL] at hb
  simp only[RvE] at k ⊢
  obtain⟨⟨hs,v,h1,h2,h3⟩,h4⟩:=k
  exact⟨⟨hs,v,Rv.restrict hr hi x v hb.1 h1,h2,fun j u e=>hi _ _ (h3 j u e)⟩,RvE.restrict hr hi a s r _ hb.2 h4⟩
end
mutual
theorem Rv.below {G:Gh} {n:Nat} (hf:Zs n G):∀(x:AV) (v:Value),Rv G x v→AM.below n x
 | .undef,_,_=>by simp[AM.below]
 | .c x,v,_=>by simp[AM.below]
 | .ptr m off,v,k=>by
  simp only[AM.below];simp only[Rv] at k;obtain⟨b,lo,t,h1,h2⟩:=k
  rcases Nat.lt_or_ge m n with h | h
  ·exact h
  ·rw[hf m h] at h1;cases h1
 | .fptr cs,v,k=>by
  simp only[AM.below];simp only[Rv] at k;obtain⟨a,vs,h1,h2,h3⟩:=k;exact RvL.below hf cs vs h2
 | .slc m off len s,v,k=>by
  simp only[AM.below];simp only[Rv] at k;obtain⟨b,lo,t,cap,h1,h2⟩:=k
  rcases Nat.lt_or_ge m n with h | h
  ·exact h
  ·rw[hf m h] at h1;cases h1
 | .fslc nl full s l,v,k=>by
  simp only[AM.below];simp only[Rv] at k
  obtain⟨a,cap,h1,h2,h3,h4,h5⟩:=k
  cases nl with
  | true=>
   have:l=[]:=List.length_eq_zero_iff.1 (by have:=(h4 rfl).2;omega)
   subst this;simp[belowL]
  | false=>obtain⟨ad,_,q⟩:=h5 rfl;exact RvE.below hf ad s l 0 q
 | .map m,v,k=>by
  simp only[AM.below];simp only[Rv] at k;obtain⟨b,lo,t,h1,h2⟩:=k
  rcases Nat.lt_or_ge m n with h | h
  ·exact h
  ·rw[hf m h] at h1;cases h1
 | .func fn f c,v,k=>by
  simp only[AM.below];simp only[Rv] at k;obtain⟨f',c',h1,h2,h3⟩:=k;exact⟨RvL.below hf f _ h2,RvL.below hf c _ h3⟩
 | .iface t x,v,k=>by
  simp only[AM.below];simp only[Rv] at k;obtain⟨y,h1,h2⟩:=k;exact Rv.below hf x y h2
 | .agg cs,v,k=>by
  simp only[AM.below];simp only[Rv] at k;obtain⟨vs,h1,h2⟩:=k;exact RvL.below hf cs _ h2
 | .tup cs,v,k=>by
  simp only[AM.below];simp only[Rv] at k;obtain⟨vs,h1,h2⟩:=k;exact RvL.below hf cs _ h2
 | .chan m,v,k=>by
  simp only[AM.below];simp only[Rv] at k;obtain⟨b,lo,t,h1,h2⟩:=k
  rcases Nat.lt_or_ge m n with h | h
  ·exact h
  ·rw[hf m h] at h1;cases h1
 | .yld m,v,k=>by
  simp only[AM.below];simp only[Rv] at k;obtain⟨b,lo,t,h1,h2⟩:=k
  rcases Nat.lt_or_ge m n with h | h
  ·exact h
  ·rw[hf m h] at h1;cases h1
theorem RvL.below {G:Gh} {n:Nat} (hf:Zs n G):∀(l:List AV) (vs:List Value),RvL G l vs→belowL n l
 | [],vs,k=>by simp[belowL]
 | x :: r,vs,k=>by
  simp only[RvL] at k
  obtain⟨v,vr,h1,h2,h3⟩:=k
  simp only[belowL]
  exact⟨Rv.below hf x v h2,RvL.below hf r vr h3⟩
theorem RvE.below {G:Gh} {n:Nat} (hf:Zs n G) (a:Addr) (s:Nat):∀(l:List AV) (i:Nat),RvE G a s i l→belowL n l
 | [],_,_=>by simp[belowL]
 | x :: r,i,k=>by
  simp only[RvE] at k
  obtain⟨⟨hs,v,h1,h2,h3⟩,h4⟩:=k
  simp only[belowL]
  exact⟨Rv.below hf x v h1,RvE.below hf a s r _ h4⟩
end
def QU (n:Nat):AObj→Prop
 | .cells l=>belowL n l
 | .tcells _ _ l=>belowL n l
 | .map _ _ es=>belowL n (es.map (·.2))
 | .chan _ buf _=>belowL n buf
 | .loop _ _ _ s _ _ _=>∀t,below n (get s t)
 | .iter m _ _ _=>m < n
def Gh.cut (G:Gh) (n:Nat):Gh:={G with reg:=fun k=>if k < n then G.reg k else none}
theorem Gh.cut_fresh {G:Gh} {n:Nat}:Zs n (G.cut n):=fun k hk=>by simp[Gh.cut];omega
theorem Gh.cut_ext {G:Gh} {n:Nat}:Ext n G (G.cut n):=⟨fun k hk=>by simp[Gh.cut,hk],fun _ _ e=>e,⟨[],rfl⟩,rfl,fun _ e=>e⟩
theorem ObjOk.cut [Vars] {w0:World} {G:Gh} {w:World} {k n:Nat} {o:AObj} (hk:k < n) (h:ObjOk w0 G w k o) (hb:QU n o):ObjOk w0 (G.cut n) w k o:=by
 have hr:∀j,j < n→(G.cut n).reg j=G.reg j:=Gh.cut_ext.reg
 cases o with
 | cells l=>
  obtain⟨r,vs,h1,h2⟩:=h
  exact⟨r,vs,by rw[hr k hk];exact h1,h2.base,h2.lt,h2.len,h2.sc,h2.rel.restrict hr (fun _ _ e=>e) _ _ hb,h2.val,h2.some,h2.free⟩
 | tcells e tot l=>
  obtain⟨r,vs,h1,h2,h3,h4,h5⟩:=h
  exact⟨r,vs,by rw[hr k hk];exact h1,⟨h2.base,h2.lt,h2.len,h2.sc,h2.rel.restrict hr (fun _ _ e=>e) _ _ hb,h2.val,h2.some,h2.free⟩,h3,h4,h5⟩
 | map clk bs es=>
  obtain⟨b,ents,h1,h2⟩:=h
  exact⟨b,ents,by rw[hr k hk];exact h1,h2.base,h2.blk,h2.keys,h2.vals.restrict hr (fun _ _ e=>e) _ _ hb,h2.born,h2.lt⟩
 | chan cap buf closed=>
  obtain⟨b,vs,s,r,h1,h2,h3,h4⟩:=h
  exact⟨b,vs,s,r,by rw[hr k hk];exact h1,h2,h3,h4.restrict hr (fun _ _ e=>e) _ _ hb⟩
 | loop st pend nt s ps asg body=>
  obtain⟨b,fn,tmps,D,h1,h2,h3,h4,h5⟩:=h
  exact⟨b,fn,tmps,D,by rw[hr k hk];exact h1,h2,h3,h4,fun t=>(h5 t).restrict hr (fun _ _ e=>e) _ _ (hb t)⟩
 | iter m since c0 seen=>
  obtain⟨b,bm,sa,h1,h2,h3,h4,h5⟩:=h
  exact⟨b,bm,sa,by rw[hr k hk];exact h1,h2,by rw[hr m hb];exact h3,h4,h5⟩
theorem Inv.cut [Vars] {w0:World} {G:Gh} {h h':zI} {w:World} (I:Inv w0 G h w) {n:Nat} (hs:∀k o,h' k=some o→h k=some o∧k < n∧QU n o):Inv w0 (G.cut n) h' w:=by
 have I1:=I.sub (fun k o e=>(hs k o e).1)
 exact I1.reg rfl rfl rfl rfl (fun k o e=>Gh.cut_ext.reg k (hs k o e).2.1) (fun k o e ok=>ok.cut (hs k o e).2.1 (hs k o e).2.2)
section
variable {P : Program} {fl : Nat} {K : AV → zI → Nat → Prop} {x : AV} {h : zI} {n : Nat}
theorem zY [Vars] (hk:K x h n):Zg fl K x h n:=⟨x,h,n,fun _ G _ _ I f r hl=>⟨G,⟨Ext.refl _ _,rfl⟩,I,f,r,hl⟩,hk⟩
theorem ret_step [Vars] {x':AV} {h':zI} {n':Nat} (hs:RSt fl x h n x' h' n') (hk:Zg fl K x' h' n'):Zg fl K x h n:=by
 obtain⟨x2,h2,n2,h3,h4⟩:=hk
 refine⟨x2,h2,n2,fun w0 G w v I f r hl=>?_,h4⟩
 obtain⟨G1,⟨e1,eo⟩,e2,e3,e4,e5⟩:=hs w0 G w v I f r hl
 obtain⟨G2,⟨f1,fo⟩,f2,f3,f4,f5⟩:=h3 w0 G1 w v e2 e3 e4 e5
 exact⟨G2,⟨e1.trans f1,fo.trans eo⟩,f2,f3,f4,f5⟩
def fz (m:Nat) (c:List AV) (agg:Bool):AV→AV
 | .slc n off len s=>if n=m∧off + len * s≤c.length∧(agg=false→s=1) then .fslc false false s (JX agg s len (c.drop off)) else .slc n off len s
 | x=>x
def fzT (m:Nat) (c:List AV) (agg:Bool):AV→AV
 | .tup l=>.tup (l.map (fz m c agg))
 | .agg l=>.agg (l.map (fz m c agg))
 | x=>fz m c agg x
theorem fz_ok [Vars] {w0:World} {G:Gh} {h:zI} {w:World} (I:Inv w0 G h w) {m:Nat} {c:List AV} (hm:h m=some (.cells c)) {r:Nat × Nat × Nat} (hr:G.reg m=some r) (agg:Bool) {x:AV} {v:Value} (hv:Rv G x v) :
  Rv (G.freeze w r) (fz m c agg x) v:=by
 have hle:=Gh.le_freeze I hm hr
 cases x with
 | slc n off len s=>
  simp only[fz]
  split
  ·rename_i hc
   obtain⟨rfl,h1,h2⟩:=hc
   exact freeze_slc I hm hr agg h2 h1 hv
  ·exact hv.mono hle.v
 | _=>exact hv.mono hle.v
theorem fzL_ok [Vars] {w0:World} {G:Gh} {h:zI} {w:World} (I:Inv w0 G h w) {m:Nat} {c:List AV} (hm:h m=some (.cells c)) {r:Nat × Nat × Nat} (hr:G.reg m=some r) (agg:Bool):∀{l:List AV} {vs:List Value},RvL G l vs→RvL (G.freeze w r) (l.map (fz m c agg)) vs
 | [],_,hv=>by simpa [RvL] using hv
 | x :: l,_,hv=>by
  simp only[RvL] at hv
  obtain⟨v,vr,rfl,h1,h2⟩:=hv
  simp only[List.map_cons,RvL]
  exact⟨v,vr,rfl,fz_ok I hm hr agg h1,fzL_ok I hm hr agg h2⟩
theorem ret_freeze [Vars] {m:Nat} {c:List AV} (agg:Bool) (hm:h m=some (.cells c)) (hk:Zg fl K (fzT m c agg x) (h.upd m none) n):Zg fl K x h n:=by
 refine ret_step (fun w0 G w v I f hr hl=>?_) hk
 obtain⟨r,hreg⟩:=(I.obj m _ hm).hasReg
 have hle:=Gh.le_freeze I hm hreg
 refine⟨G.freeze w r,⟨⟨fun _ _=>rfl,hle.imm,⟨[],rfl⟩,rfl,fun _ e=>e⟩,rfl⟩,I.freeze hm hreg,f,?_,hl⟩
 cases x with
 | tup l=>simp only[fzT,Rv] at hr ⊢;obtain⟨vs,e,hv⟩:=hr;exact⟨vs,e,fzL_ok I hm hreg agg hv⟩
 | agg l=>simp only[fzT,Rv] at hr ⊢;obtain⟨vs,e,hv⟩:=hr;exact⟨vs,e,fzL_ok I hm hreg agg hv⟩
 | _=>exact fz_ok I hm hreg agg hr
end
def HB (h:zI) (n:Nat):Prop:=∀k o,h k=some o→k < n∧QU n o
theorem Inv.HB [Vars] {w0:World} {G:Gh} {h:zI} {w:World} (I:Inv w0 G h w) {n:Nat} (f:Zs n G):HB h n:=by
 intro k o e
 have ok:=I.obj k o e
 refine⟨?_,?_⟩
 ·obtain⟨r,hr⟩:=ok.hasReg
  rcases Nat.lt_or_ge k n with h' | h'
  ·exact h'
  ·rw[f k h'] at hr;cases hr
 ·cases o with
  | cells l=>obtain⟨r,vs,_,h2⟩:=ok;exact RvL.below f _ _ h2.rel
  | tcells e tot l=>obtain⟨r,vs,_,h2,_⟩:=ok;exact RvL.below f _ _ h2.rel
  | map clk bs es=>obtain⟨b,ents,_,h2⟩:=ok;exact RvL.below f _ _ h2.vals
  | chan cap buf closed=>obtain⟨b,vs,s,r,_,_,_,h4⟩:=ok;exact RvL.below f _ _ h4
  | loop st pend nt s ps asg body=>obtain⟨b,fn,tmps,D,_,_,_,_,h5⟩:=ok;exact fun t=>Rv.below f _ _ (h5 t)
  | iter m since c0 seen=>
   obtain⟨b,bm,sa,_,_,h3,_⟩:=ok
   show m < n
   rcases Nat.lt_or_ge m n with h' | h'
   ·exact h'
   ·rw[f m h'] at h3;cases h3
theorem HB.none {h:zI} {n k:Nat} (hb:HB h n) (hk:n≤k):h k=none:=by
 cases e:h k with
 | none=>rfl
 | some o=>have:=(hb k o e).1;omega
theorem zQ.entry [Vars] {P:Program} {f:FuncId} {args:List AV} {h:zI} {n:Nat} {K:AV→zI→Nat→Prop} (hgo:JZ P f=true) (hc:HB h n→belowL n args→zQ P f args h n K):zQ P f args h n K:=
 ⟨hgo,fun w0 G w vs I hf hr=>(hc (I.HB hf) (RvL.below hf _ _ hr)).2 w0 G w vs I hf hr⟩
theorem zQ.pure [Vars] {P:Program} {f:FuncId} {args:List AV} {h:zI} {n:Nat} {K:AV→zI→Nat→Prop} (hc:zQ P f args h n (fun x h' _=>(∀k,k < n→h' k=h k)∧AM.below n x∧K x h n)):zQ P f args h n K:=by
 refine⟨hc.1,fun w0 G w vs I hf hr=>(hc.2 w0 G w vs I hf hr).mono ?_⟩
 rintro e w' ⟨G',r,x,h',n',e1,⟨e2,eo⟩,e3,e4,e5,e6,e7,e8,e9⟩
 have hb:=I.HB hf
 exact⟨G'.cut n,r,x,h,n,e1,⟨e2.trans Gh.cut_ext,eo⟩,e3.cut (fun k o ek=>⟨by rw[e7 k (hb k o ek).1];exact ek,hb k o ek⟩),Gh.cut_fresh,Nat.le_refl _,
  Rv.restrict Gh.cut_ext.reg (fun _ _ e=>e) _ _ e8 e6,e9⟩
def zK [Vars] (P:Program) (f:FuncId) (args:List AV) (x:AV):Prop:=∀h n,zQ P f args h n fun r h' n'=>r=x∧h'=h∧n'=n
theorem zK.call [Vars] {P:Program} {f:FuncId} {args:List AV} {x:AV} (hp:zK P f args x) {h:zI} {n:Nat} {K:AV→zI→Nat→Prop} (hk:K x h n):zQ P f args h n K:=
 (hp h n).mono fun _ _ _ ⟨e1,e2,e3⟩=>by subst e1;subst e2;subst e3;exact hk
structure Wk (st st':St):Prop where
 nt:st'.nt=st.nt
 n:st'.n=st.n
 s:∀t,get st'.s t=.undef∨get st'.s t=get st.s t
 h:∀k o,st'.h k=some o→st.h k=some o
def agree (s:List (Nat × AV)):List (Nat × AV)→Prop
 | []=>True|(k,v) :: r=>get s k=v∧agree s r
theorem agree_get {s:List (Nat × AV)}:∀{l:List (Nat × AV)},agree s l→∀t,get l t=.undef∨get l t=get s t
 | [],_,t=>.inl rfl|(k,v) :: r,h,t=>by
  simp only[agree] at h
  simp only[get]
  by_cases ht:t=k
  ·rw[if_pos ht,ht];exact .inr h.1.symm
  ·rw[if_neg ht];exact agree_get h.2 t
def Sub (h' h:zI):Prop:=∀k o,h' k=some o→h k=some o
theorem Sub.refl (h:zI):Sub h h:=fun _ _ e=>e
theorem Sub.upd {h' h:zI} (hs:Sub h' h) {n:Nat} (hn:h' n=none) (o:Option AObj):Sub h' (h.upd n o):=fun k p e=>by
 have:k≠n:=fun e'=>by rw[e',hn] at e;cases e
 rw[zB _ _ _ _ this];exact hs k p e
theorem Wk.of [Vars] {nt n:Nat} {s s':List (Nat × AV)} {h h':zI} (ha:agree s s') (hs:Sub h' h):Wk ⟨nt,s,h,n⟩ ⟨nt,s',h',n⟩:=⟨rfl,rfl,agree_get ha,hs⟩
theorem Sim.wk [Vars] {w0:World} {G:Gh} {st st':St} {a:Act} {w:World} (S:Sim w0 G st a w) (k:Wk st st'):Sim w0 G st' a w:=
 ⟨S.inv.sub k.h,by rw[k.nt];exact S.size,S.defers,fun t=>by
   rcases k.s t with e | e
   ·rw[e];simp[Rv]
   ·rw[e];exact S.slots t,by rw[k.n];exact S.fresh⟩
theorem ac_wk [Vars] {P:Program} {fl:Nat} {c:Code} {Q:Exit→St→Prop} {st st':St} (k:Wk st st') (h:ze P fl c Q st'):ze P fl c Q st:=
 fun r w0 G a w hr S hf=>h r w0 G a w hr (S.wk k) (by rw[k.n];exact hf)
theorem qx [Vars] {P:Program} {fl:Nat} {c:Code} {Q Q':Exit→St→Prop} {st:St} (h:ze P fl c Q st) (hq:∀e s,Q e s→∃s',Wk s s'∧Q' e s'):ze P fl c Q' st:=
 fun r w0 G a w hr S hf=>wpIn_mono (h r w0 G a w hr S hf) fun _ _ _ ⟨G',st',e1,e2,e3,e4⟩=>let ⟨s',k,q⟩:=hq _ _ e4;⟨G',s',e1,by rw[k.n];exact e2,e3.wk k,q⟩
theorem z8 [Vars] {P:Program} {fl:Nat} {Q:Exit→St→Prop} {st:St} {c:Code} (I:St→Prop) (μ:St→Nat) (h0:∃s,Wk st s∧I s)
  (round:∀s,I s→ze P fl c (zG (fun s'=>∃s'',Wk s' s''∧I s''∧μ s'' < μ s) Q) s):ze P fl (.loop c) Q st:=by
 obtain⟨s0,k,hi⟩:=h0
 refine ac_wk k (ac_loop I μ hi fun s hs=>qx (round s hs) fun e s' hq=>?_)
 cases e with
 | normal=>exact hq
 | _=>exact⟨s',⟨rfl,rfl,fun _=>.inr rfl,fun _ _ e=>e⟩,hq⟩
end Go.AM
namespace Go.AM
attribute [go_sem] Qv Option.some_or Option.none_or Option.isSome_some Option.isSome_none evP Zh ZR put get ev jN ofVals zc cellsOf AV.scalar jB aBin qu Qt eqOp nilP nilS nilM isPtr isSlice Jo aLen aMinMax aConvert aNeg intOf? lowB highB aSlice aBuild J3 aFill Za Q4 chunk mkElem JX zu aRes j5 zr zG zN zD List.toList_toArray List.map_cons List.map_nil List.length_cons List.length_nil List.all_cons List.all_nil Bool.and_self Bool.and_true Bool.true_and Bool.and_false Bool.false_and decide_true decide_false decide_eq_true_eq if_true if_false true_and and_true and_self Option.bind_some Option.map_some Option.map_none Option.bind_none List.getElem?_toArray List.getElem?_cons_zero List.getElem?_cons_succ List.getElem?_nil List.drop_zero List.drop_succ_cons List.drop_nil List.take_succ_cons List.take_zero List.take_nil List.head?_cons List.cons_append List.nil_append List.append_nil List.append_eq_nil_iff List.replicate_succ List.replicate_zero List.flatten_cons List.flatten_nil List.headD_cons beq_self_eq_true BEq.rfl Bool.true_eq_false Bool.false_eq_true not_true_eq_false not_false_eq_true ne_eq Option.some.injEq Prod.mk.injEq Int.toNat_natCast List.size_toArray Bool.not_true Bool.not_false Nat.add_zero Nat.zero_add Nat.succ_ne_self AV.c.injEq Value.int.injEq false_and and_false false_or or_false or_true true_or Nat.zero_le
end Go.AM
