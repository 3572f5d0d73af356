/- The abstract machine: regions that draw their order around calls and appends, or run in all their orders; entries of maps, channels. Conditions: as each theorem says. -/
import Derived.Test.YtabidiilbgakoaaGreatDoorAmd
namespace Go.AM
open Go.RowKit
def FpOk (F:List Nat) (s:List (Nat × AV)):Prop:=∀t ∈ F,∃l,get s t=.fptr l
section
variable {F : List Nat} {P : Program} {ops : Array Oper}
end
theorem ac_fzbox [Vars] {P:Program} {fl:Nat} {code:Code} {Q:Exit→St→Prop} {st:St} {t m:Nat} {c:List AV} (hm:st.h m=some (.cells c)) (ht:get st.s t=.ptr m 0)
  (h:ze P fl code Q {st with s:=(t,.fptr c) :: st.s,h:=st.h.upd m none}):ze P fl code Q st:=by
 intro r w0 G a w hr S hf
 obtain⟨rg,vs,hreg,ok⟩:=S.inv.obj m _ hm
 have hle:=Gh.le_freeze S.inv hm hreg
 have hx:Ext fl G (G.freeze w rg):=⟨fun _ _=>rfl,hle.imm,⟨[],rfl⟩,rfl,fun _ e=>e⟩
 refine wpIn_mono (h r w0 (G.freeze w rg) a w hr ⟨S.inv.freeze hm hreg,S.size,S.defers,fun t'=>?_,S.fresh⟩ hf) fun _ _ _ ⟨G',st',e1,e2⟩=>⟨G',st',hx.trans e1,e2⟩
 simp only[get]
 by_cases e:t'=t
 ·subst e
  rw[if_pos rfl]
  have hv:=S.slots t'
  rw[ht] at hv
  simp only[Rv] at hv ⊢
  obtain⟨b,lo,tt,h1,h2⟩:=hv
  rw[hreg] at h1;cases h1
  refine⟨_,vs,h2,RvL.mono hle.v _ _ ok.rel,fun j v hj=>?_⟩
  have hjl:=(List.getElem?_eq_some_iff.1 hj).1
  have hlen:=ok.rel.length
  have hl2:=ok.len
  rw[z7]
  have hin:InReg (b,lo,tt) ⟨b,lo + 0 + j,none⟩:=by
   refine⟨rfl,?_,?_⟩ <;> simp only at * <;> omega
  simp only[Gh.freeze,if_pos hin]
  exact ok.val j v hj
 ·rw[if_neg e]
  exact (S.slots t').mono hle.v _ _
end Go.AM
namespace Go.AM
open Go.RowKit
def isFA (F:List Nat) (o:Oper):Bool:=o.guard.isNone && match o.op with | .fieldAddr _ (.tmp f) _=>F.contains f | _=>false
def fpSlot (F:List Nat) (ops:Array Oper) (t:Nat):Bool:=F.contains t || ops.toList.any (fun o=>isFA F o && o.dst == some t)
def ldSlot:Op→Option Nat
 | .load _ (.tmp t)=>some t
 | _=>none
def isLd3 (F:List Nat) (ops:Array Oper) (op:Op):Bool:=match ldSlot op with | some t=>fpSlot F ops t | none=>false
def LdAt (op:Op) (s:List (Nat × AV)):Prop:=∀t,ldSlot op=some t→∃l,get s t=.fptr l
end Go.AM
namespace Go.AM
open Go.RowKit
def WOk (F:List Nat) (ops:Array Oper):Prop:=∀(i:Nat) o,ops[i]? = some o→∀d,o.dst=some d→d ∉ F∧(fpSlot F ops d=true→isFA F o=true)
structure Psi (F:List Nat) (ops:Array Oper) (s:List (Nat × AV)) (L:List Nat):Prop where
 fp:FpOk F s
 ld:∀p ∈ L,∀o,ops[p]? = some o→isLd3 F ops o.op=true→LdAt o.op s∨∃j ∈ L,j < p∧∃q,ops[j]? = some q∧isFA F q=true∧q.dst=ldSlot o.op
theorem Psi.head {F:List Nat} {ops:Array Oper} {s:List (Nat × AV)} {p:Nat} {r:List Nat} (h:Psi F ops s (p :: r)) (hs:(p :: r).Pairwise (·< ·)) {o:Oper} (ho:ops[p]? = some o) (hl:isLd3 F ops o.op=true):LdAt o.op s:=by
 rcases h.ld p (by simp) o ho hl with h' | ⟨j,hj,hlt,_⟩
 ·exact h'
 ·exfalso
  rcases List.mem_cons.1 hj with h' | h'
  ·omega
  ·have:=(List.pairwise_cons.1 hs).1 j h';omega
theorem Psi.step {F:List Nat} {ops:Array Oper} {s s1:List (Nat × AV)} {L L':List Nat} {p:Nat} {o:Oper} (h:Psi F ops s L) (hW:WOk F ops) (_:p ∈ L) (ho:ops[p]? = some o) (hk:∀t,o.dst≠some t→get s1 t=get s t)
  (hfa:isFA F o=true→FpOk F s→∀d,o.dst=some d→∃l,get s1 d=.fptr l) (h1:∀x ∈ L',x ∈ L) (h2:∀x ∈ L,x≠p→x ∈ L'):Psi F ops s1 L':=by
 have hf:FpOk F s1:=fun t ht=>by rw[hk t (fun e=>(hW p o ho t e).1 ht)];exact h.fp t ht
 have keep:∀(o':Oper),isLd3 F ops o'.op=true→LdAt o'.op s→LdAt o'.op s1:=fun o' hl hd t ht=>by
  by_cases e:o.dst=some t
  ·refine hfa ((hW p o ho t e).2 ?_) h.fp t e
   unfold isLd3 at hl
   rw[ht] at hl;exact hl
  ·rw[hk t e];exact hd t ht
 refine⟨hf,fun p' hp' o' ho' hl=>?_⟩
 rcases h.ld p' (h1 p' hp') o' ho' hl with h' | ⟨j,hj,hlt,q,hq,hqa,hqd⟩
 ·exact .inl (keep o' hl h')
 ·by_cases e:j=p
  ·subst e
   rw[ho] at hq;cases hq
   exact .inl fun t ht=>hfa hqa h.fp t (by rw[hqd,ht])
  ·exact .inr ⟨j,h2 j hj e,hlt,q,hq,hqa,hqd⟩
section
variable {F : List Nat} {P : Program} {ops : Array Oper}
end
end Go.AM
namespace Go.AM
open Go.RowKit
mutual
def fzD (m:Nat) (c:List AV) (agg:Bool):AV→AV
 | .slc n off len s=>if n=m∧off + len * s≤c.length∧(agg=false→s=1) then .fslc false false s (JX agg s len (c.drop off)) else .slc n off len s
 | .agg l=>.agg (QM m c agg l)
 | .tup l=>.tup (QM m c agg l)
 | x=>x
def QM (m:Nat) (c:List AV) (agg:Bool):List AV→List AV
 | []=>[]
 | x :: r=>fzD m c agg x :: QM m c agg r
end
mutual
theorem fzD_ok [Vars] {w0:World} {G:Gh} {h:zI} {w:World} (I:Inv w0 G h w) {m:Nat} {c:List AV} (hm:h m=some (.cells c)) {r:Nat × Nat × Nat} (hr:G.reg m=some r) (agg:Bool):∀(x:AV) (v:Value),Rv G x v→Rv (G.freeze w r) (fzD m c agg x) v
 | .slc n off len s,v,hv=>by
  simp only[fzD]
  split
  ·rename_i hc
   obtain⟨rfl,h1,h2⟩:=hc
   exact freeze_slc I hm hr agg h2 h1 hv
  ·exact hv.mono (Gh.le_freeze I hm hr).v
 | .agg l,v,hv=>by
  simp only[fzD,Rv] at hv ⊢
  obtain⟨vs,e,h⟩:=hv
  exact⟨vs,e,fzDL_ok I hm hr agg l _ h⟩
 | .tup l,v,hv=>by
  simp only[fzD,Rv] at hv ⊢
  obtain⟨vs,e,h⟩:=hv
  exact⟨vs,e,fzDL_ok I hm hr agg l _ h⟩
 | .undef,v,hv | .c _,v,hv | .ptr _ _,v,hv | .fptr _,v,hv | .fslc _ _ _ _,v,hv | .map _,v,hv | .func _ _ _,v,hv | .iface _ _,v,hv | .chan _,v,hv | .yld _,v,hv=>by
  simp only[fzD];exact hv.mono (Gh.le_freeze I hm hr).v
theorem fzDL_ok [Vars] {w0:World} {G:Gh} {h:zI} {w:World} (I:Inv w0 G h w) {m:Nat} {c:List AV} (hm:h m=some (.cells c)) {r:Nat × Nat × Nat} (hr:G.reg m=some r) (agg:Bool):∀(l:List AV) (vs:List Value),RvL G l vs→RvL (G.freeze w r) (QM m c agg l) vs
 | [],vs,hv=>by simpa [RvL,QM] using hv
 | x :: l,vs,hv=>by
  simp only[RvL] at hv
  obtain⟨v,vr,rfl,h1,h2⟩:=hv
  simp only[QM,RvL]
  exact⟨v,vr,rfl,fzD_ok I hm hr agg x v h1,fzDL_ok I hm hr agg l vr h2⟩
end
theorem ret_fzD [Vars] {fl:Nat} {K:AV→zI→Nat→Prop} {x:AV} {h:zI} {n:Nat} {m:Nat} {c:List AV} (agg:Bool) (hm:h m=some (.cells c)) (hk:Zg fl K (fzD m c agg x) (h.upd m none) n):Zg fl K x h n:=by
 refine ret_step (fun w0 G w v I f hr hl=>?_) hk
 obtain⟨r,hreg⟩:=(I.obj m _ hm).hasReg
 have hle:=Gh.le_freeze I hm hreg
 exact⟨G.freeze w r,⟨⟨fun _ _=>rfl,hle.imm,⟨[],rfl⟩,rfl,fun _ e=>e⟩,rfl⟩,I.freeze hm hreg,f,fzD_ok I hm hreg agg _ _ hr,hl⟩
def acV (s m:Nat) (L:List AV):AV:=if L=[] then .fslc true true 0 [] else .slc m 0 L.length s
def acO (L:List AV):Option AObj:=if L=[] then none else some (.cells (flat L))
theorem ac_nil (s m:Nat):acV s m []=.fslc true true 0 []:=rfl
theorem j0 {s m:Nat} {L:List AV} (h:L≠[]):acV s m L=.slc m 0 L.length s:=by rw[acV,if_neg h]
theorem acO_ne {L:List AV} (h:L≠[]):acO L=some (.cells (flat L)):=by rw[acO,if_neg h]
theorem upd_none_eq {h:zI} {m:Nat} (hm:h m=none):h.upd m none=h:=by
 funext k;by_cases e:k=m
 ·subst e;rw[zD,hm]
 ·rw[zB _ _ _ _ e]
theorem flat_append (a b:List AV):flat (a ++ b)=flat a ++ flat b:=by simp[flat]
theorem flat_len {s:Nat}:∀{L:List AV},(∀x ∈ L,(cellsOf x).length=s)→(flat L).length=L.length * s
 | [],_=>by simp[flat]
 | x :: r,h=>by
  have:=flat_len (L:=r) fun y hy=>h y (by simp[hy])
  simp only[flat,List.map_cons,List.flatten_cons,List.length_append] at this ⊢
  rw[this,h x (by simp),List.length_cons,Nat.succ_mul];omega
theorem ap_ac [Vars] {P:Program} {T e s by_:Nat} {z:AV} (e1:ZS P T=some e) (e2:zo P e=some s) (e3:ZC P e=some by_) (e4:zd P e=some z) (hz:0 < s∧(cellsOf z).length=s∧(cellsOf z).all AV.scalar=true∧by_≤2 ^ 20)
  {nm m:Nat} {L:List AV} {X:List AV} {nl full:Bool} {h:zI} (hm:h m=acO L) (hL:∀x ∈ L,(cellsOf x).length=s) (hX:X≠[]) (hl:L.length + X.length≤67108864) :
  Z6 P nm T (acV s m L) (.fslc nl full s X) h=some (acV s nm (L ++ X),(h.upd m none).upd nm (acO (L ++ X))):=by
 have hne:L ++ X≠[]:=by simp[hX]
 have hX0:X.length≠0:=by simpa using hX
 have e26:(2:Nat) ^ 26=67108864:=by decide
 unfold Z6
 rw[e1];simp only[e2,e3,e4]
 rw[if_pos hz]
 simp only[jd,if_true]
 rw[j0 hne,acO_ne hne,flat_append]
 by_cases h0:L=[]
 ·subst h0
  have hm':h m=none:=hm
  rw[upd_none_eq hm',ac_nil]
  have hnl:¬(X.length=0):=hX0
  simp only[List.length_nil,Nat.zero_add] at hl
  have:X.length≤2 ^ 26:=by rw[e26];exact hl
  simp[hX,flat,this]
 ·rw[j0 h0]
  rw[acO_ne h0] at hm
  have hfl:=flat_len hL
  have:L.length + X.length≤2 ^ 26:=by rw[e26];exact hl
  have hnot:¬(0 + (L.length + X.length) * s≤(flat L).length):=by
   rw[hfl,Nat.add_mul]
   have:=Nat.mul_pos (Nat.pos_of_ne_zero hX0) hz.1
   omega
  have hc:0 + L.length * s=(flat L).length:=by rw[hfl];omega
  simp only[if_true,hm]
  rw[if_neg hnot,if_pos ⟨hc,this⟩]
  simp
end Go.AM
namespace Go.AM
open Go.RowKit
end Go.AM
namespace Go.AM
open Go.RowKit
section
variable {P : Program} {fl : Nat} {Q : Exit → St → Prop} {st : St}
theorem fenced_FR (r:Option Nat) (m:Machine):m.fenced P (FR r):=by
 intro g _
 refine⟨fun h=>?_,Or.inl trivial,fun _ _=>trivial,fun _ h=>?_⟩
 ·simp[FR] at h
 ·simp[FR] at h
theorem ac_head [Vars] {id:Nat} {ops:Array Oper} {o:Oper} {rest:List Oper} (ho:ops.toList=o :: rest) (hd:Zh st.nt o.dst=true) (M:AV→zI→Prop)
  (hhead:∀w0 G a w,Sim w0 G st a w→∃cv w' x h',(∀(b:Frame) k cs rs,step P (lone (b.atR a (.inRegion ops (0 :: rs) :: k)) cs w)=.next (lone (b.atR (a.put o.dst cv) (.inRegion ops rs :: k)) cs w'))∧Inv w0 G h' w'∧Rv G x cv∧M x h')
  (hrest:∀x h',M x h'→Jb P ops st.n (Q .normal) 1 rest (put ⟨st.nt,st.s,h',st.n + ops.size⟩ o.dst x)):ze P fl (.region id ops false) Q st:=by
 intro r w0 G a w hr S hf b k cs hro hb hrm
 obtain⟨cv,w',x,h',hstep,I',hv,hM⟩:=hhead w0 G a w S
 have hsz:ops.size=rest.length + 1:=by have:=congrArg List.length ho;simpa using this
 have hR:RSim w0 G fl st.n (List.range' 1 rest.length) G (put ⟨st.nt,st.s,h',st.n + ops.size⟩ o.dst x) (a.put o.dst cv) w':=by
  refine⟨⟨?_,?_,?_,?_,?_⟩,Ext.refl _ _,?_,fun j hj=>?_,rfl⟩
  ·rw[put_nt.2.1];exact I'
  ·rw[Jv,put_nt.1];exact S.size
  ·rw[jj];exact S.defers
  ·exact JA (st:=⟨st.nt,st.s,h',st.n + ops.size⟩) S.slots S.size hd hv
  ·rw[put_nt.2.2];intro j hj;simp only at hj;exact S.fresh j (by omega)
  ·rw[put_nt.2.2];simp only;omega
  ·rw[put_nt.2.2]
   simp only[List.mem_range'] at hj
   obtain⟨i,hi,rfl⟩:=hj
   exact⟨S.fresh _ (by omega),by simp only;omega⟩
 have hlist:=ops_ok (P:=P) (r:=r) (w0:=w0) (G0:=G) (base:=st.n) (fl:=fl) hf (ops:=ops) (K:=Q .normal) (Q':=fun e a' w'=>∃G' st',Ext fl G G'∧fl≤st'.n∧Sim w0 G' st' a' w'∧Q e st')
  (fun G' s a' w' S' hq=>⟨G',s,S'.ext,S'.lim,S'.sim,hq⟩) rest 1 G _ _ w' hR (hrest x h' hM)
 rw[←wpOpsIn_eq_wpListIn (F:=FR r) rest 1 (fun j=>by rw[←Array.getElem?_toList,ho,Nat.add_comm];simp)] at hlist
 obtain⟨e,a',w'',hq,harr⟩:=wp_opsIn _ _ _ hlist b k cs hro hb hrm
 have hrange:List.range ops.size=0 :: List.range' 1 rest.length:=by rw[hsz,List.range_eq_range',List.range'_succ]
 refine⟨e,a',w'',hq,ArrivesIn.of_steps (.head (fenced_FR r _) stepR_region (.one (fenced_FR r _) ?_)) harr⟩
 rw[hrange]
 exact hstep b k cs _
theorem step_value {ops:Array Oper} {o:Oper} {a:Act} {w w':World} {cv:Value} (ho:ops[0]? = some o) (hg:o.guard=none) (hnd:∀c,o.op≠.defer c) (hr:(execOp a.eval o).run P w=.ok (.value cv) w') (b:Frame) (k:List Item) (cs:List Frame) (rs:List Nat) :
  step P (lone (b.atR a (.inRegion ops (0 :: rs) :: k)) cs w)=.next (lone (b.atR (a.put o.dst cv) (.inRegion ops rs :: k)) cs w'):=by
 have hw:Region.wanted o (yielded ops a.tmps)=true:=by simp[Region.wanted,hg]
 have hgo:=stepGR_op (P:=P) (b:=b) (k:=k) (cs:=cs) (w:=w) (rest:=rs) ho hw
 have hfin:(b.atR a (.inRegion ops (0 :: rs) :: k)).finish cv=b.atR (a.put o.dst cv) (.inRegion ops rs :: k):=by
  rw[Frame.finish_atR,ho];rfl
 refine step_lone_go ?_
 rw[hgo,←hfin,Oper.semAt_eq _ _ _ hnd]
 simp[stepG.apply,hr]
theorem run_next_at {w:World} (ty:TypeId) {b bm since c0:Nat} {sa:Array Nat} {es:Array MapEntry} {clock:Nat} (hb:w.heap[b]? = some (.mapIter (some bm) since sa c0)) (hm:w.heap[bm]? = some (.map es clock)) (hold:∀x ∈ es.toList,x.born < since) (hsc:since≤c0) :
  ((leftOf es sa).size=0∧(Instr.next (.pointer (some ⟨b,0,none⟩)) false ty).run P w=.ok (.tuple #[.bool false]) w)∨
  ∃e ∈ (leftOf es sa).toList,∃w1:World,(w1=w∨w1=w.drew)∧(Instr.next (.pointer (some ⟨b,0,none⟩)) false ty).run P w=.ok (.tuple #[.bool true,e.key,e.val]) (w1.putObj b (.mapIter (some bm) since (sa.push e.born) clock)):=by
 simp only[Instr.next,getObj,Sem.run_bind,Sem.run,hb,hm,Result.andThen,next_test_false sa es since c0 hold hsc,Bool.false_eq_true,if_false]
 unfold leftOf
 have hmem:∀x ∈ (Array.filter (fun e=>!sa.contains e.born) es).toList,x.born < since:=fun x hx=>hold x (by simp at hx ⊢;exact hx.1)
 generalize Array.filter (fun e=>!sa.contains e.born) es=L at hmem ⊢
 have e1:L.filter (fun x=>decide (x.born < since))=L:=Array.filter_eq_self.2 (fun x hx=>by simpa using hmem x (by simpa using hx))
 have e2:L.filter (fun x=>decide (x.born ≥ since)) = #[]:=by
  rw[Array.filter_eq_empty_iff]
  intro x hx
  have:=hmem x (by simpa using hx)
  simp
  omega
 simp only[e1,e2,Array.append_empty]
 by_cases h0:L.size=0
 ·left
  have:L = #[]:=Array.eq_empty_of_size_eq_zero h0
  subst this
  refine⟨rfl,?_⟩
  simp[choose,Sem.run,Question.forced]
 ·right
  have hne:L.isEmpty=false:=by simp[Array.isEmpty,h0]
  simp only[hne,Bool.false_eq_true,if_false,Array.empty_append,Array.size_map]
  have hch:∃(j:Nat) (w1:World),j < L.size∧(w1=w∨w1=w.drew)∧(choose (Question.mapNext L.size)).run P w=.ok j w1:=by
   by_cases hf:L.size≤1
   ·exact⟨0,w,by omega,.inl rfl,by simp[choose,Sem.run,Question.forced,hf]⟩
   ·exact⟨_,w.drew,Nat.mod_lt _ (by omega),.inr rfl,by
     simp only[choose,Sem.run,Question.forced,decide_eq_true_eq,hf,if_false,Question.cut]
     rfl⟩
  obtain⟨j,w1,hj,hw1,hrun⟩:=hch
  refine⟨L[j],by simp,w1,hw1,?_⟩
  have hb1:w1.heap[b]? = some (.mapIter (some bm) since sa c0):=by rcases hw1 with rfl | rfl <;> exact hb
  have hset:∀o',(setObj b o').run P w1=.ok () (w1.putObj b o'):=fun o'=>by
   simp only[setObj,Sem.run,hb1]
   rfl
  simp only[hrun,Array.getElem?_map,Array.getElem?_eq_getElem hj,Option.map_some,Sem.run_bind,hset,Result.andThen]
  rfl
theorem ac_next [Vars] {id:Nat} {ops:Array Oper} {o:Oper} {rest:List Oper} {it:Operand} {n m since last clk:Nat} {seen bs:List Nat} {es:List (Value × AV)} (ho:ops.toList=o :: rest) (hop:o.op=.next it false) (hg:o.guard=none) (hd:Zh st.nt o.dst=true)
  (hit:ev st.s it=.ptr n 0) (hn:st.h n=some (.iter m since last seen)) (hm:st.h m=some (.map clk bs es)) (hlt:∀b ∈ bs,b < since) (hle:since≤last)
  (hend:(∀b ∈ bs,b ∈ seen)→Jb P ops st.n (Q .normal) 1 rest (put ⟨st.nt,st.s,st.h,st.n + ops.size⟩ o.dst (.tup [bv false])))
  (hnext:∀(j b:Nat) (k:Value) (v:AV),es[j]? = some (k,v)→bs[j]? = some b→b ∉ seen→Jb P ops st.n (Q .normal) 1 rest (put ⟨st.nt,st.s,st.h.upd n (some (.iter m since clk (seen ++ [b]))),st.n + ops.size⟩ o.dst (.tup [bv true,jN k,v]))):ze P fl (.region id ops false) Q st:=by
 refine ac_head ho hd (fun x h'=>(x=.tup [bv false]∧h'=st.h∧∀b ∈ bs,b ∈ seen)∨∃(j b:Nat) (k:Value) (v:AV),es[j]? = some (k,v)∧bs[j]? = some b∧b ∉ seen∧x=.tup [bv true,jN k,v]∧h'=st.h.upd n (some (.iter m since clk (seen ++ [b])))) ?_ ?_
 ·intro w0 G a w S
  have hv:=Qe S.inv.oth.vars S.slots it
  rw[hit] at hv
  simp only[Rv] at hv
  obtain⟨b,lo,tt,hr,hve⟩:=hv
  obtain⟨b',bm,sa,hr',hb,hrm,hblk,hsa⟩:=S.inv.obj n _ hn
  rw[hr] at hr';cases hr'
  obtain⟨bm',ents,hrm',M⟩:=S.inv.obj m _ hm
  rw[hrm] at hrm';cases hrm'
  have hlen:=M.len
  have hblen:=M.blen
  have hold:∀x ∈ ents.toList,x.born < since:=fun x hx=>hlt _ (by rw[←M.born];exact List.mem_map_of_mem hx)
  have ho0:ops[0]? = some o:=by rw[←Array.getElem?_toList,ho];rfl
  have hnd:∀c,o.op≠.defer c:=fun c e=>by rw[hop] at e;cases e
  have hexec:∀cv w',(Instr.next (.pointer (some ⟨b,0,none⟩)) false o.type).run P w=.ok cv w'→(execOp a.eval o).run P w=.ok (.value cv) w':=fun cv w' h1=>by
   have:execOp a.eval o=(do pure (.value (←Instr.next (a.eval it) false o.type))):=by
    obtain⟨d,op,ty,ps,af,gd⟩:=o
    simp only at hop
    subst hop;rfl
   rw[this,hve]
   simp[h1]
  rcases run_next_at (P:=P) o.type hblk M.blk hold hle with ⟨h0,h1⟩ | ⟨e,he,w1,hw1,h1⟩
  ·refine⟨_,w,.tup [bv false],st.h,step_value ho0 hg hnd (hexec _ _ h1),S.inv,by simp only[Rv,RvL];exact⟨_,rfl,_,_,rfl,by simp[Value.oneCell'],rfl⟩,.inl ⟨rfl,rfl,fun x hx=>?_⟩⟩
   rw[←hsa]
   apply Classical.byContradiction
   intro hns
   rw[←M.born] at hx
   obtain⟨e,he,rfl⟩:=List.mem_map.1 hx
   have hin:e ∈ (leftOf ents sa).toList:=by
    simp only[leftOf,Array.toList_filter,List.mem_filter]
    refine⟨he,?_⟩
    simpa using hns
   have:(leftOf ents sa).toList.length=0:=by simpa using h0
   rw[List.length_eq_zero_iff.1 this] at hin
   cases hin
  ·have hmem:e ∈ ents.toList∧¬e.born ∈ sa.toList:=by
    simp only[leftOf,Array.toList_filter,List.mem_filter] at he
    exact⟨he.1,by simpa using he.2⟩
   obtain⟨j,hj⟩:=List.getElem?_of_mem hmem.1
   have hje:ents[j]? = some e:=by simpa using hj
   have hbj:bs[j]? = some e.born:=by rw[←M.born,List.getElem?_map,hj];rfl
   have hjl:j < es.length:=by rw[←hlen];exact (Array.getElem?_eq_some_iff.1 hje).1
   obtain⟨e',he1,he2,he3⟩:=M.at (j:=j) (k:=es[j].1) (x:=es[j].2) (List.getElem?_eq_getElem hjl)
   rw[hje] at he1;cases he1
   have hI1:Inv w0 G st.h w1:=by
    rcases hw1 with rfl | rfl
    ·exact S.inv
    ·exact S.inv.drew
   have hblk1:w1.heap[b]? = some (.mapIter (some bm) since sa last):=by rcases hw1 with rfl | rfl <;> exact hblk
   have hlt1:b < w1.heap.size:=(Array.getElem?_eq_some_iff.1 hblk1).1
   refine⟨_,_,.tup [bv true,jN es[j].1,es[j].2],_,step_value ho0 hg hnd (hexec _ _ h1),?_,?_,.inr ⟨j,e.born,es[j].1,es[j].2,List.getElem?_eq_getElem hjl,hbj,by rw[←hsa];exact hmem.2,rfl,rfl⟩⟩
   ·exact hI1.putObj hn hr hblk1 (by simp) (by simp) (by simp) (by simp) hb ⟨b,bm,sa.push e.born,hr,hb,hrm,World.putObj_heap_same hlt1,by simp[hsa]⟩
   ·simp only[Rv,RvL]
    exact⟨_,rfl,_,_,rfl,by simp[Value.oneCell'],_,_,rfl,by rw[←he2];exact jy G _,_,_,rfl,he3,rfl⟩
 ·rintro x h' (⟨rfl,rfl,h1⟩ | ⟨j,b,k,v,h1,h2,h3,rfl,rfl⟩)
  ·exact hend h1
  ·exact hnext j b k v h1 h2 h3
end
end Go.AM
namespace Go.AM
open Go.RowKit
inductive OT where
 | node (cs:List (Nat × OT))
section
variable {P : Program} {ops : Array Oper}
end
end Go.AM
namespace Go.AM
open Go.RowKit
section
variable {P : Program} {fl : Nat} {Q : Exit → St → Prop} {st : St}
end
end Go.AM
