/- A parser over tokens, plainly; the program's small readers. Conditions: as each theorem says. -/
import Derived.Test.YtabidiilbgakoaaGreatDoorLc
import Derived.Test.YtabidiilbgakoaaGreatDoorAmh
namespace Go.AM
open Go.Proofs Cw Du
set_option maxRecDepth 10000
set_option maxHeartbeats 4000000
def tkP (t:Tk):AV:=tkA t.kind t.text t.pos
def JJ (T:List Tk) (p:Nat):Int:=match T[p]? with
 | some t=>t.kind
 | none=>0
def Zm (T:List Tk) (p:Nat):ByteArray:=match T[p]? with
 | some t=>if t.kind=3 then t.text else ⟨#[]⟩
 | none=>⟨#[]⟩
def isM (T:List Tk) (p:Nat) (w:ByteArray):Bool:=(Zm T p).toList == w.toList
abbrev PR (α:Type):=Except Nat (α × Nat)
def Zu (T:List Tk) (p:Nat):PR ByteArray:=match T[p]? with
 | some t=>if t.kind=1 then .ok (t.text,p + 1) else .error p
 | none=>.error p
def jc (T:List Tk) (p:Nat):PR Int:=match T[p]? with
 | some t=>if t.kind=2 then .ok ((t.val:Int),p + 1) else .error p
 | none=>.error p
def TkOk (t:Tk):Prop:=t.text.size≤1000000∧(t.kind=2→Go.Lib.atoiAll t.text.data.toList=.ok (t.val:Int)∧t.val≤10000)
structure PSt (T:List Tk) (nl fu:Bool) (z:Nat) (H:zI) (o p:Nat):Prop where
 at_:H o=some (.cells [.fslc nl fu z (T.map tkP),iv .i64 p])
 fl:T=[]∨nl=false∧z=3
 len:T.length≤1000000
 le:p≤T.length
 tok:∀t ∈ T,TkOk t
abbrev atO (T:List Tk) (nl fu:Bool) (z p:Nat):AObj:=.cells [.fslc nl fu z (T.map tkP),iv .i64 p]
def zW:Value:=.iface 189 (.agg #[])
def PErr (T:List Tk) (nl fu:Bool) (z:Nat) (o k:Nat) (H:zI) (n:Nat) (h':zI):Prop:=h' o=some (atO T nl fu z k)∧∀x,x < n→x≠o→h' x=H x
theorem JF {T:List Tk} {nl fu:Bool} {z p n:Nat}:QU n (atO T nl fu z p):=by
 simp only[QU,belowL,below,qt,and_true]
 intro y hy
 obtain⟨o,_,rfl⟩:=List.mem_map.1 hy
 simp[tkP,tkA,below,belowL]
theorem PSt.next {T:List Tk} {nl fu:Bool} {z:Nat} {H:zI} {o p q:Nat} (S:PSt T nl fu z H o p) (hq:q≤T.length):PSt T nl fu z (H.upd o (some (atO T nl fu z q))) o q:=
 ⟨zD _ _ _,S.fl,S.len,hq,S.tok⟩
theorem PSt.keep {T:List Tk} {nl fu:Bool} {z:Nat} {H H':zI} {o p:Nat} (S:PSt T nl fu z H o p) (h:H' o=H o):PSt T nl fu z H' o p:=
 ⟨h.trans S.at_,S.fl,S.len,S.le,S.tok⟩
theorem at_tk {T:List Tk} {p:Nat} (hp:p < T.length):∃t,T[p]=t∧T[p]? = some t∧t ∈ T∧tkP T[p]=.agg [iv .i64 t.kind,sv t.text,iv .i64 t.pos]:=⟨T[p],rfl,List.getElem?_eq_getElem hp,List.getElem_mem hp,rfl⟩
theorem qc {T:List Tk} {nl fu:Bool} {z:Nat} {H:zI} {o p n:Nat} (S:PSt T nl fu z H o p) (_hon:o < n):APureAt Tryz.prog 181 [.ptr o 0] H n (iv .i64 (JJ T p)):=by
 obtain⟨s1,s2,s3,s4,s5⟩:=S
 have hlen:(T.map tkP).length=T.length:=List.length_map _
 refine zQ.pure (zQ.entry (by kernel_rfl) fun hb _=>za Tryz.func181 rfl (by kernel_rfl) (by simp[Tryz.ntmps181]) ?_)
 replace s5:zC _:=s5
 by_cases hp:p < T.length
 ·obtain⟨t,ht,hts,_,hex⟩:=at_tk hp
  have hne:T≠[]:=fun e=>by rw[e] at hp;simp at hp
  obtain⟨rfl,rfl⟩:=s2.resolve_left hne
  rw[JJ,hts]
  simp only
  clear hts hne s2 ht
  repeat' (first|(refine zF fun K hK=>?_)|(refine zA fun K hK=>?_;simp (disch:=omega) [go_sem, *,Tryz.ntmps181])|(refine zm mixed (by kernel_rfl) fun K hK=>?_;simp (disch:=omega) [go_sem, *])|(refine Z4 (by simp[go_sem]) (by simp (disch:=omega) [go_sem, *,zO,zP];first | exact rfl | exact⟨rfl,rfl,rfl⟩) ?_;try simp only[zU])|(refine ZH ?_)|(apply zC.out hK;clear hK K;try with_reducible dsimp only[zG])|(apply zC.out ht;clear ht hf Kt Kf)|(refine zH fun Kt Kf ht hf=>?_;simp (disch:=omega) [go_sem, *];try (refine⟨fun hc=>?_,fun hc=>?_⟩ <;> try (exfalso;omega))))
  exact zR
 ·have hn:T[p]? = none:=List.getElem?_eq_none (by omega)
  rw[JJ,hn]
  simp only
  replace s2:zC _:=s2
  clear hn
  repeat' (first|(refine zF fun K hK=>?_)|(refine zA fun K hK=>?_;simp (disch:=omega) [go_sem, *,Tryz.ntmps181])|(refine zm mixed (by kernel_rfl) fun K hK=>?_;simp (disch:=omega) [go_sem, *])|(refine Z4 (by simp[go_sem]) (by simp (disch:=omega) [go_sem, *,zT];first | exact rfl | exact⟨rfl,rfl,rfl⟩) ?_;try simp only[zU])|(refine ZH ?_)|(apply zC.out hK;clear hK K;try with_reducible dsimp only[zG])|(apply zC.out hf;clear ht hf Kt Kf)|(refine zL ?_;simp only[zG])|(refine zH fun Kt Kf ht hf=>?_;simp (disch:=omega) [go_sem, *];try (refine⟨fun hc=>?_,fun hc=>?_⟩ <;> try (exfalso;omega))))
  exact zR
theorem text_spec {T:List Tk} {nl fu:Bool} {z:Nat} {H:zI} {o p n:Nat} (S:PSt T nl fu z H o p) (hon:o < n):APureAt Tryz.prog 114 [.ptr o 0] H n (sv (Zm T p)):=by
 have kk:=fun m (hm:n≤m)=>qc (n:=m) S (by omega)
 have S0:=S
 obtain⟨s1,s2,s3,s4,s5⟩:=S
 have hlen:(T.map tkP).length=T.length:=List.length_map _
 refine zQ.pure (zQ.entry (by kernel_rfl) fun hb _=>za Tryz.func114 rfl (by kernel_rfl) (by simp[Tryz.ntmps114]) ?_)
 replace s5:zC _:=s5
 replace S0:zC _:=S0
 by_cases hp:p < T.length
 ·obtain⟨t,ht,hts,_,hex⟩:=at_tk hp
  have hne:T≠[]:=fun e=>by rw[e] at hp;simp at hp
  obtain⟨rfl,rfl⟩:=s2.resolve_left hne
  have e1:JJ T p=t.kind:=by rw[JJ,hts]
  rw[e1] at kk
  rw[Zm,hts]
  simp only
  replace kk:zC _:=kk
  clear hts hne s2 ht e1
  by_cases h3:t.kind=3
  ·rw[if_pos h3]
   have m3:(t.kind == 3)=true:=by simpa using h3
   replace h3:zC _:=h3
   repeat' (first|(refine zF fun K hK=>?_)|(refine zA fun K hK=>?_;simp (disch:=omega) [go_sem, *,Tryz.ntmps114])|(refine zm mixed (by kernel_rfl) fun K hK=>?_;simp (disch:=omega) [go_sem, *])|(refine Z4 (by simp[go_sem]) (by simp (disch:=omega) [go_sem, *,zP];first | exact rfl | exact⟨rfl,rfl,rfl⟩ | exact (kk.out _ (by omega)).gcall ⟨rfl,rfl,rfl⟩) ?_;try simp only[zU])|(refine ZH ?_)|(apply zC.out hK;clear hK K;try with_reducible dsimp only[zG])|(apply zC.out ht;clear ht hf Kt Kf)|(with_reducible refine APureAt.gcall (kk.out _ (by omega)) ?_;try simp (disch:=omega) [go_sem, *])|(refine zH fun Kt Kf ht hf=>?_;simp (disch:=omega) [go_sem, *];try (refine⟨fun hc=>?_,fun hc=>?_⟩ <;> try (exfalso;omega))))
   exact zR
  ·rw[if_neg h3]
   have m3:(t.kind == 3)=false:=by simpa using h3
   repeat' (first|(refine zF fun K hK=>?_)|(refine zA fun K hK=>?_;simp (disch:=omega) [go_sem, *,Tryz.ntmps114])|(apply zC.out hK;clear hK K;try with_reducible dsimp only[zG])|(apply zC.out hf;clear ht hf Kt Kf)|(with_reducible refine APureAt.gcall (kk.out _ (by omega)) ?_;try simp (disch:=omega) [go_sem, *])|(refine zL ?_;simp only[zG])|(refine zH fun Kt Kf ht hf=>?_;simp (disch:=omega) [go_sem, *];try (refine⟨fun hc=>?_,fun hc=>?_⟩ <;> try (exfalso;omega))))
   exact zR
 ·have hn:T[p]? = none:=List.getElem?_eq_none (by omega)
  have e1:JJ T p=0:=by rw[JJ,hn]
  rw[e1] at kk
  rw[Zm,hn]
  simp only
  replace s2:zC _:=s2
  replace kk:zC _:=kk
  clear hn e1
  repeat' (first|(refine zF fun K hK=>?_)|(refine zA fun K hK=>?_;simp (disch:=omega) [go_sem, *,Tryz.ntmps114])|(apply zC.out hK;clear hK K;try with_reducible dsimp only[zG])|(apply zC.out hf;clear ht hf Kt Kf)|(with_reducible refine APureAt.gcall (kk.out _ (by omega)) ?_;try simp (disch:=omega) [go_sem, *])|(refine zL ?_;simp only[zG])|(refine zH fun Kt Kf ht hf=>?_;simp (disch:=omega) [go_sem, *];try (refine⟨fun hc=>?_,fun hc=>?_⟩ <;> try (exfalso;omega))))
  exact zR
theorem zh {P:Program} {v:Value} {fl:Nat} {Q:Exit→St→Prop} {st:St} {id:Nat} {ops:Array Oper} (k:Nat) {o:Oper} (KP:zI→Nat→Prop) (hk:ops[k]? = some o)
  (hQ:∀s,fl≤s.n→KP s.h s.n→Q (.panic (pnc v)) s)
  (h:∀K:St→Prop,zC (∀s,ZW P v o s.s s.h s.n KP→K s)→Jb P ops st.n K 0 (ops.toList.take k) {st with n:=st.n + ops.size}):ze P fl (.region id ops false) Q st:=
 ac_pan k KP hk hQ (h _ fun _ h=>h)
theorem j7 {o:Oper} {s:List (Nat × AV)} {h:zI} {n:Nat} {KP:zI→Nat→Prop} {x:Operand} (hg:o.guard=none) (ho:o.op=.panic x) (hx:ev s x=.iface 189 (.agg [])) (hk:KP h n):ZW Tryz.prog zW o s h n KP:=
 ⟨hg,.inr ⟨x,_,_,ho,rfl,fun G z hz=>by
   rw[hx] at hz
   simp only[Rv,RvL] at hz
   obtain⟨y,rfl,vs,rfl,h0⟩:=hz
   have:vs = #[]:=by apply Array.ext';simpa using h0
   subst this;rfl,hk⟩⟩
theorem zj {o:Oper} {s:List (Nat × AV)} {h:zI} {n:Nat} {KP:zI→Nat→Prop} {f:Operand} {args:List Operand} {g:FuncId} (hg:o.guard=none) (ho:Zo o.op=some (f,args)) (hf:ev s f=.func (.func g) [] []) {L:List AV} (hL:args.map (ev s)=L) (hk:PCall Tryz.prog zW g L h n KP):ZW Tryz.prog zW o s h n KP:=
 ⟨hg,.inl ⟨f,args,g,[],[],ho,hf,by rw[List.nil_append,List.append_nil,hL];exact hk⟩⟩
theorem is_yes {T:List Tk} {nl fu:Bool} {z:Nat} {H:zI} {o p n:Nat} (S:PSt T nl fu z H o p) (hon:o < n) {w:ByteArray} (hw:isM T p w=true):ATurn Tryz.prog 112 [.ptr o 0,sv w] H n (bv true) (H.upd o (some (atO T nl fu z (p + 1)))):=by
 have kt:=fun m (hm:n≤m)=>text_spec (n:=m) S (by omega)
 have hw2:((Zm T p).toList == w.toList)=true:=hw
 obtain⟨s1,s2,s3,s4,s5⟩:=S
 refine zQ.entry (by kernel_rfl) fun hb _=>?_
 refine zQ.keep (H.upd o (some (atO T nl fu z (p + 1)))) (hb.set hon JF) (za Tryz.func112 rfl (by kernel_rfl) (by simp[Tryz.ntmps112]) ?_)
 have hh:H.upd o (some (.cells [.fslc nl fu z (T.map tkP),iv .i64 ((p:Int) + 1)]))=H.upd o (some (atO T nl fu z (p + 1))):=by rw[atO];push_cast;rfl
 generalize H.upd o (some (atO T nl fu z (p + 1)))=H' at *
 generalize Zm T p=X at *
 generalize T.map tkP=L at *
 replace kt:zC _:=kt
 replace s5:zC _:=s5
 replace s2:zC _:=s2
 replace hh:zC _:=hh
 clear hw
 repeat' (first|(refine zF fun K hK=>?_)|(refine zA fun K hK=>?_;simp (disch:=omega) [go_sem, *,zM,Tryz.ntmps112])|(apply zC.out hK;clear hK K;try with_reducible dsimp only[zG])|(apply zC.out ht;clear ht hf Kt Kf)|(with_reducible refine APureAt.gcall (kt.out _ (by omega)) ?_;try simp (disch:=omega) [go_sem, *])|(refine zH fun Kt Kf ht hf=>?_;simp (disch:=omega) [go_sem, *];try (refine⟨fun hc=>?_,fun hc=>?_⟩ <;> try (exfalso;omega))))
 refine zb ?_
 try dsimp only[zG,zN]
 refine⟨by simp,_,rfl,?_⟩
 exact zY ⟨fun k hk=>by rw[hh.out],trivial,rfl,rfl,rfl⟩
theorem is_no {T:List Tk} {nl fu:Bool} {z:Nat} {H:zI} {o p n:Nat} (S:PSt T nl fu z H o p) (hon:o < n) {w:ByteArray} (hw:isM T p w=false):APureAt Tryz.prog 112 [.ptr o 0,sv w] H n (bv false):=by
 have kt:=fun m (hm:n≤m)=>text_spec (n:=m) S (by omega)
 have hw2:((Zm T p).toList == w.toList)=false:=hw
 refine zQ.pure (zQ.entry (by kernel_rfl) fun hb _=>za Tryz.func112 rfl (by kernel_rfl) (by simp[Tryz.ntmps112]) ?_)
 generalize Zm T p=X at *
 replace kt:zC _:=kt
 clear hw S
 repeat' (first|(refine zF fun K hK=>?_)|(refine zA fun K hK=>?_;simp (disch:=omega) [go_sem, *,Tryz.ntmps112])|(apply zC.out hK;clear hK K;try with_reducible dsimp only[zG])|(apply zC.out hf;clear ht hf Kt Kf)|(with_reducible refine APureAt.gcall (kt.out _ (by omega)) ?_;try simp (disch:=omega) [go_sem, *])|(refine zL ?_;simp only[zG])|(refine zH fun Kt Kf ht hf=>?_;simp (disch:=omega) [go_sem, *];try (refine⟨fun hc=>?_,fun hc=>?_⟩ <;> try (exfalso;omega))))
 exact zR
theorem must_bad {T:List Tk} {nl fu:Bool} {z:Nat} {H:zI} {o p n:Nat} (S:PSt T nl fu z H o p) (hon:o < n) {w:ByteArray} (hw:isM T p w=false):PCall Tryz.prog zW 178 [.ptr o 0,sv w] H n (fun h' _n'=>PErr T nl fu z o p H n h'):=by
 have ki:=fun m (hm:n≤m)=>is_no (n:=m) S (by omega) hw
 refine Jd Tryz.func178 rfl (by kernel_rfl) (by simp[Tryz.ntmps178]) ?_
 replace ki:zC _:=ki
 have hmk:Jq Tryz.prog 189 (.agg [])=some (.iface 189 (.agg [])):=by unfold Jq;rw[if_pos (by kernel_rfl)]
 iterate 7 (first|(refine zF fun K hK=>?_)|(refine zA fun K hK=>?_;simp (disch:=omega) [go_sem, *,Tryz.ntmps178])|(apply zC.out hK;clear hK K;try with_reducible dsimp only[zG])|(apply zC.out ht;clear ht hf Kt Kf)|(with_reducible refine APureAt.gcall (ki.out _ (by omega)) ?_;try simp (disch:=omega) [go_sem, *])|(refine zH fun Kt Kf ht hf=>?_;simp (disch:=omega) [go_sem, *];try (refine⟨fun hc=>?_,fun hc=>?_⟩ <;> try (exfalso;omega))))
 refine zh (v:=zW) 2 (fun h' n'=>PErr T nl fu z o p H n h') rfl (fun s _ hk=>⟨rfl,hk⟩) fun K hK=>?_
 simp[go_sem,hmk]
 refine hK.out _ ?_
 exact j7 rfl rfl rfl ⟨S.at_,fun _ _ _=>rfl⟩
end Go.AM
namespace Go.AM
open Go.Proofs Cw Du
set_option maxRecDepth 10000
set_option maxHeartbeats 4000000
theorem PErr.back {T:List Tk} {nl fu:Bool} {z o k n n1:Nat} {H H1 h':zI} (e:PErr T nl fu z o k H1 n1 h') (hn:n≤n1) (hs:∀x,x < n→x≠o→H1 x=H x):PErr T nl fu z o k H n h':=
 ⟨e.1,fun x hx hne=>(e.2 x (by omega) hne).trans (hs x hx hne)⟩
theorem hmkF:Jq Tryz.prog 189 (.agg [])=some (.iface 189 (.agg [])):=by unfold Jq;rw[if_pos (by kernel_rfl)]
theorem must_ok {T:List Tk} {nl fu:Bool} {z:Nat} {H:zI} {o p n:Nat} (S:PSt T nl fu z H o p) (hon:o < n) {w:ByteArray} (hw:isM T p w=true):ATurn Tryz.prog 178 [.ptr o 0,sv w] H n (.tup []) (H.upd o (some (atO T nl fu z (p + 1)))):=by
 have ki:=fun m (hm:n≤m)=>is_yes (n:=m) S (by omega) hw
 refine zQ.entry (by kernel_rfl) fun hb _=>?_
 refine zQ.keep (H.upd o (some (atO T nl fu z (p + 1)))) (hb.set hon JF) (za Tryz.func178 rfl (by kernel_rfl) (by simp[Tryz.ntmps178]) ?_)
 replace ki:zC _:=ki
 generalize H.upd o (some (atO T nl fu z (p + 1)))=H' at *
 repeat' (first|(refine zF fun K hK=>?_)|(refine zA fun K hK=>?_;simp (disch:=omega) [go_sem, *,Tryz.ntmps178])|(apply zC.out hK;clear hK K;try with_reducible dsimp only[zG])|(apply zC.out hf;clear ht hf Kt Kf)|(with_reducible refine ATurn.gcall (ki.out _ (by omega)) ?_;try simp (disch:=omega) [go_sem, *])|(refine zL ?_;simp only)|(refine zH fun Kt Kf ht hf=>?_;simp (disch:=omega) [go_sem, *];try (refine⟨fun hc=>?_,fun hc=>?_⟩ <;> try (exfalso;omega))))
 exact⟨.inl trivial,_,rfl,zY ⟨fun k hk=>rfl,trivial,rfl,trivial,trivial⟩⟩
theorem name_bad {T:List Tk} {nl fu:Bool} {z:Nat} {H:zI} {o p n:Nat} (S:PSt T nl fu z H o p) (hon:o < n) {k:Nat} (hw:Zu T p=.error k):PCall Tryz.prog zW 177 [.ptr o 0] H n (fun h' _n'=>PErr T nl fu z o p H n h'):=by
 have ki:=fun m (hm:n≤m)=>qc (n:=m) S (by omega)
 have h1:(JJ T p != 1)=true:=by
  unfold Zu at hw;unfold JJ
  cases h:T[p]? with
  | none=>rfl
  | some t=>
   rw[h] at hw
   simp only at hw
   by_cases h2:t.kind=1
   ·rw[if_pos h2] at hw;cases hw
   ·simpa using h2
 generalize JJ T p=X at *
 refine Jd Tryz.func177 rfl (by kernel_rfl) (by simp[Tryz.ntmps177]) ?_
 replace ki:zC _:=ki
 have hmk:=hmkF
 repeat' (first|((with_reducible show ZW _ _ _ _ _ _ _);(try dsimp only);exact j7 rfl rfl rfl ⟨S.at_,fun _ _ _=>rfl⟩)|(refine zh (id:=2) (v:=zW) 2 (fun h' n'=>PErr T nl fu z o p H n h') rfl (fun s _ hk=>⟨rfl,hk⟩) fun K hK=>?_;simp (disch:=omega) [go_sem, *])|(refine zF fun K hK=>?_)|(refine zA fun K hK=>?_;simp (disch:=omega) [go_sem, *,Tryz.ntmps177])|(apply zC.out hK;clear hK K;try with_reducible dsimp only[zG])|(apply zC.out ht;clear ht hf Kt Kf)|(with_reducible refine APureAt.gcall (ki.out _ (by omega)) ?_;try simp (disch:=omega) [go_sem, *,])|(refine zH fun Kt Kf ht hf=>?_;simp (disch:=omega) [go_sem, *,];try (refine⟨fun hc=>?_,fun hc=>?_⟩ <;> try (exfalso;omega))))
theorem jv {T:List Tk} {p q:Nat} {x:ByteArray} (hw:Zu T p=.ok (x,q)):∃t,p < T.length∧T[p]? = some t∧t.kind=1∧t.text=x∧q=p + 1:=by
 unfold Zu at hw
 cases h:T[p]? with
 | none=>rw[h] at hw;cases hw
 | some t=>
  rw[h] at hw
  simp only at hw
  by_cases h2:t.kind=1
  ·rw[if_pos h2] at hw
   cases hw
   exact⟨t,(List.getElem?_eq_some_iff.1 h).1,rfl,h2,rfl,rfl⟩
  ·rw[if_neg h2] at hw;cases hw
theorem name_ok {T:List Tk} {nl fu:Bool} {z:Nat} {H:zI} {o p n:Nat} (S:PSt T nl fu z H o p) (hon:o < n) {x:ByteArray} {q:Nat} (hw:Zu T p=.ok (x,q)):ATurn Tryz.prog 177 [.ptr o 0] H n (sv x) (H.upd o (some (atO T nl fu z q))):=by
 obtain⟨t,hp,ht,h1,h2,rfl⟩:=jv hw
 have ki:=fun m (hm:n≤m)=>qc (n:=m) S (by omega)
 have e1:JJ T p=1:=by unfold JJ;rw[ht];exact h1
 have hex:tkP T[p]=.agg [iv .i64 t.kind,sv x,iv .i64 t.pos]:=by
  have:T[p]=t:=by rw[List.getElem?_eq_getElem hp] at ht;exact Option.some.inj ht
  rw[this,←h2];rfl
 have hne:T≠[]:=fun e=>by rw[e] at hp;simp at hp
 have hlen:(T.map tkP).length=T.length:=List.length_map _
 have hl:=S.len
 have s1:=S.at_
 obtain⟨rfl,rfl⟩:=S.fl.resolve_left hne
 have hh:H.upd o (some (.cells [.fslc false fu 3 (T.map tkP),iv .i64 ((p:Int) + 1)]))=H.upd o (some (atO T false fu 3 (p + 1))):=by rw[atO];push_cast;rfl
 rw[e1] at ki
 refine zQ.entry (by kernel_rfl) fun hb _=>?_
 refine zQ.keep (H.upd o (some (atO T false fu 3 (p + 1)))) (hb.set hon JF) (za Tryz.func177 rfl (by kernel_rfl) (by simp[Tryz.ntmps177]) ?_)
 generalize H.upd o (some (atO T false fu 3 (p + 1)))=H' at *
 replace ki:zC _:=ki
 replace hh:zC _:=hh
 clear hw ht hne S h1
 repeat' (first|(refine zF fun K hK=>?_)|(refine zA fun K hK=>?_;simp (disch:=omega) [go_sem, *,zM,Tryz.ntmps177])|(refine zm mixed (by kernel_rfl) fun K hK=>?_;simp (disch:=omega) [go_sem, *])|(refine Z4 (by simp[go_sem]) (by simp (disch:=omega) [go_sem, *,zM,zP];first | exact rfl | exact⟨rfl,rfl,rfl⟩ | exact (ki.out _ (by omega)).gcall ⟨rfl,rfl,rfl⟩) ?_;try simp only[zU])|(refine ZH ?_)|(apply zC.out hK;clear hK K;try with_reducible dsimp only[zG])|(apply zC.out hf;clear ht hf Kt Kf)|(with_reducible refine APureAt.gcall (ki.out _ (by omega)) ?_;try simp (disch:=omega) [go_sem, *])|(refine zL ?_;simp only[zG])|(refine zH fun Kt Kf ht hf=>?_;simp (disch:=omega) [go_sem, *];try (refine⟨fun hc=>?_,fun hc=>?_⟩ <;> try (exfalso;omega))))
 refine zb ?_
 try dsimp only[zG,zN]
 exact⟨by simp,_,rfl,zY ⟨fun k hk=>by rw[hh.out],trivial,rfl,rfl,rfl⟩⟩
theorem number_bad {T:List Tk} {nl fu:Bool} {z:Nat} {H:zI} {o p n:Nat} (S:PSt T nl fu z H o p) (hon:o < n) {k:Nat} (hw:jc T p=.error k):PCall Tryz.prog zW 180 [.ptr o 0] H n (fun h' _n'=>PErr T nl fu z o p H n h'):=by
 have ki:=fun m (hm:n≤m)=>qc (n:=m) S (by omega)
 have h1:(JJ T p != 2)=true:=by
  unfold jc at hw;unfold JJ
  cases h:T[p]? with
  | none=>rfl
  | some t=>
   rw[h] at hw
   simp only at hw
   by_cases h2:t.kind=2
   ·rw[if_pos h2] at hw;cases hw
   ·simpa using h2
 generalize JJ T p=X at *
 refine Jd Tryz.func180 rfl (by kernel_rfl) (by simp[Tryz.ntmps180]) ?_
 replace ki:zC _:=ki
 have hmk:=hmkF
 repeat' (first|((with_reducible show ZW _ _ _ _ _ _ _);(try dsimp only);exact j7 rfl rfl rfl ⟨S.at_,fun _ _ _=>rfl⟩)|(refine zh (id:=2) (v:=zW) 2 (fun h' n'=>PErr T nl fu z o p H n h') rfl (fun s _ hk=>⟨rfl,hk⟩) fun K hK=>?_;simp (disch:=omega) [go_sem, *])|(refine zF fun K hK=>?_)|(refine zA fun K hK=>?_;simp (disch:=omega) [go_sem, *,Tryz.ntmps180])|(apply zC.out hK;clear hK K;try with_reducible dsimp only[zG])|(apply zC.out ht;clear ht hf Kt Kf)|(with_reducible refine APureAt.gcall (ki.out _ (by omega)) ?_;try simp (disch:=omega) [go_sem, *,])|(refine zH fun Kt Kf ht hf=>?_;simp (disch:=omega) [go_sem, *,];try (refine⟨fun hc=>?_,fun hc=>?_⟩ <;> try (exfalso;omega))))
theorem number_at {T:List Tk} {p q:Nat} {x:Int} (hw:jc T p=.ok (x,q)):∃t,p < T.length∧T[p]? = some t∧t.kind=2∧(t.val:Int)=x∧q=p + 1:=by
 unfold jc at hw
 cases h:T[p]? with
 | none=>rw[h] at hw;cases hw
 | some t=>
  rw[h] at hw
  simp only at hw
  by_cases h2:t.kind=2
  ·rw[if_pos h2] at hw
   cases hw
   exact⟨t,(List.getElem?_eq_some_iff.1 h).1,rfl,h2,rfl,rfl⟩
  ·rw[if_neg h2] at hw;cases hw
theorem number_ok {T:List Tk} {nl fu:Bool} {z:Nat} {H:zI} {o p n:Nat} (S:PSt T nl fu z H o p) (hon:o < n) {x:Int} {q:Nat} (hw:jc T p=.ok (x,q)):ATurn Tryz.prog 180 [.ptr o 0] H n (iv .i64 x) (H.upd o (some (atO T nl fu z q))):=by
 obtain⟨t,hp,ht,h1,h2,rfl⟩:=number_at hw
 have ki:=fun m (hm:n≤m)=>qc (n:=m) S (by omega)
 have e1:JJ T p=2:=by unfold JJ;rw[ht];exact h1
 have hex:tkP T[p]=.agg [iv .i64 t.kind,sv t.text,iv .i64 t.pos]:=by
  have:T[p]=t:=by rw[List.getElem?_eq_getElem hp] at ht;exact Option.some.inj ht
  rw[this];rfl
 have hne:T≠[]:=fun e=>by rw[e] at hp;simp at hp
 have hlen:(T.map tkP).length=T.length:=List.length_map _
 have hl:=S.len
 have s1:=S.at_
 obtain⟨rfl,rfl⟩:=S.fl.resolve_left hne
 have hh:H.upd o (some (.cells [.fslc false fu 3 (T.map tkP),iv .i64 ((p:Int) + 1)]))=H.upd o (some (atO T false fu 3 (p + 1))):=by rw[atO];push_cast;rfl
 rw[e1] at ki
 have ok:=S.tok t (List.mem_of_getElem? ht)
 have ka:=atoi_ok t.text ok.1 _ (ok.2 h1).1
 rw[h2] at ka
 clear ok
 refine zQ.entry (by kernel_rfl) fun hb _=>?_
 refine zQ.keep (H.upd o (some (atO T false fu 3 (p + 1)))) (hb.set hon JF) (za Tryz.func180 rfl (by kernel_rfl) (by simp[Tryz.ntmps180]) ?_)
 generalize H.upd o (some (atO T false fu 3 (p + 1)))=H' at *
 replace ki:zC _:=ki
 replace hh:zC _:=hh
 clear hw ht hne S h1
 repeat' (first|(refine zF fun K hK=>?_)|(refine zA fun K hK=>?_;simp (disch:=omega) [go_sem, *,zM,Tryz.ntmps180])|(refine zm mixed (by kernel_rfl) fun K hK=>?_;simp (disch:=omega) [go_sem, *])|(refine Z4 (by simp[go_sem]) (by simp (disch:=omega) [go_sem, *,zM,zP];first | exact rfl | exact⟨rfl,rfl,rfl⟩ | exact (ki.out _ (by omega)).gcall ⟨rfl,rfl,rfl⟩ | exact (ka).gcall ⟨rfl,rfl,rfl⟩) ?_;try simp only[zU])|(refine ZH ?_)|(apply zC.out hK;clear hK K;try with_reducible dsimp only[zG])|(apply zC.out hf;clear ht hf Kt Kf)|(with_reducible refine APureAt.gcall (ki.out _ (by omega)) ?_;try simp (disch:=omega) [go_sem, *])|(refine zL ?_;simp only[zG])|(refine zH fun Kt Kf ht hf=>?_;simp (disch:=omega) [go_sem, *];try (refine⟨fun hc=>?_,fun hc=>?_⟩ <;> try (exfalso;omega))))
 refine zb ?_
 try dsimp only[zG,zN]
 exact⟨by simp,_,rfl,zY ⟨fun k hk=>by rw[hh.out],trivial,rfl,rfl,rfl⟩⟩
end Go.AM
namespace Go.AM
open Go.Proofs Cw Du
set_option maxRecDepth 10000
set_option maxHeartbeats 4000000
abbrev wOn:ByteArray:=⟨#[111,110]⟩
abbrev JN:ByteArray:=⟨#[102,114,111,109]⟩
abbrev wTo:ByteArray:=⟨#[116,111]⟩
abbrev JE:ByteArray:=⟨#[101,118,101,114,121]⟩
abbrev Z1:ByteArray:=⟨#[101,120,99,101,112,116]⟩
abbrev JD:ByteArray:=⟨#[44]⟩
abbrev Zv:ByteArray:=⟨#[59]⟩
abbrev wBy:ByteArray:=⟨#[98,121]⟩
def qI (T:List Tk) (f t:Int) (p:Nat):PR (Int × Int × Int):=
 if isM T p JE then (match jc T (p + 1) with | .ok (e,q)=>.ok ((f,t,e),q)|.error k=>.error k) else .ok ((f,t,1),p)
def toM (T:List Tk) (f:Int) (p:Nat):PR (Int × Int × Int):=
 if isM T p wTo then (match jc T (p + 1) with | .ok (t,q)=>qI T f t q | .error k=>.error k) else .error p
def jn (T:List Tk) (p:Nat):PR (Int × Int × Int):=
 if isM T p wOn then (match jc T (p + 1) with | .ok (f,q)=>.ok ((f,f,1),q)|.error k=>.error k)
 else if isM T p JN then (match jc T (p + 1) with | .ok (f,q)=>toM T f q | .error k=>.error k) else .error p
def exM (T:List Tk):Nat→Nat→List Int→PR (List Int)
 | 0,p,a=>.ok (a,p)
 | f + 1,p,a=>if isM T p JD then (match jc T (p + 1) with | .ok (d,q)=>exM T f q (a ++ [d])|.error k=>.error k) else .ok (a,p)
def QB (T:List Tk) (p:Nat):PR (List Int):=
 if isM T p Z1 then (match jc T (p + 1) with | .ok (d,q)=>exM T (T.length - q) q [d] | .error k=>.error k) else .ok ([],p)
def ZZ (T:List Tk) (p:Nat):PR ((Int × Int × Int) × List Int):=match jn T p with
 | .error k=>.error k
 | .ok (x,q)=>match QB T q with
  | .error k=>.error k
  | .ok (e,r)=>if isM T r Zv then .ok ((x,e),r + 1) else .error r
theorem Qs {T:List Tk} {p:Nat} (h:T.length≤p):Zm T p=⟨#[]⟩:=by unfold Zm;rw[List.getElem?_eq_none h]
theorem jF {T:List Tk} {p:Nat} {w:ByteArray} (hw:0 < w.size) (h:isM T p w=true):p < T.length:=by
 refine Nat.lt_of_not_le fun hn=>?_
 rw[isM,Qs hn] at h
 have:(⟨#[]⟩:ByteArray)=w:=(Qk _ _).1 h
 subst this
 exact absurd hw (by decide)
theorem Zf {T:List Tk} {p q:Nat} {x:Int} (h:jc T p=.ok (x,q)):q=p + 1∧p < T.length:=by
 obtain⟨t,h1,_,_,_,h2⟩:=number_at h
 exact⟨h2,h1⟩
theorem JO {T:List Tk} {p k:Nat} (h:jc T p=.error k):k=p:=by
 unfold jc at h
 cases ht:T[p]? with
 | none=>rw[ht] at h;cases h;rfl
 | some t=>
  rw[ht] at h
  simp only at h
  by_cases h2:t.kind=2
  ·rw[if_pos h2] at h;cases h
  ·rw[if_neg h2] at h;cases h;rfl
theorem j9 {T:List Tk} {p k:Nat} (h:Zu T p=.error k):k=p:=by
 unfold Zu at h
 cases ht:T[p]? with
 | none=>rw[ht] at h;cases h;rfl
 | some t=>
  rw[ht] at h
  simp only at h
  by_cases h2:t.kind=1
  ·rw[if_pos h2] at h;cases h
  ·rw[if_neg h2] at h;cases h;rfl
def EndQ {α:Type} (fn:Func) (T:List Tk) (nl fu:Bool) (z:Nat) (H:zI) (o n:Nat) (R:PR α) (V:α→AV) (e:Exit) (st:St):Prop:=
 (∀x q,R=.ok (x,q)→(e=.normal∨e=.ret)∧∃xs,j5 Tryz.prog st.s st.h fn.results.toList=some xs∧Zg n (fun v h' _=>(∀k,k < n→h' k=H.upd o (some (atO T nl fu z q)) k)∧AM.below n v∧v=V x) (zr xs) st.h st.n)∧
 (∀k,R=.error k→e=.panic (pnc zW)∧PErr T nl fu z o k H n st.h)
theorem EndQ.panic {α:Type} {fn:Func} {T:List Tk} {nl fu:Bool} {z:Nat} {H:zI} {o n:Nat} {R:PR α} {V:α→AV} {st:St} {k:Nat} (hR:R=.error k) (hk:PErr T nl fu z o k H n st.h):EndQ fn T nl fu z H o n R V (.panic (pnc zW)) st:=
 ⟨fun _ _ e=>(by rw[hR] at e;cases e),fun k' e=>by rw[hR] at e;cases e;exact⟨rfl,hk⟩⟩
theorem EndQ.ret {α:Type} {fn:Func} {T:List Tk} {nl fu:Bool} {z:Nat} {H:zI} {o n:Nat} {R:PR α} {V:α→AV} {st:St} {e:Exit} {x:α} {q:Nat} (hR:R=.ok (x,q)) (he:e=.normal∨e=.ret) {xs:List AV} (hx:j5 Tryz.prog st.s st.h fn.results.toList=some xs)
  (hr:Zg n (fun v h' _=>(∀k,k < n→h' k=H.upd o (some (atO T nl fu z q)) k)∧AM.below n v∧v=V x) (zr xs) st.h st.n):EndQ fn T nl fu z H o n R V e st:=
 ⟨fun x' q' e'=>(by rw[hR] at e';cases e';exact⟨he,xs,hx,hr⟩),fun _ e'=>by rw[hR] at e';cases e'⟩
theorem ZX {α:Type} {f:FuncId} {fn:Func} {c:Code} {args:List AV} {T:List Tk} {nl fu:Bool} {z:Nat} {H:zI} {o n:Nat} {R:PR α} {V:α→AV} {x:α} {q:Nat} (hR:R=.ok (x,q)) (hon:o < n)
  (hf:Tryz.prog.funcs[f]? = some fn) (hb:fn.body=some c) (hgo:JZ Tryz.prog f=true) (hlen:args.length≤fn.ntmps)
  (hc:HB H n→ze Tryz.prog n c (EndQ fn T nl fu z H o n R V) {nt:=fn.ntmps,s:=zu 0 args,h:=H,n}):ATurn Tryz.prog f args H n (V x) (H.upd o (some (atO T nl fu z q))):=
 zQ.entry hgo fun hB _=>zQ.keep _ (hB.set hon JF) <| za hf hb hgo hlen <| qx (hc hB) fun e s h=>by
  obtain⟨h1,xs,h2,h3⟩:=h.1 x q hR
  exact⟨s,⟨rfl,rfl,fun _=>.inr rfl,fun _ _ e=>e⟩,h1,xs,h2,(by obtain⟨a,b,c,d,e1,e2,e3⟩:=h3;exact⟨a,b,c,d,e1,e2,e3,rfl,rfl⟩)⟩
theorem ZN {α:Type} {f:FuncId} {fn:Func} {c:Code} {args:List AV} {T:List Tk} {nl fu:Bool} {z:Nat} {H:zI} {o n:Nat} {R:PR α} {V:α→AV} {k:Nat} (hR:R=.error k)
  (hf:Tryz.prog.funcs[f]? = some fn) (hb:fn.body=some c) (hgo:JZ Tryz.prog f=true) (hlen:args.length≤fn.ntmps)
  (hc:HB H n→ze Tryz.prog n c (EndQ fn T nl fu z H o n R V) {nt:=fn.ntmps,s:=zu 0 args,h:=H,n}):PCall Tryz.prog zW f args H n (fun h' _=>PErr T nl fu z o k H n h'):=
 ⟨hgo,fun w0 G w vs I hfr hr=>(Jd (KP:=fun h' _=>PErr T nl fu z o k H n h') hf hb hgo hlen <| qx (hc (I.HB hfr)) fun _ s h=>⟨s,⟨rfl,rfl,fun _=>.inr rfl,fun _ _ e=>e⟩,h.2 k hR⟩).2 w0 G w vs I hfr hr⟩
theorem PSt.on {T:List Tk} {nl fu:Bool} {z:Nat} {H:zI} {o p:Nat} (S:PSt T nl fu z H o p) {H':zI} {q:Nat} (h:H' o=some (atO T nl fu z q)) (hq:q≤T.length):PSt T nl fu z H' o q:=
 ⟨h,S.fl,S.len,hq,S.tok⟩
section
variable {P : Program} {ops : Array Oper} {v : Value} {k : Nat} {Bd : List Nat} {KP : zI → Nat → Prop} {base nt n : Nat} {h : zI}
theorem aQP_e {i:Nat} {s:List (Nat × AV)}:aQP P v ops k Bd KP base nt h n i [] s:=by unfold aQP;trivial
theorem aQP_p {i:Nat} {o:Oper} {r:List Oper} {s:List (Nat × AV)} (hi:i=k) (hp:ZW P v o s h n KP) (hr:aQP P v ops k Bd KP base nt h n (i + 1) r (pS o.dst .undef s)):aQP P v ops k Bd KP base nt h n i (o :: r) s:=.inl ⟨hi,hp,hr⟩
theorem aQP_b {i:Nat} {o:Oper} {r:List Oper} {s:List (Nat × AV)} (hi:i≠k) (hb:i ∈ Bd) (hr:aQP P v ops k Bd KP base nt h n (i + 1) r (pS o.dst .undef s)):aQP P v ops k Bd KP base nt h n i (o :: r) s:=.inr (.inl ⟨hi,hb,hr⟩)
theorem aQP_v {i:Nat} {o:Oper} {r:List Oper} {s:List (Nat × AV)} {x:AV} (hb:i ∉ Bd) (hd:Zh nt o.dst=true) (hx:Zx P ops (base + i) o s h n (fun x' h' n'=>x'=x∧h'=h∧n'=n)) (hr:aQP P v ops k Bd KP base nt h n (i + 1) r (pS o.dst x s)):aQP P v ops k Bd KP base nt h n i (o :: r) s:=.inr (.inr ⟨hb,hd,x,hx,hr⟩)
end
theorem fzT_int (m:Nat) (zs:List Int):fzT m (zs.map (iv .i64)) false (.slc m 0 zs.length 1)=.fslc false false 1 (zs.map (iv .i64)):=by
 have:JX false 1 zs.length (zs.map (iv .i64))=zs.map (iv .i64):=by
  clear m
  induction zs with
  | nil=>rfl
  | cons z r ih=>
   simp only[JX,chunk,List.map_cons,List.length_cons] at ih ⊢
   have e1:List.drop 1 (iv .i64 z :: List.map (iv .i64) r)=List.map (iv .i64) r:=rfl
   rw[e1,ih];rfl
 simp[fzT,fz,this]
theorem below_int (n:Nat) (zs:List Int):belowL n (zs.map (iv .i64)):=by
 induction zs with
 | nil=>simp[belowL]
 | cons z r ih=>simp only[List.map_cons,belowL,iv,below];exact⟨trivial,ih⟩
theorem ap_first {nm:Nat} {nl full:Bool} {d:Int} {h:zI}:Z6 Tryz.prog nm 70 (.fslc true true 0 []) (.fslc nl full 1 [iv .i64 d]) h=some (.slc nm 0 1 1,h.upd nm (some (.cells [iv .i64 d]))):=by
 simp[Z6,eltOf70,szOf3,byOf3,zerOf3,jd,cellsOf,AV.scalar,flat,iv]
theorem ap_next {nm m:Nat} {nl full:Bool} {c:List AV} {len:Nat} {d:Int} {h:zI} (hm:h m=some (.cells c)) (hc:c.length=len) (hl:len≤1000000):Z6 Tryz.prog nm 70 (.slc m 0 len 1) (.fslc nl full 1 [iv .i64 d]) h=some (.slc nm 0 (len + 1) 1,(h.upd m none).upd nm (some (.cells (c ++ [iv .i64 d])))):=by
 subst hc
 have h1:¬c.length + 1≤c.length:=by omega
 have h2:c.length + 1≤67108864:=by omega
 simp[Z6,eltOf70,szOf3,byOf3,zerOf3,jd,cellsOf,AV.scalar,hm,flat,iv,h1,h2]
end Go.AM
namespace Go.AM
open Go.Proofs Cw Du
set_option maxRecDepth 10000
set_option maxHeartbeats 4000000
abbrev wIf:ByteArray:=⟨#[105,102]⟩
abbrev Q6:ByteArray:=⟨#[114,97,110,107]⟩
abbrev Jx:ByteArray:=⟨#[111,114,100,101,114]⟩
abbrev Jp:ByteArray:=⟨#[119,97,116,99,104]⟩
abbrev wRest:ByteArray:=⟨#[114,101,115,116]⟩
abbrev Jc:ByteArray:=⟨#[99,97,110,99,101,108]⟩
abbrev wSwap:ByteArray:=⟨#[115,119,97,112]⟩
abbrev Q1:ByteArray:=⟨#[97,110,100]⟩
abbrev wOr:ByteArray:=⟨#[111,114]⟩
abbrev wNot:ByteArray:=⟨#[110,111,116]⟩
abbrev wOpen:ByteArray:=⟨#[40]⟩
abbrev qE:ByteArray:=⟨#[41]⟩
def J5:List ByteArray:=[⟨#[99,101,108,108]⟩,⟨#[115,101,101,110]⟩,⟨#[97,103,101]⟩,⟨#[104,111,117,114]⟩,⟨#[102,114,101,101]⟩]
def opsL:List ByteArray:=[⟨#[]⟩,⟨#[61]⟩,⟨#[33,61]⟩,⟨#[60]⟩,⟨#[60,61]⟩,⟨#[62]⟩,⟨#[62,61]⟩]
def factI (T:List Tk) (p:Nat):Int:=jV (Zm T p) J5 0
def opI (T:List Tk) (p:Nat):Int:=jV (Zm T p) opsL 0
abbrev cIs (f o n:Int):Cnd:=.mk 1 f o n true true 0 []
abbrev cNot (c:Cnd):Cnd:=.mk 2 0 0 0 false false 5 [c]
abbrev cAnd (c d:Cnd):Cnd:=.mk 3 0 0 0 false false 5 [c,d]
abbrev cOr (c d:Cnd):Cnd:=.mk 4 0 0 0 false false 5 [c,d]
def jz (T:List Tk) (p:Nat):PR Cnd:=
 if factI T p < 0 then .error p else if opI T (p + 1) < 1 then .error (p + 1) else match jc T (p + 2) with
  | .ok (n,q)=>.ok (cIs (factI T p) (opI T (p + 1)) n,q)
  | .error k=>.error k
inductive Md where
 | nt | an | anL (c:Cnd)|or | orL (c:Cnd)
def prM (T:List Tk):Nat→Md→Nat→PR Cnd
 | 0,_,p=>.error p
 | f + 1,.nt,p=>
  if isM T p wNot then (match prM T f .nt (p + 1) with | .ok (c,q)=>.ok (cNot c,q)|.error k=>.error k)
  else if isM T p wOpen then (match prM T f .or (p + 1) with | .ok (c,q)=>if isM T q qE then .ok (c,q + 1) else .error q | .error k=>.error k)
  else jz T p
 | f + 1,.an,p=>match prM T f .nt p with | .ok (c,q)=>prM T f (.anL c) q | .error k=>.error k
 | f + 1,.anL c,p=>if isM T p Q1 then (match prM T f .nt (p + 1) with | .ok (d,q)=>prM T f (.anL (cAnd c d)) q | .error k=>.error k) else .ok (c,p)
 | f + 1,.or,p=>match prM T f .an p with | .ok (c,q)=>prM T f (.orL c) q | .error k=>.error k
 | f + 1,.orL c,p=>if isM T p wOr then (match prM T f .an (p + 1) with | .ok (d,q)=>prM T f (.orL (cOr c d)) q | .error k=>.error k) else .ok (c,p)
theorem qH (T:List Tk) (f p:Nat):prM T (f + 1) .nt p=if isM T p wNot then (match prM T f .nt (p + 1) with | .ok (c,q)=>.ok (cNot c,q)|.error k=>.error k)
  else if isM T p wOpen then (match prM T f .or (p + 1) with | .ok (c,q)=>if isM T q qE then .ok (c,q + 1) else .error q | .error k=>.error k)
  else jz T p:=rfl
theorem prM_an (T:List Tk) (f p:Nat):prM T (f + 1) .an p=match prM T f .nt p with | .ok (c,q)=>prM T f (.anL c) q | .error k=>.error k:=rfl
theorem Qm (T:List Tk) (f p:Nat) (c:Cnd):prM T (f + 1) (.anL c) p=if isM T p Q1 then (match prM T f .nt (p + 1) with | .ok (d,q)=>prM T f (.anL (cAnd c d)) q | .error k=>.error k) else .ok (c,p):=rfl
theorem prM_or (T:List Tk) (f p:Nat):prM T (f + 1) .or p=match prM T f .an p with | .ok (c,q)=>prM T f (.orL c) q | .error k=>.error k:=rfl
theorem Ql (T:List Tk) (f p:Nat) (c:Cnd):prM T (f + 1) (.orL c) p=if isM T p wOr then (match prM T f .an (p + 1) with | .ok (d,q)=>prM T f (.orL (cOr c d)) q | .error k=>.error k) else .ok (c,p):=rfl
def bdM (T:List Tk) (p:Nat):Md→Nat
 | .nt=>4 * (T.length - p) + 1
 | .an=>4 * (T.length - p) + 2
 | .or=>4 * (T.length - p) + 3
 | .anL _=>4 * (T.length - p) + 1
 | .orL _=>4 * (T.length - p) + 1
theorem leafM_pos {T:List Tk} {p q:Nat} {c:Cnd} (h:jz T p=.ok (c,q)):p < q∧q≤T.length:=by
 unfold jz at h
 split at h
 ·cases h
 ·split at h
  ·cases h
  ·split at h
   ·rename_i n q' hn
    cases h
    obtain⟨h1,h2⟩:=Zf hn
    omega
   ·cases h
def ZY:Md→Nat
 | .nt=>1
 | .an=>1
 | .or=>1
 | _=>0
theorem Z2 (T:List Tk):∀(f:Nat) (md:Md) (p q:Nat) (c:Cnd),p≤T.length→prM T f md p=.ok (c,q)→p + ZY md≤q∧q≤T.length:=by
 intro f
 induction f with
 | zero=>intro md p q c hp h;cases h
 | succ f ih=>
  intro md p q c hp h
  have hl:∀w,0 < w.size→isM T p w=true→p < T.length:=fun w h1 h2=>jF h1 h2
  cases md with
  | nt=>
   simp only[prM] at h
   split at h
   ·rename_i h1
    have l1:=hl _ (by decide) h1
    split at h
    ·rename_i c' q' h2
     cases h
     have:=ih _ _ _ _ (by omega) h2
     simp only[ZY] at this ⊢;omega
    ·cases h
   ·split at h
    ·rename_i h1
     have l1:=hl _ (by decide) h1
     split at h
     ·rename_i c' q' h2
      have:=ih _ _ _ _ (by omega) h2
      split at h
      ·rename_i h3
       have:=jF (by decide) h3
       cases h
       simp only[ZY] at *;omega
      ·cases h
     ·cases h
    ·have:=leafM_pos h
     simp only[ZY];omega
  | an=>
   simp only[prM] at h
   split at h
   ·rename_i c' q' h2
    have a:=ih _ _ _ _ hp h2
    have b:=ih _ _ _ _ a.2 h
    simp only[ZY] at *;omega
   ·cases h
  | or=>
   simp only[prM] at h
   split at h
   ·rename_i c' q' h2
    have a:=ih _ _ _ _ hp h2
    have b:=ih _ _ _ _ a.2 h
    simp only[ZY] at *;omega
   ·cases h
  | anL d=>
   simp only[prM] at h
   split at h
   ·rename_i h1
    have l1:=hl _ (by decide) h1
    split at h
    ·rename_i c' q' h2
     have a:=ih _ _ _ _ (by omega) h2
     have b:=ih _ _ _ _ a.2 h
     simp only[ZY] at *;omega
    ·cases h
   ·cases h
    simp only[ZY];omega
  | orL d=>
   simp only[prM] at h
   split at h
   ·rename_i h1
    have l1:=hl _ (by decide) h1
    split at h
    ·rename_i c' q' h2
     have a:=ih _ _ _ _ (by omega) h2
     have b:=ih _ _ _ _ a.2 h
     simp only[ZY] at *;omega
    ·cases h
   ·cases h
    simp only[ZY];omega
theorem prM_more (T:List Tk):∀(f:Nat) (md:Md) (p:Nat),p≤T.length→bdM T p md≤f→prM T (f + 1) md p=prM T f md p:=by
 intro f
 induction f with
 | zero=>intro md p hp h;cases md <;> simp only[bdM] at h <;> omega
 | succ f ih=>
  intro md p hp h
  have hl:∀w,0 < w.size→isM T p w=true→p < T.length:=fun w h1 h2=>jF h1 h2
  have key:∀md',p < T.length→ZY md'=1→prM T (f + 1) md' (p + 1)=prM T f md' (p + 1):=by
   intro md' hlt hs
   refine ih md' (p + 1) (by omega) ?_
   cases md <;> cases md' <;> simp only[bdM,ZY] at * <;> omega
  have keyL:∀(md0:Md) (c:Cnd) (p0 q:Nat),p0≤T.length→ZY md0=1→p≤p0→(p < p0∨bdM T p md=bdM T p .an∨bdM T p md=bdM T p .or)→prM T f md0 p0=.ok (c,q)→prM T (f + 1) (.anL c) q=prM T f (.anL c) q∧prM T (f + 1) (.orL c) q=prM T f (.orL c) q:=by
   intro md0 c p0 q hp0 hs hpp hst hq
   have a:=Z2 T _ _ _ _ _ hp0 hq
   rw[hs] at a
   constructor
   ·refine ih _ _ a.2 ?_
    cases md <;> simp only[bdM] at * <;> omega
   ·refine ih _ _ a.2 ?_
    cases md <;> simp only[bdM] at * <;> omega
  cases md with
  | nt=>
   rw[qH T (f + 1) p,qH T f p]
   by_cases h1:isM T p wNot=true
   ·rw[if_pos h1,if_pos h1,key _ (hl _ (by decide) h1) rfl]
   ·rw[if_neg h1,if_neg h1]
    by_cases h2:isM T p wOpen=true
    ·rw[if_pos h2,if_pos h2,key _ (hl _ (by decide) h2) rfl]
    ·rw[if_neg h2,if_neg h2]
  | an=>
   rw[prM_an T (f + 1) p,prM_an T f p,ih .nt p hp (by simp only[bdM] at *;omega)]
   cases h2:prM T f .nt p with
   | error k=>rfl
   | ok x=>exact (keyL .nt x.1 p x.2 hp rfl (Nat.le_refl _) (.inr (.inl rfl)) (by rw[h2])).1
  | or=>
   rw[prM_or T (f + 1) p,prM_or T f p,ih .an p hp (by simp only[bdM] at *;omega)]
   cases h2:prM T f .an p with
   | error k=>rfl
   | ok x=>exact (keyL .an x.1 p x.2 hp rfl (Nat.le_refl _) (.inr (.inr rfl)) (by rw[h2])).2
  | anL d=>
   rw[Qm T (f + 1) p,Qm T f p]
   by_cases h1:isM T p Q1=true
   ·have l1:=hl _ (by decide) h1
    rw[if_pos h1,if_pos h1,key _ l1 rfl]
    cases h2:prM T f .nt (p + 1) with
    | error k=>rfl
    | ok x=>
     have a:=Z2 T _ _ _ _ x.1 (by omega) (by rw[h2]:prM T f .nt (p + 1)=.ok (x.1,x.2))
     simp only
     refine ih _ _ a.2 ?_
     simp only[bdM,ZY] at *;omega
   ·rw[if_neg h1,if_neg h1]
  | orL d=>
   rw[Ql T (f + 1) p,Ql T f p]
   by_cases h1:isM T p wOr=true
   ·have l1:=hl _ (by decide) h1
    rw[if_pos h1,if_pos h1,key _ l1 rfl]
    cases h2:prM T f .an (p + 1) with
    | error k=>rfl
    | ok x=>
     have a:=Z2 T _ _ _ _ x.1 (by omega) (by rw[h2]:prM T f .an (p + 1)=.ok (x.1,x.2))
     simp only
     refine ih _ _ a.2 ?_
     simp only[bdM,ZY] at *;omega
   ·rw[if_neg h1,if_neg h1]
def condM (T:List Tk) (p:Nat):PR Cnd:=prM T (4 * T.length + 4) .or p
def ZG (T:List Tk) (p:Nat):PR Ordr:=match Zu T p with
 | .error k=>.error k
 | .ok (a,q)=>match (if isM T q Q6 then jc T (q + 1) else .ok (0,q)) with
  | .error k=>.error k
  | .ok (r,q2)=>if isM T q2 wIf then (match condM T (q2 + 1) with
   | .error k=>.error k
   | .ok (c,q3)=>if isM T q3 Zv then .ok (⟨a,r,c⟩,q3 + 1) else .error q3) else .error q2
def mkLn (kd:Int) (tw pe ot:ByteArray) (x:(Int × Int × Int) × List Int):Lin:=
 if x.2=[] then ⟨kd,tw,pe,ot,x.1.1,x.1.2.1,x.1.2.2,true,true,0,[]⟩ else ⟨kd,tw,pe,ot,x.1.1,x.1.2.1,x.1.2.2,false,false,1,x.2⟩
def jM (T:List Tk) (p:Nat) (kd:Int) (tw pe ot:ByteArray):PR Lin:=match ZZ T p with
 | .ok (x,q)=>.ok (mkLn kd tw pe ot x,q)
 | .error k=>.error k
def JL (T:List Tk) (p:Nat):PR Lin:=match Zu T p with
 | .ok (a,q)=>jM T q 2 .empty a .empty
 | .error k=>.error k
def Zp (T:List Tk) (p:Nat):PR Lin:=match Zu T p with
 | .ok (a,q)=>jM T q 3 a .empty .empty
 | .error k=>.error k
def jt (T:List Tk) (p:Nat):PR Lin:=match Zu T p with
 | .ok (a,q)=>(match Zu T q with
  | .ok (b,r)=>jM T r 4 .empty a b
  | .error k=>.error k)
 | .error k=>.error k
def Zt (T:List Tk) (p:Nat):PR Lin:=match Zu T p with
 | .ok (a,q)=>if isM T q wBy then (match Zu T (q + 1) with
  | .ok (b,r)=>jM T r 1 a b .empty
  | .error k=>.error k) else .error q
 | .error k=>.error k
def ja (T:List Tk) (p:Nat):PR Lin:=
 if isM T p Jp then Zt T (p + 1) else if isM T p wRest then JL T (p + 1) else if isM T p Jc then Zp T (p + 1) else if isM T p wSwap then jt T (p + 1) else .error p
def Qa (T:List Tk):Nat→Nat→List Lin→List Ordr→Except Nat (List Lin × List Ordr)
 | 0,p,_,_=>.error p
 | f + 1,p,ls,os=>
  if T.length≤p then .ok (ls,os)
  else if isM T p Jx then (match ZG T (p + 1) with | .ok (o,q)=>Qa T f q ls (os ++ [o])|.error k=>.error k)
  else (match ja T p with | .ok (l,q)=>Qa T f q (ls ++ [l]) os | .error k=>.error k)
def posM (T:List Tk) (s:ByteArray) (k:Nat):Nat:=match T[k]? with
 | some t=>t.pos
 | none=>s.size
end Go.AM
