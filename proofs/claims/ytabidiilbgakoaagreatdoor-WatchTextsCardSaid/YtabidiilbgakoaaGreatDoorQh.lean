/- Parse and ParseCond, by the program. Conditions: as each theorem says. -/
import Derived.Test.YtabidiilbgakoaaGreatDoorQg
namespace Go.AM
open Go.Proofs Cw Du
set_option maxRecDepth 10000
def MdOk:Md→Prop
 | .anL c=>wf c
 | .orL c=>wf c
 | _=>True
def MdT:Md→Nat
 | .anL c=>tot c
 | .orL c=>tot c
 | _=>0
theorem leafM_wf {T:List Tk} {p q:Nat} {c:Cnd} (h:jz T p=.ok (c,q)):wf c∧tot c + p≤q:=by
 unfold jz at h
 split at h
 ·cases h
 ·split at h
  ·cases h
  ·split at h
   ·rename_i n q' hn
    cases h
    obtain⟨h1,h2⟩:=Zf hn
    refine⟨⟨.inl rfl,trivial⟩,?_⟩
    simp only[tot,totL];omega
   ·cases h
theorem prM_wf (T:List Tk):∀(f:Nat) (md:Md) (p q:Nat) (c:Cnd),MdOk md→prM T f md p=.ok (c,q)→wf c∧tot c + p≤q + MdT md:=by
 intro f
 induction f with
 | zero=>intro md p q c hm h;cases h
 | succ f ih=>
  intro md p q c hm h
  cases md with
  | nt=>
   rw[qH] at h
   split at h
   ·split at h
    ·rename_i c' q' h2
     cases h
     obtain⟨a,b⟩:=ih .nt _ _ _ trivial h2
     refine⟨⟨.inr ⟨rfl,rfl⟩,a,trivial⟩,?_⟩
     simp only[tot,totL,MdT] at *;omega
    ·cases h
   ·split at h
    ·split at h
     ·rename_i c' q' h2
      obtain⟨a,b⟩:=ih .or _ _ _ trivial h2
      split at h
      ·cases h
       refine⟨a,?_⟩
       simp only[MdT] at *;omega
      ·cases h
     ·cases h
    ·obtain⟨a,b⟩:=leafM_wf h
     exact⟨a,by simp only[MdT];omega⟩
  | an=>
   rw[prM_an] at h
   split at h
   ·rename_i c' q' h2
    obtain⟨a,b⟩:=ih .nt _ _ _ trivial h2
    obtain⟨a2,b2⟩:=ih (.anL c') _ _ _ a h
    refine⟨a2,?_⟩
    simp only[MdT] at *;omega
   ·cases h
  | or=>
   rw[prM_or] at h
   split at h
   ·rename_i c' q' h2
    obtain⟨a,b⟩:=ih .an _ _ _ trivial h2
    obtain⟨a2,b2⟩:=ih (.orL c') _ _ _ a h
    refine⟨a2,?_⟩
    simp only[MdT] at *;omega
   ·cases h
  | anL d=>
   rw[Qm] at h
   split at h
   ·split at h
    ·rename_i c' q' h2
     obtain⟨a,b⟩:=ih .nt _ _ _ trivial h2
     obtain⟨a2,b2⟩:=ih (.anL (cAnd d c')) _ _ _ ⟨.inr ⟨rfl,rfl⟩,hm,a,trivial⟩ h
     refine⟨a2,?_⟩
     simp only[MdT,tot,totL] at *;omega
    ·cases h
   ·cases h
    exact⟨hm,by simp only[MdT];omega⟩
  | orL d=>
   rw[Ql] at h
   split at h
   ·split at h
    ·rename_i c' q' h2
     obtain⟨a,b⟩:=ih .an _ _ _ trivial h2
     obtain⟨a2,b2⟩:=ih (.orL (cOr d c')) _ _ _ ⟨.inr ⟨rfl,rfl⟩,hm,a,trivial⟩ h
     refine⟨a2,?_⟩
     simp only[MdT,tot,totL] at *;omega
    ·cases h
   ·cases h
    exact⟨hm,by simp only[MdT];omega⟩
theorem condM_wf {T:List Tk} {p q:Nat} {c:Cnd} (hp:p≤T.length) (h:condM T p=.ok (c,q)):wf c∧tot c≤T.length:=by
 obtain⟨a,b⟩:=prM_wf T _ .or _ _ _ trivial h
 have:=(Z2 T _ .or _ _ _ hp h).2
 simp only[MdT] at b
 exact⟨a,by omega⟩
theorem j6 {T:List Tk} (hT:∀t ∈ T,TkOk t) {p q:Nat} {x:ByteArray} (h:Zu T p=.ok (x,q)):x.size≤1000000:=by
 obtain⟨t,_,ht,_,e,_⟩:=jv h
 rw[←e];exact (hT t (List.mem_of_getElem? ht)).1
theorem exM_len {T:List Tk}:∀(f p q:Nat) (a b:List Int),exM T f p a=.ok (b,q)→b.length≤a.length + (q - p)
 | 0,p,q,a,b,h=>by cases h;omega
 | f + 1,p,q,a,b,h=>by
  rw[exM] at h
  split at h
  ·split at h
   ·rename_i h1
    have h2:=Zf h1
    have h3:=exM_len f _ _ _ _ h
    have h4:=exM_pos f _ _ _ _ h
    rw[List.length_append,List.length_singleton] at h3
    omega
   ·cases h
  ·cases h;omega
theorem excM_len {T:List Tk} {p q:Nat} {x:List Int} (h:QB T p=.ok (x,q)):x.length≤q:=by
 unfold QB at h
 split at h
 ·split at h
  ·rename_i h1
   have h2:=Zf h1
   have h3:=exM_len _ _ _ _ _ h
   have h4:=exM_pos _ _ _ _ _ h
   rw[List.length_singleton] at h3
   omega
  ·cases h
 ·cases h;simp
theorem daysM_len {T:List Tk} {p q:Nat} {x:(Int × Int × Int) × List Int} (h:ZZ T p=.ok (x,q)):x.2.length≤T.length:=by
 unfold ZZ at h
 split at h
 ·cases h
 ·split at h
  ·cases h
  ·rename_i h2
   split at h
   ·rename_i h3
    cases h
    have:=excM_len h2
    have:=jF (by decide) h3
    simp only;omega
   ·cases h
def LnOk (N:Nat) (x:Lin):Prop:=QA x∧x.exc.length≤N∧x.tower.size≤1000000∧x.person.size≤1000000∧x.other.size≤1000000
theorem mkLn_ok {N:Nat} {kd:Int} {tw pe ot:ByteArray} {x:(Int × Int × Int) × List Int} (h:x.2.length≤N) (h1:tw.size≤1000000) (h2:pe.size≤1000000) (h3:ot.size≤1000000):LnOk N (mkLn kd tw pe ot x):=by
 unfold mkLn
 split
 ·exact⟨.inl rfl,Nat.zero_le _,h1,h2,h3⟩
 ·exact⟨.inr ⟨rfl,rfl⟩,h,h1,h2,h3⟩
theorem daysL_ok {T:List Tk} {p q:Nat} {kd:Int} {tw pe ot:ByteArray} {x:Lin} (h:jM T p kd tw pe ot=.ok (x,q)) (h1:tw.size≤1000000) (h2:pe.size≤1000000) (h3:ot.size≤1000000):LnOk T.length x:=by
 unfold jM at h
 split at h
 ·rename_i hd;cases h;exact mkLn_ok (daysM_len hd) h1 h2 h3
 ·cases h
theorem lineM_ok {T:List Tk} (hT:∀t ∈ T,TkOk t) {p q:Nat} {x:Lin} (h:ja T p=.ok (x,q)):LnOk T.length x:=by
 have e:ByteArray.empty.size≤1000000:=by decide
 unfold ja Zt JL Zp jt at h
 split at h
 ·split at h
  ·rename_i h1
   split at h
   ·split at h
    ·rename_i h2
     exact daysL_ok h (j6 hT h1) (j6 hT h2) e
    ·cases h
   ·cases h
  ·cases h
 ·split at h
  ·split at h
   ·rename_i h1
    exact daysL_ok h e (j6 hT h1) e
   ·cases h
  ·split at h
   ·split at h
    ·rename_i h1
     exact daysL_ok h (j6 hT h1) e e
    ·cases h
   ·split at h
    ·split at h
     ·rename_i h1
      split at h
      ·rename_i h2
       exact daysL_ok h e (j6 hT h1) (j6 hT h2)
      ·cases h
     ·cases h
    ·cases h
def OrOk (N:Nat) (o:Ordr):Prop:=wf o.cond∧tot o.cond≤N∧o.name.size≤1000000
theorem orderM_ok {T:List Tk} (hT:∀t ∈ T,TkOk t) {p q:Nat} {x:Ordr} (h:ZG T p=.ok (x,q)):OrOk T.length x:=by
 unfold ZG at h
 split at h
 ·cases h
 ·rename_i h1
  split at h
  ·cases h
  ·split at h
   ·rename_i h3
    have l3:=jF (by decide) h3
    split at h
    ·cases h
    ·rename_i c q3 h4
     split at h
     ·cases h
      obtain⟨a,b⟩:=condM_wf (by omega) h4
      exact⟨a,b,j6 hT h1⟩
     ·cases h
   ·cases h
theorem srcM_ok {T:List Tk} (hT:∀t ∈ T,TkOk t):∀(f p:Nat) (ls:List Lin) (os:List Ordr) (x:List Lin × List Ordr),(∀l ∈ ls,LnOk T.length l)→(∀o ∈ os,OrOk T.length o)→ls.length + os.length≤p→p≤T.length→Qa T f p ls os=.ok x→(∀l ∈ x.1,LnOk T.length l)∧(∀o ∈ x.2,OrOk T.length o)∧x.1.length + x.2.length≤T.length
 | 0,p,ls,os,x,_,_,_,_,h=>by cases h
 | f + 1,p,ls,os,x,hl,ho,hlen,hp,h=>by
  rw[Qa] at h
  split at h
  ·cases h;exact⟨hl,ho,by simp only;omega⟩
  ·split at h
   ·split at h
    ·rename_i o q h2
     have:=orderM_pos h2
     refine srcM_ok hT f q ls (os ++ [o]) x hl (fun y hy=>?_) (by rw[List.length_append,List.length_singleton];omega) this.2 h
     rcases List.mem_append.1 hy with hy | hy
     ·exact ho y hy
     ·rw[List.mem_singleton] at hy;subst hy;exact orderM_ok hT h2
    ·cases h
   ·split at h
    ·rename_i l q h2
     have:=qP h2
     refine srcM_ok hT f q (ls ++ [l]) os x (fun y hy=>?_) ho (by rw[List.length_append,List.length_singleton];omega) this.2 h
     rcases List.mem_append.1 hy with hy | hy
     ·exact hl y hy
     ·rw[List.mem_singleton] at hy;subst hy;exact lineM_ok hT h2
    ·cases h
end Go.AM
namespace Go.AM
open Go.Proofs Cw Du
set_option maxRecDepth 10000
set_option maxHeartbeats 4000000
abbrev qa (T:List Tk):PR (List Lin × List Ordr):=jA T (T.length + 1) 0 [] []
def wBox (x:List Lin × List Ordr):List AV:=[j8 8 (x.1.map zX),j8 7 (x.2.map zp)]
theorem below_wBox (n:Nat) (x:List Lin × List Ordr):belowL n (wBox x):=by
 simp only[wBox,belowL,and_true];exact⟨qq n 8 _ (QO n _),qq n 7 _ (below_ords n _)⟩
theorem scal_rowV {s:Nat} {L:List AV}:AV.scalar (j8 s L)=true:=by unfold j8;split <;> rfl
theorem parse1_ok {T:List Tk} {nl fu:Bool} {z:Nat} {H:zI} {o b n:Nat} {u v:AV} (S:PSt T nl fu z H o 0) (hon:o < n) (hbn:b < n) (hbo:b≠o) (hb0:H b=some (.cells [u,v])) {x:List Lin × List Ordr} {q:Nat} (hR:qa T=.ok (x,q)) :
  ATurn Tryz.prog 54 [.ptr o 0,.ptr b 0] H n (.tup []) ((H.upd o (some (atO T nl fu z q))).upd b (some (.cells (wBox x)))):=by
 have c1:=fun m (hm:n≤m)=>psource_ok (n:=m) S (by omega) hR
 refine zQ.entry (by kernel_rfl) fun hB _=>?_
 refine zQ.keep ((H.upd o (some (atO T nl fu z q))).upd b (some (.cells (wBox x)))) ((hB.set hon JF).set hbn (below_wBox n x)) (za Tryz.func54 rfl (by kernel_rfl) (by simp[Tryz.ntmps54]) ?_)
 have x1:AV.scalar (j8 8 (x.1.map zX))=true:=scal_rowV
 have x2:AV.scalar (j8 7 (x.2.map zp))=true:=scal_rowV
 simp only[AV.scalar] at x1 x2
 simp only[QL] at c1
 have hb1:(H.upd o (some (atO T nl fu z q))) b=some (.cells [u,v]):=by rw[zB _ _ _ _ hbo];exact hb0
 unfold wBox
 generalize H.upd o (some (atO T nl fu z q))=H2 at *
 replace c1:zC _:=c1
 repeat' (first|(refine zA fun K hK=>?_;simp (disch:=omega) [go_sem, *,Tryz.ntmps54])|(apply zC.out hK;clear hK K;try with_reducible dsimp only[zG])|(with_reducible refine ATurn.gcall (c1.out _ (by omega)) ?_;try simp (disch:=omega) [go_sem, *]))
 exact⟨.inl rfl,_,rfl,zY ⟨fun k hk=>rfl,by simp[zr,below,belowL],rfl,rfl,rfl⟩⟩
theorem parse1_bad {T:List Tk} {nl fu:Bool} {z:Nat} {H:zI} {o b n:Nat} (S:PSt T nl fu z H o 0) (hon:o < n) {k:Nat} (hR:qa T=.error k):PCall Tryz.prog zW 54 [.ptr o 0,.ptr b 0] H n (fun h' _=>PErr T nl fu z o k H n h'):=by
 have bad:=fun m (hm:n≤m)=>psource_bad (n:=m) S (by omega) hR
 refine Jd Tryz.func54 rfl (by kernel_rfl) (by simp[Tryz.ntmps54]) ?_
 replace bad:zC _:=bad
 refine zh (id:=0) (v:=zW) 1 (fun h' _=>PErr T nl fu z o k H n h') rfl (fun s _ hk=>⟨rfl,hk⟩) fun K hK=>?_
 simp[go_sem]
 refine hK.out _ ?_
 try dsimp only
 exact zj (L:=[.ptr o 0]) rfl rfl rfl rfl ((bad.out _ (by omega)).mono fun _ _ hk=>hk.back (by omega) (fun x hx hne=>rfl))
def Z3 (s:ByteArray):(List Lin × List Ordr) × Int × Int:=
 if (ZF qa s).1≠0 then (([],[]),(ZF qa s).1,(ZF qa s).2.1) else match (ZF qa s).2.2 with
  | none=>(([],[]),0,0)
  | some x=>if ji x.1 x.2≠0 then (([],[]),ji x.1 x.2,0) else (x,0,0)
theorem parR_ok {T:List Tk} {x:List Lin × List Ordr} {q:Nat} (h:qa T=.ok (x,q)):Qa T (T.length + 1) 0 [] []=.ok x∧q=T.length:=by
 unfold qa jA at h
 split at h
 ·rename_i y hy;cases h;exact⟨hy,rfl⟩
 ·cases h
theorem row_gen (s:Nat) (L:List AV):∃nl fu z,j8 s L=.fslc nl fu z L∧(L=[]∨nl=false∧z=s):=by
 unfold j8
 by_cases h:L=[]
 ·rw[if_pos h,h];exact⟨_,_,_,rfl,.inl rfl⟩
 ·rw[if_neg h];exact⟨_,_,_,rfl,.inr ⟨rfl,rfl⟩⟩
theorem readR_wf {s:ByteArray} {x:List Lin × List Ordr} (h:(ZF qa s).2.2=some x):smL x.1∧wfO x.2∧smO x.2∧x.1.length≤6000∧x.2.length≤6000:=by
 unfold ZF at h
 split at h
 ·cases h
 ·rename_i h6
  split at h
  ·cases h
  ·rename_i T hT
   split at h
   ·cases h
   ·rename_i y q hy
    have hx:y=x:=by split at h <;> (cases h;rfl)
    subst hx
    obtain⟨a,_⟩:=lexA_toks (by omega) hT
    have hl:T.length≤6000:=by
     obtain⟨_,b⟩:=lexA_tk (s:=s) (by omega) s.size 0 [] T (by omega) (by omega) (fun t ht=>by cases ht) hT
     simp only[List.length_nil] at b;omega
    obtain⟨c1,c2,c3⟩:=srcM_ok a _ _ _ _ _ (fun _ h=>by cases h) (fun _ h=>by cases h) (by simp) (by omega) (parR_ok hy).1
    refine⟨fun l hl'=>?_,fun o ho=>(c2 o ho).1,fun o ho=>⟨?_,(c2 o ho).2.2⟩,by omega,by omega⟩
    ·obtain⟨d1,d2,d3⟩:=c1 l hl';exact⟨d1,by omega,d3⟩
    ·have:=(c2 o ho).2.1;omega
theorem Parse_spec (s:ByteArray) (hs:s.size≤1000000):zK Tryz.prog 18 [sv s] (.tup [QL (Z3 s).1,iv .i64 (Z3 s).2.1,iv .i64 (Z3 s).2.2]):=by
 intro h n
 refine zQ.pure (zQ.entry (by kernel_rfl) fun hb _=>za Tryz.func18 rfl (by kernel_rfl) (by simp[Tryz.ntmps18]) ?_)
 have kr:∀(H:zI) (m:Nat),H (n + 3)=some (.cells [.fslc true true 0 [],.fslc true true 0 []])→n + 3 < m→ATurn Tryz.prog 53 [sv s,.func (.func 54) [] [.ptr (n + 3) 0]] H m (.tup [iv .i64 (ZF qa s).1,iv .i64 (ZF qa s).2.1]) (boxR wBox (n + 3) H (ZF qa s).2.2):=fun H m h1 h2=>
  read_spec qa wBox _ s hs h2 (fun x m=>below_wBox m x) fun T nl fu z H1 o m' hT S ho hb hne hH=>
   ⟨fun x q hR=>⟨by rw[(parR_ok hR).2];exact Nat.le_refl _,parse1_ok S ho hb hne (by rw[hH,h1]) hR⟩,fun k hR=>parse1_bad S ho hR⟩
 have hwf:=fun x (h:(ZF qa s).2.2=some x)=>readR_wf h
 obtain⟨P,hP⟩:∃P,Z3 s=P:=⟨_,rfl⟩
 rw[hP]
 have hbl:=fun m=>below_encWs m P.1
 unfold Z3 at hP
 generalize ZF qa s=Z at *
 obtain⟨e,a,X⟩:=Z
 simp only at kr hwf hP
 replace kr:zC _:=kr
 replace hwf:zC _:=hwf
 replace hbl:zC _:=hbl
 by_cases he:e=0
 ·subst he
  rw[if_neg (by simp)] at hP
  cases X with
  | none=>
   subst hP
   simp only[boxR] at kr
   have ck:=check_spec true true 0 [] (.inl rfl) (fun _ h=>by cases h) (by decide) true true 0 [] (.inl rfl) (fun _ h=>by cases h) (fun _ h=>by cases h) (by decide)
   have cz:ji [] []=0:=rfl
   rw[cz] at ck
   simp only[List.map_nil] at ck
   repeat' (first|(refine zF fun K hK=>?_)|(refine zA fun K hK=>?_;simp (disch:=omega) [go_sem, *,zB,Tryz.ntmps18])|(apply zC.out hK;clear hK K;try with_reducible dsimp only[zG])|(apply zC.out hf;clear ht hf Kt Kf)|(with_reducible refine ATurn.gcall (kr.out _ _ (by simp (disch:=omega) [zD];fail_if_success focus skip) (by omega)) ?_;try simp (disch:=omega) [go_sem, *])|(with_reducible refine zK.gcall (ck) ?_;try simp (disch:=omega) [go_sem, *])|(refine zL ?_;simp only[zG])|(refine zH fun Kt Kf ht hf=>?_;simp (disch:=omega) [go_sem, *];try (refine⟨fun hc=>?_,fun hc=>?_⟩ <;> try (exfalso;omega))))
   refine zb ?_
   try dsimp only[zG,zN]
   refine⟨by simp,_,(by first | rfl|(simp (disch:=omega) [go_sem] <;> rfl)),?_⟩
   dsimp only[zr]
   refine zY ⟨fun k hk=>by simp (disch:=omega) [zB],?_,(by first | rfl | trivial),(by first | rfl | trivial),(by first | rfl | trivial)⟩
   simp[below,belowL]
  | some x=>
   obtain⟨w1,w2,w3,w4,w5⟩:=hwf.out x rfl
   obtain⟨ls,os⟩:=x
   simp only at w1 w2 w3 w4 w5 hP
   obtain⟨nl1,fu1,z1,r1,r1'⟩:=row_gen 8 (ls.map zX)
   obtain⟨nl2,fu2,z2,r2,r2'⟩:=row_gen 7 (os.map zp)
   have ck:=check_spec nl1 fu1 z1 ls (by rcases r1' with h | h;exact .inl (List.map_eq_nil_iff.1 h);exact .inr h) w1 (by omega) nl2 fu2 z2 os (by rcases r2' with h | h;exact .inl (List.map_eq_nil_iff.1 h);exact .inr h) w2 w3 (by omega)
   simp only[boxR,wBox,r1,r2] at kr
   have b1:∀m,belowL m (ls.map zX):=fun m=>QO m ls
   have b2:∀m,belowL m (os.map zp):=fun m=>below_ords m os
   by_cases hc:ji ls os=0
   ·rw[if_neg (by simpa using hc)] at hP
    subst hP
    rw[hc] at ck
    replace w1:zC _:=w1
    replace w2:zC _:=w2
    replace w3:zC _:=w3
    replace r1':zC _:=r1'
    replace r2':zC _:=r2'
    replace b1:zC _:=b1
    replace b2:zC _:=b2
    simp only[QL,r1,r2]
    replace r1:zC _:=r1
    replace r2:zC _:=r2
    generalize ls.map zX=L1 at *
    generalize os.map zp=L2 at *
    repeat' (first|(refine zF fun K hK=>?_)|(refine zA fun K hK=>?_;simp (disch:=omega) [go_sem, *,zB,Tryz.ntmps18])|(apply zC.out hK;clear hK K;try with_reducible dsimp only[zG])|(apply zC.out hf;clear ht hf Kt Kf)|(with_reducible refine ATurn.gcall (kr.out _ _ (by simp (disch:=omega) [zD];fail_if_success focus skip) (by omega)) ?_;try simp (disch:=omega) [go_sem, *])|(with_reducible refine zK.gcall (ck) ?_;try simp (disch:=omega) [go_sem, *])|(refine zL ?_;simp only[zG])|(refine zH fun Kt Kf ht hf=>?_;simp (disch:=omega) [go_sem, *];try (refine⟨fun hc=>?_,fun hc=>?_⟩ <;> try (exfalso;omega))))
    refine zb ?_
    try dsimp only[zG,zN]
    refine⟨by simp,_,(by first | rfl|(simp (disch:=omega) [go_sem] <;> rfl)),?_⟩
    dsimp only[zr]
    refine zY ⟨fun k hk=>by simp (disch:=omega) [zB],?_,(by first | rfl | trivial),(by first | rfl | trivial),(by first | rfl | trivial)⟩
    simp[below,belowL,b1.out,b2.out]
   ·rw[if_pos (by simpa using hc)] at hP
    have hc2:(ji ls os != 0)=true:=by simpa using hc
    subst hP
    generalize ji ls os=E at *
    replace w1:zC _:=w1
    replace w2:zC _:=w2
    replace w3:zC _:=w3
    replace r1':zC _:=r1'
    replace r2':zC _:=r2'
    replace b1:zC _:=b1
    replace b2:zC _:=b2
    replace r1:zC _:=r1
    replace r2:zC _:=r2
    generalize ls.map zX=L1 at *
    generalize os.map zp=L2 at *
    repeat' (first|(refine zF fun K hK=>?_)|(refine zA fun K hK=>?_;simp (disch:=omega) [go_sem, *,zB,Tryz.ntmps18])|(apply zC.out hK;clear hK K;try with_reducible dsimp only[zG])|(apply zC.out ht;clear ht hf Kt Kf)|(apply zC.out hf;clear ht hf Kt Kf)|(with_reducible refine ATurn.gcall (kr.out _ _ (by simp (disch:=omega) [zD];fail_if_success focus skip) (by omega)) ?_;try simp (disch:=omega) [go_sem, *])|(with_reducible refine zK.gcall (ck) ?_;try simp (disch:=omega) [go_sem, *])|(refine zL ?_;simp only[zG])|(refine zH fun Kt Kf ht hf=>?_;simp (disch:=omega) [go_sem, *];try (refine⟨fun hc=>?_,fun hc=>?_⟩ <;> try (exfalso;omega))))
    refine zb ?_
    try dsimp only[zG,zN]
    refine⟨by simp,_,(by first | rfl|(simp (disch:=omega) [go_sem] <;> rfl)),?_⟩
    dsimp only[zr]
    refine zY ⟨fun k hk=>by simp (disch:=omega) [zB],?_,(by first | rfl | trivial),(by first | rfl | trivial),(by first | rfl | trivial)⟩
    simp[below,belowL]
 ·have he2:(e != 0)=true:=by simpa using he
  rw[if_pos he] at hP
  subst hP
  cases X with
  | none=>
   simp only[boxR] at kr
   repeat' (first|(refine zF fun K hK=>?_)|(refine zA fun K hK=>?_;simp (disch:=omega) [go_sem, *,zB,Tryz.ntmps18])|(apply zC.out hK;clear hK K;try with_reducible dsimp only[zG])|(apply zC.out ht;clear ht hf Kt Kf)|(with_reducible refine ATurn.gcall (kr.out _ _ (by simp (disch:=omega) [zD];fail_if_success focus skip) (by omega)) ?_;try simp (disch:=omega) [go_sem, *])|(refine zH fun Kt Kf ht hf=>?_;simp (disch:=omega) [go_sem, *];try (refine⟨fun hc=>?_,fun hc=>?_⟩ <;> try (exfalso;omega))))
   refine zb ?_
   try dsimp only[zG,zN]
   refine⟨by simp,_,(by first | rfl|(simp (disch:=omega) [go_sem] <;> rfl)),?_⟩
   dsimp only[zr]
   refine zY ⟨fun k hk=>by simp (disch:=omega) [zB],?_,(by first | rfl | trivial),(by first | rfl | trivial),(by first | rfl | trivial)⟩
   simp[below,belowL]
  | some x=>
   simp only[boxR] at kr
   generalize wBox x=WB at *
   repeat' (first|(refine zF fun K hK=>?_)|(refine zA fun K hK=>?_;simp (disch:=omega) [go_sem, *,zB,Tryz.ntmps18])|(apply zC.out hK;clear hK K;try with_reducible dsimp only[zG])|(apply zC.out ht;clear ht hf Kt Kf)|(with_reducible refine ATurn.gcall (kr.out _ _ (by simp (disch:=omega) [zD];fail_if_success focus skip) (by omega)) ?_;try simp (disch:=omega) [go_sem, *])|(refine zH fun Kt Kf ht hf=>?_;simp (disch:=omega) [go_sem, *];try (refine⟨fun hc=>?_,fun hc=>?_⟩ <;> try (exfalso;omega))))
   refine zb ?_
   try dsimp only[zG,zN]
   refine⟨by simp,_,(by first | rfl|(simp (disch:=omega) [go_sem] <;> rfl)),?_⟩
   dsimp only[zr]
   refine zY ⟨fun k hk=>by simp (disch:=omega) [zB],?_,(by first | rfl | trivial),(by first | rfl | trivial),(by first | rfl | trivial)⟩
   simp[below,belowL]
end Go.AM
namespace Go.AM
open Go.Proofs Cw Du
set_option maxRecDepth 10000
set_option maxHeartbeats 4000000
abbrev QP (T:List Tk):PR Cnd:=condM T 0
def cBox:Cnd→List AV
 | .mk k f o n nl fu s ks=>[iv .i64 k,iv .i64 f,iv .i64 o,iv .i64 n,.fslc nl fu s (ZE ks)]
theorem below_cBox (n:Nat) (c:Cnd):belowL n (cBox c):=by
 obtain⟨k,f,o,m,nl,fu,s,ks⟩:=c
 simp only[cBox,belowL,below,iv,and_true]
 exact⟨trivial,trivial,trivial,trivial,Zb n ks⟩
theorem parsec1_ok {T:List Tk} {nl fu:Bool} {z:Nat} {H:zI} {o b n:Nat} {u1 u2 u3 u4 u5:AV} (S:PSt T nl fu z H o 0) (hon:o < n) (hbn:b < n) (hbo:b≠o) (hb0:H b=some (.cells [u1,u2,u3,u4,u5])) {x:Cnd} {q:Nat} (hR:QP T=.ok (x,q)) :
  ATurn Tryz.prog 59 [.ptr o 0,.ptr b 0] H n (.tup []) ((H.upd o (some (atO T nl fu z q))).upd b (some (.cells (cBox x)))):=by
 have c1:=fun m (hm:n≤m)=>eitherY (n:=n) S hon hR (by omega) H m S.at_ hm
 refine zQ.entry (by kernel_rfl) fun hB _=>?_
 refine zQ.keep ((H.upd o (some (atO T nl fu z q))).upd b (some (.cells (cBox x)))) ((hB.set hon JF).set hbn (below_cBox n x)) (za Tryz.func59 rfl (by kernel_rfl) (by simp[Tryz.ntmps59]) ?_)
 obtain⟨ck,cf,co,cn,cnl,cfu,cs,cks⟩:=x
 simp only[zn] at c1
 have hb1:(H.upd o (some (atO T nl fu z q))) b=some (.cells [u1,u2,u3,u4,u5]):=by rw[zB _ _ _ _ hbo];exact hb0
 unfold cBox
 generalize H.upd o (some (atO T nl fu z q))=H2 at *
 replace c1:zC _:=c1
 repeat' (first|(refine zA fun K hK=>?_;simp (disch:=omega) [go_sem, *,Tryz.ntmps59])|(apply zC.out hK;clear hK K;try with_reducible dsimp only[zG])|(with_reducible refine ATurn.gcall (c1.out _ (by omega)) ?_;try simp (disch:=omega) [go_sem, *]))
 exact⟨.inl rfl,_,rfl,zY ⟨fun k hk=>rfl,by simp[zr,below,belowL],rfl,rfl,rfl⟩⟩
theorem parsec1_bad {T:List Tk} {nl fu:Bool} {z:Nat} {H:zI} {o b n:Nat} (S:PSt T nl fu z H o 0) (hon:o < n) {k:Nat} (hR:QP T=.error k):PCall Tryz.prog zW 59 [.ptr o 0,.ptr b 0] H n (fun h' _=>PErr T nl fu z o k H n h'):=by
 have bad:=fun m (hm:n≤m)=>eitherN (n:=n) S hon hR (by omega) H m S.at_ hm
 refine Jd Tryz.func59 rfl (by kernel_rfl) (by simp[Tryz.ntmps59]) ?_
 replace bad:zC _:=bad
 refine zh (id:=0) (v:=zW) 1 (fun h' _=>PErr T nl fu z o k H n h') rfl (fun s _ hk=>⟨rfl,hk⟩) fun K hK=>?_
 simp[go_sem]
 refine hK.out _ ?_
 try dsimp only
 exact zj (L:=[.ptr o 0]) rfl rfl rfl rfl ((bad.out _ (by omega)).mono fun _ _ hk=>hk.back (by omega) (fun x hx hne=>rfl))
abbrev nilC:Cnd:=.mk 0 0 0 0 true true 0 []
def qg (s:ByteArray):Cnd × Int × Int:=
 if (ZF QP s).1≠0 then (nilC,(ZF QP s).1,(ZF QP s).2.1) else match (ZF QP s).2.2 with
  | none=>(nilC,7,0)
  | some c=>if Cw.formed c then (c,0,0) else (nilC,7,0)
theorem readC_wf {s:ByteArray} {x:Cnd} (h:(ZF QP s).2.2=some x):wf x∧tot x≤6000:=by
 unfold ZF at h
 split at h
 ·cases h
 ·rename_i h6
  split at h
  ·cases h
  ·rename_i T hT
   split at h
   ·cases h
   ·rename_i y q hy
    have hx:y=x:=by split at h <;> (cases h;rfl)
    subst hx
    obtain⟨_,b⟩:=lexA_tk (s:=s) (by omega) s.size 0 [] T (by omega) (by omega) (fun t ht=>by cases ht) hT
    simp only[List.length_nil] at b
    obtain⟨c1,c2⟩:=condM_wf (by omega) hy
    exact⟨c1,by omega⟩
theorem ParseCond_spec (s:ByteArray) (hs:s.size≤1000000):zK Tryz.prog 20 [sv s] (.tup [zn (qg s).1,iv .i64 (qg s).2.1,iv .i64 (qg s).2.2]):=by
 intro h n
 refine zQ.pure (zQ.entry (by kernel_rfl) fun hb _=>za Tryz.func20 rfl (by kernel_rfl) (by simp[Tryz.ntmps20]) ?_)
 have kr:∀(H:zI) (m:Nat),H (n + 3)=some (.cells [iv .i64 0,iv .i64 0,iv .i64 0,iv .i64 0,.fslc true true 0 []])→n + 3 < m→ATurn Tryz.prog 53 [sv s,.func (.func 59) [] [.ptr (n + 3) 0]] H m (.tup [iv .i64 (ZF QP s).1,iv .i64 (ZF QP s).2.1]) (boxR cBox (n + 3) H (ZF QP s).2.2):=fun H m h1 h2=>
  read_spec QP cBox _ s hs h2 (fun x m=>below_cBox m x) fun T nl fu z H1 o m' hT S ho hb hne hH=>
   ⟨fun x q hR=>⟨(Z2 T _ .or 0 q x (Nat.zero_le _) hR).2,parsec1_ok S ho hb hne (by rw[hH,h1]) hR⟩,fun k hR=>parsec1_bad S ho hR⟩
 have hwf:=fun x (h:(ZF QP s).2.2=some x)=>readC_wf h
 obtain⟨P,hP⟩:∃P,qg s=P:=⟨_,rfl⟩
 rw[hP]
 unfold qg at hP
 have he:(ZF QP s).1=0∨(ZF QP s).1≠0:=by omega
 generalize ZF QP s=Z at *
 obtain⟨e,a,X⟩:=Z
 simp only at kr hwf hP he
 replace kr:zC _:=kr
 replace hwf:zC _:=hwf
 rcases he with he | he
 ·subst he
  rw[if_neg (by simp)] at hP
  cases X with
  | none=>
   subst hP
   simp only[boxR] at kr
   have ck:=qB nilC ⟨.inl rfl,trivial⟩ (by decide)
   have cz:Cw.formed nilC=false:=by decide
   rw[cz] at ck
   simp only[zn,ZE] at ck
   simp only[zn,ZE]
   repeat' (first|(refine zF fun K hK=>?_)|(refine zA fun K hK=>?_;simp (disch:=omega) [go_sem, *,zB,Tryz.ntmps20])|(apply zC.out hK;clear hK K;try with_reducible dsimp only[zG])|(apply zC.out ht;clear ht hf Kt Kf)|(apply zC.out hf;clear ht hf Kt Kf)|(with_reducible refine ATurn.gcall (kr.out _ _ (by simp (disch:=omega) [zD];fail_if_success focus skip) (by omega)) ?_;try simp (disch:=omega) [go_sem, *])|(with_reducible refine zK.gcall (ck) ?_;try simp (disch:=omega) [go_sem, *])|(refine zL ?_;simp only[zG])|(refine zH fun Kt Kf ht hf=>?_;simp (disch:=omega) [go_sem, *];try (refine⟨fun hc=>?_,fun hc=>?_⟩ <;> try (exfalso;omega))))
   refine zb ?_
   try dsimp only[zG,zN]
   refine⟨by simp,_,(by first | rfl|(simp (disch:=omega) [go_sem] <;> rfl)),?_⟩
   dsimp only[zr]
   refine zY ⟨fun k hk=>by simp (disch:=omega) [zB],?_,(by first | rfl | trivial),(by first | rfl | trivial),(by first | rfl | trivial)⟩
   simp[below,belowL]
  | some x=>
   obtain⟨w1,w2⟩:=hwf.out x rfl
   have ck:=qB x w1 (by omega)
   obtain⟨ck',cf,co,cn,cnl,cfu,cs,cks⟩:=x
   simp only[boxR,cBox] at kr
   simp only[zn] at ck
   cases hc:Cw.formed (.mk ck' cf co cn cnl cfu cs cks) with
   | true=>
    simp only[hc,if_true] at hP
    subst hP
    rw[hc] at ck
    replace w1:zC _:=w1
    replace hc:zC _:=hc
    simp only[zn]
    repeat' (first|(refine zF fun K hK=>?_)|(refine zA fun K hK=>?_;simp (disch:=omega) [go_sem, *,zB,Tryz.ntmps20])|(apply zC.out hK;clear hK K;try with_reducible dsimp only[zG])|(apply zC.out hf;clear ht hf Kt Kf)|(with_reducible refine ATurn.gcall (kr.out _ _ (by simp (disch:=omega) [zD];fail_if_success focus skip) (by omega)) ?_;try simp (disch:=omega) [go_sem, *])|(with_reducible refine zK.gcall (ck) ?_;try simp (disch:=omega) [go_sem, *])|(refine zL ?_;simp only[zG])|(refine zH fun Kt Kf ht hf=>?_;simp (disch:=omega) [go_sem, *];try (refine⟨fun hc=>?_,fun hc=>?_⟩ <;> try (exfalso;omega))))
    refine zb ?_
    try dsimp only[zG,zN]
    refine⟨by simp,_,(by first | rfl|(simp (disch:=omega) [go_sem] <;> rfl)),?_⟩
    dsimp only[zr]
    refine zY ⟨fun k hk=>by simp (disch:=omega) [zB],?_,(by first | rfl | trivial),(by first | rfl | trivial),(by first | rfl | trivial)⟩
    simp[below,belowL,Zb]
   | false=>
    simp only[hc,Bool.false_eq_true,if_false] at hP
    subst hP
    rw[hc] at ck
    replace w1:zC _:=w1
    replace hc:zC _:=hc
    simp only[zn,ZE]
    repeat' (first|(refine zF fun K hK=>?_)|(refine zA fun K hK=>?_;simp (disch:=omega) [go_sem, *,zB,Tryz.ntmps20])|(apply zC.out hK;clear hK K;try with_reducible dsimp only[zG])|(apply zC.out ht;clear ht hf Kt Kf)|(apply zC.out hf;clear ht hf Kt Kf)|(with_reducible refine ATurn.gcall (kr.out _ _ (by simp (disch:=omega) [zD];fail_if_success focus skip) (by omega)) ?_;try simp (disch:=omega) [go_sem, *])|(with_reducible refine zK.gcall (ck) ?_;try simp (disch:=omega) [go_sem, *])|(refine zL ?_;simp only[zG])|(refine zH fun Kt Kf ht hf=>?_;simp (disch:=omega) [go_sem, *];try (refine⟨fun hc=>?_,fun hc=>?_⟩ <;> try (exfalso;omega))))
    refine zb ?_
    try dsimp only[zG,zN]
    refine⟨by simp,_,(by first | rfl|(simp (disch:=omega) [go_sem] <;> rfl)),?_⟩
    dsimp only[zr]
    refine zY ⟨fun k hk=>by simp (disch:=omega) [zB],?_,(by first | rfl | trivial),(by first | rfl | trivial),(by first | rfl | trivial)⟩
    simp[below,belowL]
 ·have he2:(e != 0)=true:=by simpa using he
  rw[if_pos he] at hP
  subst hP
  simp only[zn,ZE]
  cases X with
  | none=>
   simp only[boxR] at kr
   repeat' (first|(refine zF fun K hK=>?_)|(refine zA fun K hK=>?_;simp (disch:=omega) [go_sem, *,zB,Tryz.ntmps20])|(apply zC.out hK;clear hK K;try with_reducible dsimp only[zG])|(apply zC.out ht;clear ht hf Kt Kf)|(with_reducible refine ATurn.gcall (kr.out _ _ (by simp (disch:=omega) [zD];fail_if_success focus skip) (by omega)) ?_;try simp (disch:=omega) [go_sem, *])|(refine zH fun Kt Kf ht hf=>?_;simp (disch:=omega) [go_sem, *];try (refine⟨fun hc=>?_,fun hc=>?_⟩ <;> try (exfalso;omega))))
   refine zb ?_
   try dsimp only[zG,zN]
   refine⟨by simp,_,(by first | rfl|(simp (disch:=omega) [go_sem] <;> rfl)),?_⟩
   dsimp only[zr]
   refine zY ⟨fun k hk=>by simp (disch:=omega) [zB],?_,(by first | rfl | trivial),(by first | rfl | trivial),(by first | rfl | trivial)⟩
   simp[below,belowL]
  | some x=>
   simp only[boxR] at kr
   generalize cBox x=WB at *
   repeat' (first|(refine zF fun K hK=>?_)|(refine zA fun K hK=>?_;simp (disch:=omega) [go_sem, *,zB,Tryz.ntmps20])|(apply zC.out hK;clear hK K;try with_reducible dsimp only[zG])|(apply zC.out ht;clear ht hf Kt Kf)|(with_reducible refine ATurn.gcall (kr.out _ _ (by simp (disch:=omega) [zD];fail_if_success focus skip) (by omega)) ?_;try simp (disch:=omega) [go_sem, *])|(refine zH fun Kt Kf ht hf=>?_;simp (disch:=omega) [go_sem, *];try (refine⟨fun hc=>?_,fun hc=>?_⟩ <;> try (exfalso;omega))))
   refine zb ?_
   try dsimp only[zG,zN]
   refine⟨by simp,_,(by first | rfl|(simp (disch:=omega) [go_sem] <;> rfl)),?_⟩
   dsimp only[zr]
   refine zY ⟨fun k hk=>by simp (disch:=omega) [zB],?_,(by first | rfl | trivial),(by first | rfl | trivial),(by first | rfl | trivial)⟩
   simp[below,belowL]
end Go.AM
