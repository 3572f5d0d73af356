/- Gaps, by the specification. Conditions: as each theorem says. -/
import Derived.Test.YtkbgmkhdjmkpdaaGreatDoorPb
import Derived.Test.YtkbgmkhdjmkpdaaGreatDoorGa
import Derived.Test.YtkbgmkhdjmkpdaaGreatDoorAy
import Derived.Test.YtkbgmkhdjmkpdaaGreatDoorWx
namespace Go.AM
open Go.Proofs Cw Du
set_option maxRecDepth 10000
set_option maxHeartbeats 4000000
theorem J9 (nlL fuL:Bool) (sL:Nat) (ls:List Lin) (hnlL:ls=[]∨nlL=false∧sL=8) (hsL:smL ls) (hlL:ls.length≤1000000) (nl fu:Bool) (s:Nat) (l:List Ordr) (hnl:l=[]∨nl=false∧s=7) (hw:wfO l) (hs:smO l) (hl:l.length≤1000000) (lo hi:Int) :
  zJ Tryz.prog 59 [.agg [.fslc nlL fuL sL (ls.map zg),.fslc nl fu s (l.map ZH)],.agg [iv .i64 lo,iv .i64 hi]] (iv .i64 (Zc ls l lo hi)):=by
 intro h n
 have k1:=rcheck_spec nlL fuL sL ls hnlL hsL hlL nl fu s l hnl hw hs hl
 refine zQ.pure (zQ.entry (by kernel_rfl) fun hb _=>zV Tryz.func59 rfl (by kernel_rfl) (by simp[Tryz.ntmps59]) ?_)
 obtain⟨T,hT⟩:∃T,zB (T=Zc ls l lo hi):=⟨_,rfl⟩
 rw[←hT.out]
 have hT1:=hT.out
 unfold Zc at hT1
 replace hT:zB _:=trivial
 generalize qj ls l=e at *
 generalize List.map zg ls=LL at *
 generalize List.map ZH l=OO at *
 clear hsL hs hw hnl hnlL hlL hl
 by_cases hc:e=0
 ·subst hc
  rw[if_neg (by simp)] at hT1
  by_cases c1:lo < 0
  ·rw[if_pos (.inl c1)] at hT1
   subst hT1
   repeat' (first|(refine zD fun K hK=>?_)|(refine zA fun K hK=>?_;simp (disch:=omega) [go_sem, *,zG,Tryz.ntmps59])|(apply zB.out hK;clear hK K;try with_reducible dsimp only[zC])|(apply zB.out ht;clear ht hf Kt Kf)|(apply zB.out hf;clear ht hf Kt Kf)|(with_reducible refine zJ.gcall (k1) ?_;try simp (disch:=omega) [go_sem, *])|(refine zK ?_;simp only[zC])|(refine zF fun Kt Kf ht hf=>?_;simp (disch:=omega) [go_sem, *];try (refine⟨fun hc=>?_,fun hc=>?_⟩ <;> try (exfalso;omega))))
   exact zR
  ·by_cases c2:lo > hi
   ·rw[if_pos (.inr (.inl c2))] at hT1
    subst hT1
    repeat' (first|(refine zD fun K hK=>?_)|(refine zA fun K hK=>?_;simp (disch:=omega) [go_sem, *,zG,Tryz.ntmps59])|(apply zB.out hK;clear hK K;try with_reducible dsimp only[zC])|(apply zB.out ht;clear ht hf Kt Kf)|(apply zB.out hf;clear ht hf Kt Kf)|(with_reducible refine zJ.gcall (k1) ?_;try simp (disch:=omega) [go_sem, *])|(refine zK ?_;simp only[zC])|(refine zF fun Kt Kf ht hf=>?_;simp (disch:=omega) [go_sem, *];try (refine⟨fun hc=>?_,fun hc=>?_⟩ <;> try (exfalso;omega))))
    exact zR
   ·by_cases c3:hi > 400
    ·rw[if_pos (.inr (.inr c3))] at hT1
     subst hT1
     repeat' (first|(refine zD fun K hK=>?_)|(refine zA fun K hK=>?_;simp (disch:=omega) [go_sem, *,zG,Tryz.ntmps59])|(apply zB.out hK;clear hK K;try with_reducible dsimp only[zC])|(apply zB.out ht;clear ht hf Kt Kf)|(apply zB.out hf;clear ht hf Kt Kf)|(with_reducible refine zJ.gcall (k1) ?_;try simp (disch:=omega) [go_sem, *])|(refine zK ?_;simp only[zC])|(refine zF fun Kt Kf ht hf=>?_;simp (disch:=omega) [go_sem, *];try (refine⟨fun hc=>?_,fun hc=>?_⟩ <;> try (exfalso;omega))))
     exact zR
    ·rw[if_neg (by omega)] at hT1
     subst hT1
     repeat' (first|(refine zD fun K hK=>?_)|(refine zA fun K hK=>?_;simp (disch:=omega) [go_sem, *,zG,Tryz.ntmps59])|(apply zB.out hK;clear hK K;try with_reducible dsimp only[zC])|(apply zB.out hf;clear ht hf Kt Kf)|(with_reducible refine zJ.gcall (k1) ?_;try simp (disch:=omega) [go_sem, *])|(refine zK ?_;simp only[zC])|(refine zF fun Kt Kf ht hf=>?_;simp (disch:=omega) [go_sem, *];try (refine⟨fun hc=>?_,fun hc=>?_⟩ <;> try (exfalso;omega))))
     exact zR
 ·rw[if_pos hc] at hT1
  have hne:(e != 0)=true:=by simpa using hc
  clear hc
  subst hT1
  repeat' (first|(refine zD fun K hK=>?_)|(refine zA fun K hK=>?_;simp (disch:=omega) [go_sem, *,zG,Tryz.ntmps59])|(apply zB.out hK;clear hK K;try with_reducible dsimp only[zC])|(apply zB.out ht;clear ht hf Kt Kf)|(with_reducible refine zJ.gcall (k1) ?_;try simp (disch:=omega) [go_sem, *])|(refine zF fun Kt Kf ht hf=>?_;simp (disch:=omega) [go_sem, *];try (refine⟨fun hc=>?_,fun hc=>?_⟩ <;> try (exfalso;omega))))
  exact zR
theorem cntP_le (l:List Pr) (t:ByteArray):Zv l t≤l.length:=List.length_filter_le _ _
theorem of_spec (d:Int) (nl fu:Bool) (s:Nat) (l:List Pr) (t:ByteArray) (hnl:l=[]∨nl=false∧s=3) (hl:l.length≤1000000):zJ Tryz.prog 74 [.fslc nl fu s (l.map (dutyA d)),sv t] (iv .i64 (Zv l t)):=by
 intro h n
 refine zQ.pure (zQ.entry (by kernel_rfl) fun hb _=>zV Tryz.func74 rfl (by kernel_rfl) (by simp[Tryz.ntmps74]) ?_)
 obtain⟨T,hT⟩:∃T,zB (T=Zv l t):=⟨_,rfl⟩
 rw[←hT.out]
 have hst:∀i,i≤l.length→Zv l t=Zv (l.take i) t + Zv (l.drop i) t:=fun i _=>by
  unfold Zv;rw[←List.length_append,←List.filter_append,List.take_append_drop]
 replace hnl:zB _:=hnl
 replace hst:zB _:=hst
 repeat' (first|(refine zD fun K hK=>?_)|(refine zA fun K hK=>?_;simp (disch:=omega) [go_sem, *,Tryz.ntmps74])|(apply zB.out hK;clear hK K;try with_reducible dsimp only[zC])|(refine zI ?_))
 refine zW (fun s'=>∃(i n' k:Nat),n≤n'∧i≤l.length∧k=Zv (l.take i) t∧s'=⟨23,[(0,.fslc nl fu s (l.map (dutyA d))),(1,sv t),(5,iv .i64 k),(6,iv .i64 i)],h,n'⟩)
   (fun s'=>l.length - (zY s' 6).toNat) ?_ ?_
 ·exact zX (by simp[go_sem]) (Sub.refl _) ⟨0,_,0,by omega,by omega,by simp[Zv],rfl⟩
 ·rintro s' ⟨i,n',k,hn',hi,hk,rfl⟩
  by_cases hlt:i < l.length
  ·obtain⟨x,hx⟩:∃x,l[i]=x:=⟨_,rfl⟩
   have hne:l≠[]:=fun e=>by rw[e] at hlt;simp at hlt
   obtain⟨rfl,rfl⟩:=hnl.out.resolve_left hne
   have hst2:Zv (l.take (i + 1)) t=k + if eqB x.2 t then 1 else 0:=by
    rw[List.take_succ_eq_append_getElem hlt,hx,hk];unfold Zv;rw[List.filter_append,List.length_append,List.filter_cons];split <;> simp_all
   have hkl:k≤1000000:=by
    rw[hk];have:=cntP_le (l.take i) t;rw[List.length_take] at this;omega
   have hex:dutyA d l[i]=.agg [iv .i64 d,sv x.1,sv x.2]:=by rw[hx];rfl
   replace hx:zB _:=hx
   replace hk:zB _:=trivial
   clear hne
   cases hz:eqB x.2 t with
   | true=>
    rw[hz,if_pos rfl] at hst2
    replace hst2:zB _:=hst2
    unfold eqB at hz
    repeat' (first|(refine zD fun K hK=>?_)|(refine zA fun K hK=>?_;simp (disch:=omega) [go_sem, *,zM,zN,zO])|(apply zB.out hK;clear hK K;try with_reducible dsimp only[zC])|(apply zB.out ht;clear ht hf Kt Kf)|(refine zI ?_)|(refine zK ?_;simp only[zC])|(refine zF fun Kt Kf ht hf=>?_;simp (disch:=omega) [go_sem, *];try (refine⟨fun hc=>?_,fun hc=>?_⟩ <;> try (exfalso;omega))))
    exact zS (by simp (disch:=omega) [go_sem]) (Sub.refl _) ⟨i + 1,_,k + 1,by omega,by omega,hst2.out.symm,rfl⟩ (by simp[zY,go_sem];omega)
   | false=>
    rw[hz,if_neg (by simp)] at hst2
    replace hst2:zB _:=hst2
    unfold eqB at hz
    repeat' (first|(refine zD fun K hK=>?_)|(refine zA fun K hK=>?_;simp (disch:=omega) [go_sem, *,zM,zN,zO])|(apply zB.out hK;clear hK K;try with_reducible dsimp only[zC])|(apply zB.out ht;clear ht hf Kt Kf)|(apply zB.out hf;clear ht hf Kt Kf)|(refine zI ?_)|(refine zK ?_;simp only[zC,zP])|(refine zF fun Kt Kf ht hf=>?_;simp (disch:=omega) [go_sem, *];try (refine⟨fun hc=>?_,fun hc=>?_⟩ <;> try (exfalso;omega))))
    exact zS (by simp (disch:=omega) [go_sem]) (Sub.refl _) ⟨i + 1,_,k,by omega,by omega,hst2.out.symm,rfl⟩ (by simp[zY,go_sem];omega)
  ·have hii:i=l.length:=by omega
   subst hii
   rw[List.take_length] at hk
   have hTk:T=k:=by rw[hT.out,hk]
   subst hTk
   replace hk:zB _:=trivial
   repeat' (first|(refine zD fun K hK=>?_)|(refine zA fun K hK=>?_;simp (disch:=omega) [go_sem, *])|(apply zB.out hK;clear hK K;try with_reducible dsimp only[zC])|(apply zB.out hf;clear ht hf Kt Kf)|(clear hK K;apply zB.out hK;clear hK K;try with_reducible dsimp only[zC])|(refine zT ?_;simp only[zC,zP,if_true])|(refine zF fun Kt Kf ht hf=>?_;simp (disch:=omega) [go_sem, *];try (refine⟨fun hc=>?_,fun hc=>?_⟩ <;> try (exfalso;omega))))
   exact zR
end Go.AM
namespace Go.AM
open Go.Proofs Cw Du Go.RowKit
set_option maxRecDepth 10000
set_option maxHeartbeats 4000000
theorem any_false_take {α:Type} (q:α→Bool) (l:List α) (h:∀j x,j < l.length→l[j]? = some x→q x=false):l.any q=false:=by
 rw[List.any_eq_false]
 intro x hx
 obtain⟨j,hj,e⟩:=List.mem_iff_getElem.1 hx
 rw[h j x hj (by rw[List.getElem?_eq_getElem hj,e])];simp
theorem inS_snoc (w t:ByteArray) (l:List ByteArray):inS w (l ++ [t])=(inS w l || (w.toList == t.toList)):=by
 rw[Bool.eq_iff_iff];simp[inS,List.any_append]
theorem ret_dyG {fl:Nat} {K:AV→zH→Nat→Prop} {m:Nat} {V:List Dy} {e:Int} {h:zH} {n:Nat} (hm:h m=some (.cells (flat (V.map dyA)))) (h0:V≠[]) (hk:ZD fl K (.agg [dyF V,iv .i64 e]) (h.upd m none) n):ZD fl K (.agg [.slc m 0 V.length 3,iv .i64 e]) h n:=by
 refine Qa true hm ?_
 have hfl:(flat (V.map dyA)).length=V.length * 3:=by
  have:=Zy (s:=3) (L:=V.map dyA) (fun y hy=>by obtain⟨o,_,rfl⟩:=List.mem_map.1 hy;exact dy_len o)
  rw[this,List.length_map]
 have ef:fzD m (flat (V.map dyA)) true (.agg [.slc m 0 V.length 3,iv .i64 e])=.agg [.fslc false false 3 (V.map dyA),iv .i64 e]:=by
  simp only[fzD,fzDL,Nat.zero_add,List.drop_zero]
  rw[if_pos ⟨trivial,by omega,by simp⟩,elemsY]
 rw[ef]
 simpa [dyF,h0] using hk
theorem rGaps_spec (nlL fuL:Bool) (sL:Nat) (ls:List Lin) (hnlL:ls=[]∨nlL=false∧sL=8) (hsL:smL ls) (hlL:ls.length≤1000000) (nl fu:Bool) (s:Nat) (l:List Ordr) (hnl:l=[]∨nl=false∧s=7) (hw:wfO l) (hs:smO l) (hl:l.length≤1000000)
  (tnl tfu:Bool) (tz:Nat) (ts:List ByteArray) (htn:ts=[]∨tnl=false∧tz=1) (htl:ts.length≤100) (hts:∀t ∈ ts,t.size≤1000000) (lo hi:Int) :
  zJ Tryz.prog 26 [.agg [.fslc nlL fuL sL (ls.map zg),.fslc nl fu s (l.map ZH)],.fslc tnl tfu tz (ts.map sv),.agg [iv .i64 lo,iv .i64 hi]] (.agg [dyF (jT ls l ts lo hi).1,iv .i64 (jT ls l ts lo hi).2]):=by
 intro h n
 have k1:=J9 nlL fuL sL ls hnlL hsL hlL nl fu s l hnl hw hs hl lo hi
 refine zQ.pure (zQ.entry (by kernel_rfl) fun hb _=>zV Tryz.func26 rfl (by kernel_rfl) (by simp[Tryz.ntmps26]) ?_)
 by_cases hc:Zc ls l lo hi=0
 ·rw[hc] at k1
  obtain⟨hc0,hlo,hlh,hhi⟩:=jD hc
  have hz:=j4 hc0 hsL
  have kd:=fun d h0 h4=>day_spec nlL fuL sL ls hnlL (by omega) hz.1 nl fu s (l.map ZH) d h0 h4
  have ke:=fun d=>dayR_eq ls (fun x hx=>(hz.1 x hx).2.2) d
  have ho:Ji ls l ts lo hi=if (ts.any fun t=>!z8 t)=true then 1 else if ts.length > 60 then 2 else if twS [] ts=true then 6 else 0:=by
   unfold Ji;rw[if_neg (by simpa using hc)]
  replace ho:zB _:=ho
  replace hz:zB _:=hz
  replace htn:zB _:=htn
  replace hts:zB _:=hts
  replace kd:zB _:=kd
  replace ke:zB _:=ke
  generalize hLL:List.map zg ls=LL at *
  generalize List.map ZH l=OO at *
  replace hLL:zB _:=hLL
  clear hc hc0 hsL hs hw hnl hnlL
  repeat' (first|(refine zD fun K hK=>?_)|(refine zA fun K hK=>?_;simp (disch:=omega) [go_sem, *,zG,Tryz.ntmps26])|(apply zB.out hK;clear hK K;try with_reducible dsimp only[zC])|(apply zB.out hf;clear ht hf Kt Kf)|(with_reducible refine zJ.gcall (k1) ?_;try simp (disch:=omega) [go_sem, *])|(refine zI ?_)|(refine zK ?_;simp only[zC])|(refine zF fun Kt Kf ht hf=>?_;simp (disch:=omega) [go_sem, *];try (refine⟨fun hc=>?_,fun hc=>?_⟩ <;> try (exfalso;omega))))
  obtain⟨H3,hH3⟩:∃H3,zB (H3=((h.upd n (some (.cells [.fslc nlL fuL sL LL,.fslc nl fu s OO]))).upd (n + 1) (some (.cells [iv .i64 lo,iv .i64 hi]))).upd (n + 2) (some (.cells [.fslc true true 0 [],iv .i64 0]))):=⟨_,rfl⟩
  have hb0:H3 n=some (.cells [.fslc nlL fuL sL LL,.fslc nl fu s OO]):=by rw[hH3.out];simp (disch:=omega) only[zG,zL]
  have hb1:H3 (n + 1)=some (.cells [iv .i64 lo,iv .i64 hi]):=by rw[hH3.out];simp (disch:=omega) only[zG,zL]
  have hb2:H3 (n + 2)=some (.cells [.fslc true true 0 [],iv .i64 0]):=by rw[hH3.out];simp (disch:=omega) only[zL]
  have hfr:zB (∀x,x < n→H3 x=h x):=fun x hx=>by rw[hH3.out];simp (disch:=omega) only[zG]
  have hno:zB (∀x,n + 3≤x→H3 x=none):=fun x hx=>by rw[hH3.out];simp (disch:=omega) only[zG];exact hb.none (by omega)
  simp only[←hH3.out]
  replace hH3:zB _:=trivial
  clear k1
  refine zW (fun s'=>∃(i n':Nat),n + 10≤n'∧i≤ts.length∧(∀j x,j < i→ts[j]? = some x→(!z8 x)=false)∧s'=⟨113,[(1,.fslc tnl tfu tz (List.map sv ts)),(3,.ptr n 0),(5,.ptr (n + 1) 0),(6,.ptr (n + 2) 0),(8,iv .i64 i)],H3,n'⟩)
   (fun s'=>ts.length - (zY s' 8).toNat) ?_ ?_
  ·exact zX (by simp[go_sem]) (Sub.refl _) ⟨0,_,by omega,by omega,fun j x hj=>by omega,rfl⟩
  ·rintro s' ⟨i,n',hn',hik,hall,rfl⟩
   replace hall:zB _:=hall
   by_cases hlt:i < ts.length
   ·obtain⟨t,ht⟩:∃t,ts[i]=t:=⟨_,rfl⟩
    have hne:ts≠[]:=fun e=>by rw[e] at hlt;simp at hlt
    obtain⟨rfl,rfl⟩:=htn.out.resolve_left hne
    have hmem:t ∈ ts:=ht ▸ List.getElem_mem hlt
    have k1:=name152 t (hts.out t hmem)
    cases hq:z8 t with
    | false=>
     rw[hq] at k1
     have ho2:jT ls l ts lo hi=([],1):=by
      have h1:(ts.any fun t=>!z8 t)=true:=by rw[List.any_eq_true];exact⟨t,hmem,by simp[hq]⟩
      have:Ji ls l ts lo hi=1:=by rw[ho.out,if_pos h1]
      unfold jT;rw[this];rfl
     replace ho2:zB _:=ho2
     clear hmem hne
     repeat' (first|(refine zD fun K hK=>?_)|(refine zA fun K hK=>?_;simp (disch:=omega) [go_sem, *,zN,zO])|(apply zB.out hK;clear hK K;try with_reducible dsimp only[zC])|(apply zB.out ht;clear ht hf Kt Kf)|(with_reducible refine zJ.gcall (k1) ?_;try simp (disch:=omega) [go_sem, *])|(refine zI ?_)|(refine zK ?_;simp only[zC])|(refine zF fun Kt Kf ht hf=>?_;simp (disch:=omega) [go_sem, *];try (refine⟨fun hc=>?_,fun hc=>?_⟩ <;> try (exfalso;omega))))
     refine zf ?_
     try dsimp only[zC,zP]
     try rw[ho2.out,show dyF []=.fslc true true 0 [] from rfl]
     refine⟨by simp,_,(by first | rfl|(simp (disch:=omega) [go_sem] <;> rfl)),?_⟩
     exact zZ ⟨fun k hk=>by simp (disch:=omega) only[zG];exact hfr.out k (by omega),by simp[go_sem,below,belowL,ZW],by rfl,by simp,by simp⟩
    | true=>
     rw[hq] at k1
     have hst:zB (∀j x,j < i + 1→ts[j]? = some x→(!z8 x)=false):=fun j x hj e=>by
      by_cases hji:j=i
      ·subst hji
       rw[List.getElem?_eq_getElem hlt,ht] at e
       rw[←Option.some.inj e,hq];rfl
      ·exact hall.out j x (by omega) e
     clear hmem hne
     repeat' (first|(refine zD fun K hK=>?_)|(refine zA fun K hK=>?_;simp (disch:=omega) [go_sem, *,zM,zN,zO])|(apply zB.out hK;clear hK K;try with_reducible dsimp only[zC])|(apply zB.out ht;clear ht hf Kt Kf)|(apply zB.out hf;clear ht hf Kt Kf)|(with_reducible refine zJ.gcall (k1) ?_;try simp (disch:=omega) [go_sem, *])|(refine zI ?_)|(refine zK ?_;simp only[zC,zP])|(refine zF fun Kt Kf ht hf=>?_;simp (disch:=omega) [go_sem, *];try (refine⟨fun hc=>?_,fun hc=>?_⟩ <;> try (exfalso;omega))))
     exact zS (by simp (disch:=omega) [go_sem]) (Sub.refl _) ⟨i + 1,_,by omega,by omega,hst.out,rfl⟩ (by simp[zY,go_sem];omega)
   ·have hii:i=ts.length:=by omega
    subst hii
    have hany:(ts.any fun t=>!z8 t)=false:=any_false_take _ _ hall.out
    replace hall:zB _:=trivial
    by_cases h60:ts.length > 60
    ·have ho2:jT ls l ts lo hi=([],2):=by
      have:Ji ls l ts lo hi=2:=by rw[ho.out,if_neg (by rw[hany];simp),if_pos h60]
      unfold jT;rw[this];rfl
     replace ho2:zB _:=ho2
     clear hany
     repeat' (first|(refine zD fun K hK=>?_)|(refine zA fun K hK=>?_;simp (disch:=omega) [go_sem, *,zN])|(apply zB.out hK;clear hK K;try with_reducible dsimp only[zC])|(apply zB.out ht;clear ht hf Kt Kf)|(apply zB.out hf;clear ht hf Kt Kf)|(clear hK K;apply zB.out hK;clear hK K;try with_reducible dsimp only[zC])|(refine zT ?_;simp only[zC,zP,if_true])|(refine zF fun Kt Kf ht hf=>?_;simp (disch:=omega) [go_sem, *];try (refine⟨fun hc=>?_,fun hc=>?_⟩ <;> try (exfalso;omega))))
     refine zf ?_
     try dsimp only[zC,zP]
     try rw[ho2.out,show dyF []=.fslc true true 0 [] from rfl]
     refine⟨by simp,_,(by first | rfl|(simp (disch:=omega) [go_sem] <;> rfl)),?_⟩
     exact zZ ⟨fun k hk=>by simp (disch:=omega) only[zG];exact hfr.out k (by omega),by simp[go_sem,below,belowL,ZW],by rfl,by simp,by simp⟩
    ·have ho2:Ji ls l ts lo hi=if twS [] ts=true then 6 else 0:=by rw[ho.out,if_neg (by rw[hany];simp),if_neg h60]
     replace ho2:zB _:=ho2
     clear hany
     repeat' (first|(refine zD fun K hK=>?_)|(refine zA fun K hK=>?_;simp (disch:=omega) [go_sem, *,zU])|(apply zB.out hK;clear hK K;try with_reducible dsimp only[zC])|(apply zB.out hf;clear ht hf Kt Kf)|(clear hK K;apply zB.out hK;clear hK K;try with_reducible dsimp only[zC])|(refine zI ?_)|(refine zK ?_;simp only[zC])|(refine zT ?_;simp only[zC,zP,if_true])|(refine zF fun Kt Kf ht hf=>?_;simp (disch:=omega) [go_sem, *];try (refine⟨fun hc=>?_,fun hc=>?_⟩ <;> try (exfalso;omega))))
     refine zW (fun s'=>∃(i n':Nat),n + 10≤n'∧i≤ts.length∧twS (ts.take i) (ts.drop i)=twS [] ts∧s'=⟨113,[(1,.fslc tnl tfu tz (List.map sv ts)),(3,.ptr n 0),(5,.ptr (n + 1) 0),(6,.ptr (n + 2) 0),(10,iv .i64 i)],H3,n'⟩)
      (fun s'=>ts.length - (zY s' 10).toNat) ?_ ?_
     ·exact zX (by simp[go_sem]) (Sub.refl _) ⟨0,_,by omega,by omega,by simp,rfl⟩
     ·rintro s' ⟨i,n',hn',hik,htw,rfl⟩
      by_cases hlt2:i < ts.length
      ·obtain⟨t,ht⟩:∃t,ts[i]=t:=⟨_,rfl⟩
       have hne:ts≠[]:=fun e=>by rw[e] at hlt2;simp at hlt2
       obtain⟨rfl,rfl⟩:=htn.out.resolve_left hne
       have hdr:ts.drop i=t :: ts.drop (i + 1):=by rw[List.drop_eq_getElem_cons hlt2,ht]
       have htk:ts.take i ++ [t]=ts.take (i + 1):=by rw[List.take_succ_eq_append_getElem hlt2,ht]
       rw[hdr,twS,htk] at htw
       replace htw:zB _:=htw
       replace hdr:zB _:=trivial
       replace htk:zB _:=trivial
       clear hne
       repeat' (first|(refine zD fun K hK=>?_)|(refine zA fun K hK=>?_;simp (disch:=omega) [go_sem, *,zN])|(apply zB.out hK;clear hK K;try with_reducible dsimp only[zC])|(apply zB.out ht;clear ht hf Kt Kf)|(refine zI ?_)|(refine zK ?_;simp only[zC])|(refine zF fun Kt Kf ht hf=>?_;simp (disch:=omega) [go_sem, *];try (refine⟨fun hc=>?_,fun hc=>?_⟩ <;> try (exfalso;omega))))
       refine zW (fun s'=>∃(k n':Nat),n + 10≤n'∧k≤i∧inS t (ts.take k)=false∧s'=⟨113,[(1,.fslc false tfu 1 (List.map sv ts)),(3,.ptr n 0),(5,.ptr (n + 1) 0),(6,.ptr (n + 2) 0),(10,iv .i64 i),(11,iv .i64 k)],H3,n'⟩)
        (fun s'=>i - (zY s' 11).toNat) ?_ ?_
       ·exact zX (by simp[go_sem]) (Sub.refl _) ⟨0,_,by omega,by omega,by simp[inS],rfl⟩
       ·rintro s' ⟨k,n'',hn'',hk,hin,rfl⟩
        by_cases hki:k < i
        ·have hkl:k < ts.length:=by omega
         obtain⟨y,hy⟩:∃y,ts[k]=y:=⟨_,rfl⟩
         have htk:ts.take (k + 1)=ts.take k ++ [y]:=by rw[List.take_succ_eq_append_getElem hkl,hy]
         cases hq:(t.toList == y.toList) with
         | true=>
          have hin2:inS t (ts.take i)=true:=by
           have hmem:y ∈ ts.take i:=by
            rw[List.mem_take_iff_getElem];exact⟨k,by omega,hy⟩
           unfold inS
           rw[List.any_eq_true]
           exact⟨y,hmem,hq⟩
          have htw2:=htw.out
          rw[hin2,Bool.true_or] at htw2
          have ho3:=ho2.out
          rw[←htw2,if_pos rfl] at ho3
          have ho2:zB (jT ls l ts lo hi=([],6)):=by
           show jT ls l ts lo hi=([],6)
           unfold jT;rw[ho3];rfl
          clear htw2 ho3 hin2 htk hin
          repeat' (first|(refine zD fun K hK=>?_)|(refine zA fun K hK=>?_;simp (disch:=omega) [go_sem, *,zN])|(refine zj mixed (by kernel_rfl) fun K hK=>?_;simp (disch:=omega) [go_sem, *,zO])|(apply zB.out hK;clear hK K;try with_reducible dsimp only[zC])|(apply zB.out ht;clear ht hf Kt Kf)|(refine zI ?_)|(refine zK ?_;simp only[zC])|(refine zF fun Kt Kf ht hf=>?_;simp (disch:=omega) [go_sem, *];try (refine⟨fun hc=>?_,fun hc=>?_⟩ <;> try (exfalso;omega))))
          refine zf ?_
          try dsimp only[zC,zP]
          try rw[ho2.out,show dyF []=.fslc true true 0 [] from rfl]
          refine⟨by simp,_,(by first | rfl|(simp (disch:=omega) [go_sem] <;> rfl)),?_⟩
          exact zZ ⟨fun k hk=>by simp (disch:=omega) only[zG];exact hfr.out k (by omega),by simp[go_sem,below,belowL,ZW],by rfl,by simp,by simp⟩
         | false=>
          have hin2:inS t (ts.take (k + 1))=false:=by rw[htk,inS_snoc,hin,hq];rfl
          replace hin2:zB _:=hin2
          clear htk hin
          repeat' (first|(refine zD fun K hK=>?_)|(refine zA fun K hK=>?_;simp (disch:=omega) [go_sem, *,zM,zN])|(refine zj mixed (by kernel_rfl) fun K hK=>?_;simp (disch:=omega) [go_sem, *,zO])|(apply zB.out hK;clear hK K;try with_reducible dsimp only[zC])|(apply zB.out ht;clear ht hf Kt Kf)|(apply zB.out hf;clear ht hf Kt Kf)|(refine zI ?_)|(refine zK ?_;simp only[zC,zP])|(refine zF fun Kt Kf ht hf=>?_;simp (disch:=omega) [go_sem, *];try (refine⟨fun hc=>?_,fun hc=>?_⟩ <;> try (exfalso;omega))))
          exact zS (by simp (disch:=omega) [go_sem]) (Sub.refl _) ⟨k + 1,_,by omega,by omega,hin2.out,rfl⟩ (by simp[zY,go_sem];omega)
        ·have hkk:k=i:=by omega
         subst hkk
         have htw2:=htw.out
         rw[hin,Bool.false_or] at htw2
         replace htw2:zB _:=htw2
         clear hin
         repeat' (first|(refine zD fun K hK=>?_)|(refine zA fun K hK=>?_;simp (disch:=omega) [go_sem, *,zM])|(apply zB.out hK;clear hK K;try with_reducible dsimp only[zC])|(apply zB.out hf;clear ht hf Kt Kf)|(clear hK K;apply zB.out hK;clear hK K;try with_reducible dsimp only[zC])|(refine zT ?_;simp only[zC,zP,if_true,if_false,Nat.reduceEqDiff])|(refine zF fun Kt Kf ht hf=>?_;simp (disch:=omega) [go_sem, *];try (refine⟨fun hc=>?_,fun hc=>?_⟩ <;> try (exfalso;omega))))
         exact zS (by simp (disch:=omega) [go_sem]) (Sub.refl _) ⟨k + 1,_,by omega,by omega,htw2.out,rfl⟩ (by simp[zY,go_sem];omega)
      ·have hii2:i=ts.length:=by omega
       subst hii2
       rw[List.drop_length,List.take_length,twS] at htw
       have ho3:jT ls l ts lo hi=(Jl ls ts lo (hi + 1 - lo).toNat,0):=by
        have:Ji ls l ts lo hi=0:=by rw[ho2.out,←htw];rfl
        unfold jT;rw[this];rfl
       replace ho3:zB _:=ho3
       replace htw:zB _:=trivial
       repeat' (first|(refine zD fun K hK=>?_)|(refine zA fun K hK=>?_;simp (disch:=omega) [go_sem, *])|(apply zB.out hK;clear hK K;try with_reducible dsimp only[zC])|(apply zB.out hf;clear ht hf Kt Kf)|(clear hK K;apply zB.out hK;clear hK K;try with_reducible dsimp only[zC])|(refine zI ?_)|(refine zT ?_;simp only[zC,zP,if_true])|(refine zF fun Kt Kf ht hf=>?_;simp (disch:=omega) [go_sem, *];try (refine⟨fun hc=>?_,fun hc=>?_⟩ <;> try (exfalso;omega))))
       have hbb:∀x,x < n + 3→H3 x=H3 x:=fun _ _=>rfl
       refine zW (fun s'=>∃(d:Int) (n' q:Nat) (V:List Dy) (H:zH),n + 10≤n'∧lo≤d∧d≤hi + 1∧n + 3≤q∧q < n'∧V=Jl ls ts lo (d - lo).toNat∧(∀x,x < n + 3→H x=H3 x)∧H q=acO (V.map dyA)∧s'=⟨113,[(1,.fslc tnl tfu tz (List.map sv ts)),(3,.ptr n 0),(5,.ptr (n + 1) 0),(6,.ptr (n + 2) 0),(12,acV 3 q (V.map dyA)),(13,iv .i64 d)],H,n'⟩)
        (fun s'=>(hi + 1 - zY s' 13).toNat) ?_ ?_
       ·exact zX (by simp[go_sem,jk]) (Sub.refl _) ⟨lo,_,n + 3,[],H3,by omega,by omega,by omega,by omega,by omega,by rw[Int.sub_self];rfl,fun _ _=>rfl,hno.out _ (by omega),rfl⟩
       ·rintro s' ⟨d,n',q,V,H,r1,r2,r3,r4,r5,r6,r7,r8,rfl⟩
        have f0:H n=some (.cells [.fslc nlL fuL sL LL,.fslc nl fu s OO]):=(r7 _ (by omega)).trans hb0
        have f1:H (n + 1)=some (.cells [iv .i64 lo,iv .i64 hi]):=(r7 _ (by omega)).trans hb1
        replace r7:zB _:=r7
        replace r8:zB _:=r8
        by_cases hdh:d≤hi
        ·have k2:=kd.out d (by omega) (by omega)
         rw[ke.out d] at k2
         change zJ _ _ _ (Ze d (duR ls d)) at k2
         have hSl:=qA ls d
         have hV':Jl ls ts lo (d + 1 - lo).toNat=V ++ (ts.filter fun t=>!(duR ls d).any fun p=>eqB p.1 t).map fun t=>(d,t,ByteArray.empty):=by rw[r6];unfold Jl;rw[dys_to lo d r2,List.flatMap_append];simp[gapsD]
         have hVl:V.length≤100000:=by
          rw[r6]
          have h1:=QM ls ts (d - lo).toNat lo
          have:(d - lo).toNat * ts.length≤400 * 100:=Nat.mul_le_mul (by omega) htl
          omega
         have hls:=hz.out.2.1
         generalize duR ls d=S at *
         obtain⟨nl2,s2,e2,e3⟩:=dutF_is d S
         rw[e2] at k2
         replace e2:zB _:=trivial
         replace e3:zB _:=e3
         replace hV':zB _:=hV'
         replace r6:zB _:=trivial
         repeat' (first|(refine zD fun K hK=>?_)|(refine zA fun K hK=>?_;simp (disch:=omega) [go_sem, *])|(apply zB.out hK;clear hK K;try with_reducible dsimp only[zC])|(apply zB.out ht;clear ht hf Kt Kf)|(with_reducible refine zJ.gcall (k2) ?_;try simp (disch:=omega) [go_sem, *])|(refine zI ?_)|(refine zK ?_;simp only[zC])|(refine zF fun Kt Kf ht hf=>?_;simp (disch:=omega) [go_sem, *];try (refine⟨fun hc=>?_,fun hc=>?_⟩ <;> try (exfalso;omega))))
         refine zW (fun s'=>∃(i n4 q':Nat) (V':List Dy) (H':zH),n + 10≤n4∧i≤ts.length∧n + 3≤q'∧q' < n4∧V'=V ++ List.map (fun t=>(d,t,ByteArray.empty)) (List.filter (fun t=>!S.any fun p=>eqB p.fst t) (ts.take i))∧(∀x,x < n + 3→H' x=H3 x)∧H' q'=acO (V'.map dyA)∧
           s'=⟨113,[(1,.fslc tnl tfu tz (List.map sv ts)),(3,.ptr n 0),(5,.ptr (n + 1) 0),(6,.ptr (n + 2) 0),(12,acV 3 q' (V'.map dyA)),(13,iv .i64 d),(14,.fslc nl2 nl2 s2 (List.map (dutyA d) S)),(15,iv .i64 i)],H',n4⟩)
          (fun s'=>ts.length - (zY s' 15).toNat) ?_ ?_
         ·exact zX (by simp[go_sem]) (Sub.refl _) ⟨0,_,q,V,H,by omega,by omega,by omega,by omega,by simp,r7.out,r8.out,rfl⟩
         ·rintro s' ⟨i,n4,q',V',H',p1,p2,p3,p4,p6,p7,p8,rfl⟩
          replace p7:zB _:=p7
          replace p8:zB _:=p8
          by_cases hlt3:i < ts.length
          ·obtain⟨t,ht⟩:∃t,ts[i]=t:=⟨_,rfl⟩
           have hne:ts≠[]:=fun e=>by rw[e] at hlt3;simp at hlt3
           obtain⟨rfl,rfl⟩:=htn.out.resolve_left hne
           have htk:ts.take (i + 1)=ts.take i ++ [t]:=by rw[List.take_succ_eq_append_getElem hlt3,ht]
           have hVl':V'.length≤200000:=by
            rw[p6,List.length_append,List.length_map]
            have:=List.length_filter_le (fun t=>!S.any fun p=>eqB p.fst t) (ts.take i)
            rw[List.length_take] at this;omega
           have hst:V ++ List.map (fun t=>(d,t,ByteArray.empty)) (List.filter (fun t=>!S.any fun p=>eqB p.fst t) (ts.take (i + 1)))=V' ++ if (S.any fun p=>eqB p.fst t)=true then [] else [(d,t,ByteArray.empty)]:=by
            rw[htk,List.filter_append,List.map_append,←List.append_assoc,←p6]
            cases e:S.any fun p=>eqB p.fst t <;> simp[e]
           replace hst:zB _:=hst
           replace htk:zB _:=trivial
           replace p6:zB _:=trivial
           clear hne
           repeat' (first|(refine zD fun K hK=>?_)|(refine zA fun K hK=>?_;simp (disch:=omega) [go_sem, *,zN])|(apply zB.out hK;clear hK K;try with_reducible dsimp only[zC])|(apply zB.out ht;clear ht hf Kt Kf)|(refine zI ?_)|(refine zK ?_;simp only[zC])|(refine zF fun Kt Kf ht hf=>?_;simp (disch:=omega) [go_sem, *];try (refine⟨fun hc=>?_,fun hc=>?_⟩ <;> try (exfalso;omega))))
           refine zW (fun s'=>∃(k n5:Nat) (z:Bool),n4≤n5∧k≤S.length∧z=((S.take k).any fun p=>eqB p.fst t)∧
             s'=⟨113,[(1,.fslc false tfu 1 (List.map sv ts)),(3,.ptr n 0),(5,.ptr (n + 1) 0),(6,.ptr (n + 2) 0),(12,acV 3 q' (V'.map dyA)),(13,iv .i64 d),(14,.fslc nl2 nl2 s2 (List.map (dutyA d) S)),(15,iv .i64 i),(16,bv z),(17,iv .i64 k)],H',n5⟩)
            (fun s'=>S.length - (zY s' 17).toNat) ?_ ?_
           ·exact zX (by simp[go_sem]) (Sub.refl _) ⟨0,_,false,by omega,by omega,by simp,rfl⟩
           ·rintro s' ⟨k,n5,z,u1,u2,u3,rfl⟩
            by_cases hkS:k < S.length
            ·obtain⟨p,hp⟩:∃p,S[k]=p:=⟨_,rfl⟩
             have hneS:S≠[]:=fun e=>by rw[e] at hkS;simp at hkS
             obtain⟨rfl,rfl⟩:=e3.out.resolve_left hneS
             have hnext:((S.take (k + 1)).any fun p=>eqB p.fst t)=(z || eqB p.1 t):=by
              rw[List.take_succ_eq_append_getElem hkS,hp,List.any_append,←u3];simp
             have hex:dutyA d S[k]=.agg [iv .i64 d,sv p.1,sv p.2]:=by rw[hp];rfl
             replace hp:zB _:=hp
             replace u3:zB _:=trivial
             clear hneS
             replace hnext:zB _:=hnext
             cases z with
             | true=>
              have hnext:=hnext.out
              rw[Bool.true_or] at hnext
              replace hnext:zB _:=hnext
              repeat' (first|(refine zD fun K hK=>?_)|(refine zA fun K hK=>?_;simp (disch:=omega) [go_sem, *,zM,zN])|(refine zj mixed (by kernel_rfl) fun K hK=>?_;simp (disch:=omega) [go_sem, *])|(apply zB.out hK;clear hK K;try with_reducible dsimp only[zC])|(apply zB.out ht;clear ht hf Kt Kf)|(refine zI ?_)|(refine zK ?_;simp only[zC])|(refine zF fun Kt Kf ht hf=>?_;simp (disch:=omega) [go_sem, *];try (refine⟨fun hc=>?_,fun hc=>?_⟩ <;> try (exfalso;omega))))
              exact zS (by simp (disch:=omega) [go_sem]) (Sub.refl _) ⟨k + 1,_,true,by omega,by omega,hnext.out.symm,rfl⟩ (by simp[zY,go_sem];omega)
             | false=>
              have hnext:=hnext.out
              rw[Bool.false_or] at hnext
              unfold eqB at hnext
              cases hq:(p.1.toList == t.toList) with
              | true=>
               rw[hq] at hnext
               replace hnext:zB _:=hnext
               repeat' (first|(refine zD fun K hK=>?_)|(refine zA fun K hK=>?_;simp (disch:=omega) [go_sem, *,zM,zN])|(refine zj mixed (by kernel_rfl) fun K hK=>?_;simp (disch:=omega) [go_sem, *,zO])|(apply zB.out hK;clear hK K;try with_reducible dsimp only[zC])|(apply zB.out ht;clear ht hf Kt Kf)|(refine zI ?_)|(refine zK ?_;simp only[zC])|(refine zF fun Kt Kf ht hf=>?_;simp (disch:=omega) [go_sem, *];try (refine⟨fun hc=>?_,fun hc=>?_⟩ <;> try (exfalso;omega))))
               exact zS (by simp (disch:=omega) [go_sem]) (Sub.refl _) ⟨k + 1,_,true,by omega,by omega,hnext.out.symm,rfl⟩ (by simp[zY,go_sem];omega)
              | false=>
               rw[hq] at hnext
               replace hnext:zB _:=hnext
               repeat' (first|(refine zD fun K hK=>?_)|(refine zA fun K hK=>?_;simp (disch:=omega) [go_sem, *,zM,zN])|(refine zj mixed (by kernel_rfl) fun K hK=>?_;simp (disch:=omega) [go_sem, *,zO])|(apply zB.out hK;clear hK K;try with_reducible dsimp only[zC])|(apply zB.out ht;clear ht hf Kt Kf)|(refine zI ?_)|(refine zK ?_;simp only[zC])|(refine zF fun Kt Kf ht hf=>?_;simp (disch:=omega) [go_sem, *];try (refine⟨fun hc=>?_,fun hc=>?_⟩ <;> try (exfalso;omega))))
               exact zS (by simp (disch:=omega) [go_sem]) (Sub.refl _) ⟨k + 1,_,false,by omega,by omega,hnext.out.symm,rfl⟩ (by simp[zY,go_sem];omega)
            ·have hkk:k=S.length:=by omega
             subst hkk
             rw[List.take_length] at u3
             have hst:=hst.out
             rw[←u3] at hst
             replace u3:zB _:=trivial
             cases z with
             | true=>
              rw[if_pos rfl,List.append_nil] at hst
              replace hst:zB _:=hst
              repeat' (first|(refine zD fun K hK=>?_)|(refine zA fun K hK=>?_;simp (disch:=omega) [go_sem, *,zM])|(apply zB.out hK;clear hK K;try with_reducible dsimp only[zC])|(apply zB.out hf;clear ht hf Kt Kf)|(clear hK K;apply zB.out hK;clear hK K;try with_reducible dsimp only[zC])|(refine zK ?_;simp only[zC,zP])|(refine zT ?_;simp only[zC,zP,if_true,if_false,Nat.reduceEqDiff])|(refine zF fun Kt Kf ht hf=>?_;simp (disch:=omega) [go_sem, *];try (refine⟨fun hc=>?_,fun hc=>?_⟩ <;> try (exfalso;omega))))
              exact zS (by simp (disch:=omega) [go_sem]) (Sub.refl _) ⟨i + 1,_,q',V',H',by omega,by omega,by omega,by omega,hst.out.symm,p7.out,p8.out,rfl⟩ (by simp[zY,go_sem];omega)
             | false=>
              rw[if_neg (by simp)] at hst
              replace hst:zB _:=hst
              repeat' (first|(refine zD fun K hK=>?_)|(refine zA fun K hK=>?_;simp (disch:=omega) [go_sem, *,zO])|(apply zB.out hK;clear hK K;try with_reducible dsimp only[zC])|(apply zB.out ht;clear ht hf Kt Kf)|(apply zB.out hf;clear ht hf Kt Kf)|(clear hK K;apply zB.out hK;clear hK K;try with_reducible dsimp only[zC])|(refine zT ?_;simp only[zC,zP,if_true,if_false,Nat.reduceEqDiff])|(refine zF fun Kt Kf ht hf=>?_;simp (disch:=omega) [go_sem, *];try (refine⟨fun hc=>?_,fun hc=>?_⟩ <;> try (exfalso;omega))))
              have hap:=ap_dy (nm:=n5 + 4 + 2 + 8) (m:=q') (V:=V') (X:=[(d,t,ByteArray.empty)]) (h:=H') (b:=false) (c:=false) p8.out (by simp) (by simp;omega)
              simp only[List.map_cons,List.map_nil,dyA,dutyA] at hap
              rw[hap]
              have s8:=zL (H'.upd q' none) (n5 + 4 + 2 + 8) (acO ((V' ++ [(d,t,ByteArray.empty)]).map dyA))
              have s10:∀x,x < n + 3→((H'.upd q' none).upd (n5 + 4 + 2 + 8) (acO ((V' ++ [(d,t,ByteArray.empty)]).map dyA))) x=H3 x:=fun x hx=>by rw[zG _ _ _ _ (by omega),zG _ _ _ _ (by omega)];exact p7.out x hx
              generalize (H'.upd q' none).upd (n5 + 4 + 2 + 8) (acO ((V' ++ [(d,t,ByteArray.empty)]).map dyA))=H7 at *
              replace hap:zB _:=trivial
              replace s8:zB _:=s8
              replace s10:zB _:=s10
              simp (disch:=omega) [go_sem]
              repeat' (first|(refine zA fun K hK=>?_;simp (disch:=omega) [go_sem, *,zM])|(apply zB.out hK;clear hK K;try with_reducible dsimp only[zC]))
              exact zS (by simp (disch:=omega) [go_sem]) (Sub.refl _) ⟨i + 1,_,n5 + 4 + 2 + 8,V' ++ [(d,t,ByteArray.empty)],H7,by omega,by omega,by omega,by omega,hst.out.symm,s10.out,s8.out,rfl⟩ (by simp[zY,go_sem];omega)
          ·have hii3:i=ts.length:=by omega
           subst hii3
           rw[List.take_length,←hV'.out] at p6
           replace p6:zB _:=p6
           repeat' (first|(refine zD fun K hK=>?_)|(refine zA fun K hK=>?_;simp (disch:=omega) [go_sem, *,zM])|(apply zB.out hK;clear hK K;try with_reducible dsimp only[zC])|(apply zB.out hf;clear ht hf Kt Kf)|(clear hK K;apply zB.out hK;clear hK K;try with_reducible dsimp only[zC])|(refine zT ?_;simp only[zC,zP,if_true,if_false,Nat.reduceEqDiff])|(refine zF fun Kt Kf ht hf=>?_;simp (disch:=omega) [go_sem, *];try (refine⟨fun hc=>?_,fun hc=>?_⟩ <;> try (exfalso;omega))))
           exact zS (by simp (disch:=omega) [go_sem]) (Sub.refl _) ⟨d + 1,_,q',V',H',by omega,by omega,by omega,by omega,by omega,p6.out,p7.out,p8.out,rfl⟩ (by simp[zY,go_sem];omega)
        ·have hdd:d=hi + 1:=by omega
         subst hdd
         have ho4:=ho3.out
         rw[←r6] at ho4
         replace ho4:zB _:=ho4
         replace r6:zB _:=trivial
         have f2:H (n + 2)=some (.cells [.fslc true true 0 [],iv .i64 0]):=(r7.out _ (by omega)).trans hb2
         by_cases hV0:V=[]
         ·subst hV0
          simp only[List.map_nil,jk]
          replace r8:zB _:=trivial
          repeat' (first|(refine zD fun K hK=>?_)|(refine zA fun K hK=>?_;simp (disch:=omega) [go_sem, *])|(apply zB.out hK;clear hK K;try with_reducible dsimp only[zC])|(apply zB.out hf;clear ht hf Kt Kf)|(clear hK K;apply zB.out hK;clear hK K;try with_reducible dsimp only[zC])|(refine zT ?_;simp only[zC,zP,if_true])|(refine zF fun Kt Kf ht hf=>?_;simp (disch:=omega) [go_sem, *];try (refine⟨fun hc=>?_,fun hc=>?_⟩ <;> try (exfalso;omega))))
          refine zf ?_
          try dsimp only[zC,zP]
          refine⟨by simp,_,(by first | rfl|(simp (disch:=omega) [go_sem] <;> rfl)),?_⟩
          rw[ho4.out]
          exact zZ ⟨fun k hk=>by rw[zG _ _ _ _ (by omega),r7.out k (by omega)];exact hfr.out k hk,by simp[go_sem,below,belowL,ZW],by rfl,by simp,by simp⟩
         ·have hV1:V.map dyA≠[]:=by simpa using hV0
          have ev:acV 3 q (V.map dyA)=.slc q 0 V.length 3:=by rw[ZQ hV1,List.length_map]
          have em:H q=some (.cells (flat (V.map dyA))):=by rw[r8.out,Zm hV1]
          rw[ev]
          replace ev:zB _:=ev
          replace em:zB _:=em
          replace hV0:zB _:=hV0
          clear hV1
          repeat' (first|(refine zD fun K hK=>?_)|(refine zA fun K hK=>?_;simp (disch:=omega) [go_sem, *])|(apply zB.out hK;clear hK K;try with_reducible dsimp only[zC])|(apply zB.out hf;clear ht hf Kt Kf)|(clear hK K;apply zB.out hK;clear hK K;try with_reducible dsimp only[zC])|(refine zT ?_;simp only[zC,zP,if_true])|(refine zF fun Kt Kf ht hf=>?_;simp (disch:=omega) [go_sem, *];try (refine⟨fun hc=>?_,fun hc=>?_⟩ <;> try (exfalso;omega))))
          refine zf ?_
          try dsimp only[zC,zP]
          refine⟨by simp,_,(by first | rfl|(simp (disch:=omega) [go_sem] <;> rfl)),?_⟩
          rw[ho4.out]
          show ZD _ _ (AV.agg [.slc q 0 V.length 3,iv .i64 0]) _ _
          refine ret_dyG (by rw[zG _ _ _ _ (by omega)];exact em.out) hV0.out ?_
          exact zZ ⟨fun k hk=>by rw[zG _ _ _ _ (by omega),zG _ _ _ _ (by omega),r7.out k (by omega)];exact hfr.out k hk,by simp[below,belowL,QN],rfl,by simp,by simp⟩
 ·have hne:(Zc ls l lo hi != 0)=true:=by simpa using hc
  have ho:jT ls l ts lo hi=([],Zc ls l lo hi):=by
   have:Ji ls l ts lo hi=Zc ls l lo hi:=by unfold Ji;rw[if_pos hc]
   unfold jT;rw[this,if_pos hc]
  rw[ho,show dyF []=.fslc true true 0 [] from rfl]
  generalize Zc ls l lo hi=e at *
  generalize List.map zg ls=LL at *
  generalize List.map ZH l=OO at *
  generalize List.map sv ts=TT at *
  clear ho hc hsL hs hw hnl hnlL hts htn
  repeat' (first|(refine zD fun K hK=>?_)|(refine zA fun K hK=>?_;simp (disch:=omega) [go_sem, *,zG,Tryz.ntmps26])|(apply zB.out hK;clear hK K;try with_reducible dsimp only[zC])|(apply zB.out ht;clear ht hf Kt Kf)|(with_reducible refine zJ.gcall (k1) ?_;try simp (disch:=omega) [go_sem, *])|(refine zF fun Kt Kf ht hf=>?_;simp (disch:=omega) [go_sem, *];try (refine⟨fun hc=>?_,fun hc=>?_⟩ <;> try (exfalso;omega))))
  (refine zf ?_;try dsimp only[zC,zP];refine⟨by simp,_,(by first | rfl|(simp (disch:=omega) [go_sem] <;> rfl)),?_⟩;refine zZ ⟨fun k hk=>(by first | rfl|(repeat rw[zG _ _ _ _ (by omega)])),(by simp[go_sem,below,belowL]),(by simp[go_sem] <;> omega),by simp,by simp⟩)
end Go.AM
