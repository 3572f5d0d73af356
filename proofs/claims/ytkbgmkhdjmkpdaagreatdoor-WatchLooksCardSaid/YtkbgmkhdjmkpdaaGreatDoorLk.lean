/- The law WatchLooks, walked. Conditions: as each theorem says. -/
import Derived.Test.YtkbgmkhdjmkpdaaGreatDoorSy
import Derived.Test.YtkbgmkhdjmkpdaaGreatDoorFx
import Derived.Test.YtkbgmkhdjmkpdaaGreatDoorSe
namespace Go.AM
open Go.Proofs Cw Du Go.RowKit
set_option maxRecDepth 10000
set_option maxHeartbeats 4000000
theorem fewW_sm {ls:List Lin} {l:List Ordr} (h:fewW ls l=true) (hL:∀x ∈ ls,Qe x∧x.exc.length≤9223372036854775807) (_hw:wfO l):smL ls∧smO l∧ls.length≤1000000∧l.length≤1000000:=by
 simp only[fewW,Bool.and_eq_true,List.all_eq_true] at h
 obtain⟨⟨⟨h1,h2⟩,h3⟩,h4⟩:=h
 simp only[JH,Bool.or_eq_true,Bool.and_eq_true,decide_eq_true_eq] at h3 h4
 refine⟨fun x hx=>?_,fun o ho=>?_,by omega,by omega⟩
 ·have:=h1 x hx
  simp only[litL,Bool.and_eq_true,decide_eq_true_eq] at this
  exact⟨(hL x hx).1,by omega,by omega,by omega,by omega⟩
 ·have:=h2 o ho
  simp only[lit,Bool.and_eq_true,decide_eq_true_eq] at this
  exact⟨by omega,by omega⟩
end Go.AM
namespace Go.AM
open Go.Proofs Cw Du
set_option maxRecDepth 10000
set_option maxHeartbeats 4000000
def nmsF (l:List ByteArray):Bool:=l.all (fun t=>decide (t.size≤60)) && JH 8 60 100 l.length
theorem names_spec (nl:Bool) (l:List ByteArray) (hnl:l=[]∨nl=false∧1=1) (hl:l.length≤9223372036854775807):zJ Tryz.prog 25 [.fslc nl false 1 (l.map sv)] (bv (nmsF l)):=by
 intro h n
 refine zQ.pure (zQ.entry (by kernel_rfl) fun hb _=>zV Tryz.func25 rfl (by kernel_rfl) (by simp[Tryz.ntmps25]) ?_)
 obtain⟨T,hT⟩:∃T,zB (T=nmsF l):=⟨_,rfl⟩
 rw[←hT.out]
 replace hnl:zB _:=hnl
 repeat' (first|(refine zD fun K hK=>?_)|(refine zA fun K hK=>?_;simp (disch:=omega) [go_sem, *,Tryz.ntmps25])|(apply zB.out hK;clear hK K;try with_reducible dsimp only[zC])|(refine zI ?_))
 refine zW (fun s'=>∃(i n':Nat),n≤n'∧i≤l.length∧(∀j x,j < i→l[j]? = some x→x.size≤60)∧s'=⟨29,[(0,.fslc nl false 1 (l.map sv)),(3,iv .i64 i)],h,n'⟩)
  (fun s'=>l.length - (zY s' 3).toNat) ?_ ?_
 ·exact zX (by simp[go_sem]) (Sub.refl _) ⟨0,_,by omega,by omega,fun j o hj=>by omega,rfl⟩
 ·rintro s' ⟨i,n',hn',hi,hall,rfl⟩
  replace hall:zB _:=hall
  by_cases hlt:i < l.length
  ·obtain⟨x,hx⟩:∃x,l[i]=x:=⟨_,rfl⟩
   have hmem:x ∈ l:=hx ▸ List.getElem_mem hlt
   have hxs:l[i]? = some x:=by rw[List.getElem?_eq_getElem hlt,hx]
   have hne:l≠[]:=fun e=>by rw[e] at hlt;simp at hlt
   obtain⟨rfl,-⟩:=hnl.out.resolve_left hne
   have hbad:¬x.size≤60→T=false:=fun hq=>by
    rw[hT.out,nmsF]
    have:l.all (fun t=>decide (t.size≤60))=false:=by rw[List.all_eq_false];exact⟨_,hmem,by simpa using hq⟩
    rw[this];rfl
   replace hbad:zB _:=hbad
   replace hxs:zB _:=hxs
   clear hne hmem
   by_cases hs:x.size≤60
   ·have hst:zB (∀j y,j < i + 1→l[j]? = some y→y.size≤60):=fun j y hj hy=>by
     rcases Nat.lt_or_ge j i with h1 | h1
     ·exact hall.out j y h1 hy
     ·have:j=i:=by omega
      subst this
      rw[hxs.out] at hy;cases hy;exact hs
    clear hbad
    repeat' (first|(refine zD fun K hK=>?_)|(refine zA fun K hK=>?_;simp (disch:=omega) [go_sem, *,zM,zN,zU,zO])|(apply zB.out hK;clear hK K;try with_reducible dsimp only[zC])|(apply zB.out ht;clear ht hf Kt Kf)|(apply zB.out hf;clear ht hf Kt Kf)|(refine zI ?_)|(refine zK ?_;simp only[zC,zP])|(refine zF fun Kt Kf ht hf=>?_;simp (disch:=omega) [go_sem, *];try (refine⟨fun hc=>?_,fun hc=>?_⟩ <;> try (exfalso;omega))))
    exact zS (by simp (disch:=omega) [go_sem]) (Sub.refl _) ⟨i + 1,_,by omega,by omega,hst.out,rfl⟩ (by simp[zY,go_sem];omega)
   ·have hTf:=hbad.out hs
    subst hTf
    clear hbad
    repeat' (first|(refine zD fun K hK=>?_)|(refine zA fun K hK=>?_;simp (disch:=omega) [go_sem, *,zN,zO])|(apply zB.out hK;clear hK K;try with_reducible dsimp only[zC])|(apply zB.out ht;clear ht hf Kt Kf)|(refine zI ?_)|(refine zK ?_;simp only[zC])|(refine zF fun Kt Kf ht hf=>?_;simp (disch:=omega) [go_sem, *];try (refine⟨fun hc=>?_,fun hc=>?_⟩ <;> try (exfalso;omega))))
    exact zR
  ·have hall2:l.all (fun t=>decide (t.size≤60))=true:=by
    rw[List.all_eq_true]
    intro o ho
    obtain⟨j,hj,e⟩:=List.getElem_of_mem ho
    simpa using hall.out j o (by omega) (by rw[List.getElem?_eq_getElem hj,e])
   have hT1:T=JH 8 60 100 l.length:=by rw[hT.out,nmsF,hall2,Bool.true_and]
   clear hall2 hall hT
   have hT2:T=(decide (l.length≤8) || (decide (60 < l.length) && decide (l.length≤100))):=hT1
   subst hT2
   clear hT1
   by_cases c1:l.length≤8
   ·skip
    repeat' (first|(refine zD fun K hK=>?_)|(refine zA fun K hK=>?_;simp (disch:=omega) [go_sem, *,zU,zO])|(apply zB.out hK;clear hK K;try with_reducible dsimp only[zC])|(apply zB.out hf;clear ht hf Kt Kf)|(clear hK K;apply zB.out hK;clear hK K;try with_reducible dsimp only[zC])|(refine zT ?_;simp only[zC,zP,if_true])|(refine zF fun Kt Kf ht hf=>?_;simp (disch:=omega) [go_sem, *];try (refine⟨fun hc=>?_,fun hc=>?_⟩ <;> try (exfalso;omega))))
    exact zR
   ·by_cases c2:l.length > 60
    ·by_cases c3:l.length≤100
     ·skip
      repeat' (first|(refine zD fun K hK=>?_)|(refine zA fun K hK=>?_;simp (disch:=omega) [go_sem, *,zN,zU,zO,ze])|(apply zB.out hK;clear hK K;try with_reducible dsimp only[zC])|(apply zB.out hf;clear ht hf Kt Kf)|(clear hK K;apply zB.out hK;clear hK K;try with_reducible dsimp only[zC])|(refine zT ?_;simp only[zC,zP,if_true])|(refine zF fun Kt Kf ht hf=>?_;simp (disch:=omega) [go_sem, *];try (refine⟨fun hc=>?_,fun hc=>?_⟩ <;> try (exfalso;omega))))
      exact zR
     ·skip
      repeat' (first|(refine zD fun K hK=>?_)|(refine zA fun K hK=>?_;simp (disch:=omega) [go_sem, *,zN,zU,ze])|(apply zB.out hK;clear hK K;try with_reducible dsimp only[zC])|(apply zB.out hf;clear ht hf Kt Kf)|(clear hK K;apply zB.out hK;clear hK K;try with_reducible dsimp only[zC])|(refine zT ?_;simp only[zC,zP,if_true])|(refine zF fun Kt Kf ht hf=>?_;simp (disch:=omega) [go_sem, *];try (refine⟨fun hc=>?_,fun hc=>?_⟩ <;> try (exfalso;omega))))
      exact zR
    ·skip
     repeat' (first|(refine zD fun K hK=>?_)|(refine zA fun K hK=>?_;simp (disch:=omega) [go_sem, *,zU,ze])|(apply zB.out hK;clear hK K;try with_reducible dsimp only[zC])|(apply zB.out hf;clear ht hf Kt Kf)|(clear hK K;apply zB.out hK;clear hK K;try with_reducible dsimp only[zC])|(refine zT ?_;simp only[zC,zP,if_true])|(refine zF fun Kt Kf ht hf=>?_;simp (disch:=omega) [go_sem, *];try (refine⟨fun hc=>?_,fun hc=>?_⟩ <;> try (exfalso;omega))))
     exact zR
theorem dyF_is (L:List Dy):∃nl s,dyF L=.fslc nl nl s (L.map dyA)∧(L=[]∨nl=false∧s=3):=by
 unfold dyF
 split
 ·rename_i e;subst e;exact⟨true,0,rfl,.inl rfl⟩
 ·exact⟨false,3,rfl,.inr ⟨rfl,rfl⟩⟩
theorem sameY_spec (L:List Dy) (hl:L.length≤1000000):zJ Tryz.prog 14 [dyF L,dyF L] (bv true):=by
 intro h n
 refine zQ.pure (zQ.entry (by kernel_rfl) fun hb _=>zV Tryz.func14 rfl (by kernel_rfl) (by simp[Tryz.ntmps14]) ?_)
 obtain⟨nl,s,e,hnl⟩:=dyF_is L
 rw[e]
 replace hnl:zB _:=hnl
 clear e
 repeat' (first|(refine zD fun K hK=>?_)|(refine zA fun K hK=>?_;simp (disch:=omega) [go_sem, *,Tryz.ntmps14])|(apply zB.out hK;clear hK K;try with_reducible dsimp only[zC])|(apply zB.out hf;clear ht hf Kt Kf)|(refine zI ?_)|(refine zK ?_;simp only[zC])|(refine zF fun Kt Kf ht hf=>?_;simp (disch:=omega) [go_sem, *];try (refine⟨fun hc=>?_,fun hc=>?_⟩ <;> try (exfalso;omega))))
 refine zW (fun s'=>∃(i n':Nat),n≤n'∧i≤L.length∧s'=⟨26,[(0,.fslc nl nl s (L.map dyA)),(1,.fslc nl nl s (L.map dyA)),(5,iv .i64 i)],h,n'⟩)
  (fun s'=>L.length - (zY s' 5).toNat) ?_ ?_
 ·exact zX (by simp[go_sem, *]) (Sub.refl _) ⟨0,_,by omega,by omega,rfl⟩
 ·rintro s' ⟨i,n',hn',hi,rfl⟩
  by_cases hlt:i < L.length
  ·obtain⟨⟨d,p1,p2⟩,hx⟩:∃x,L[i]=x:=⟨_,rfl⟩
   have hne:L≠[]:=fun e=>by rw[e] at hlt;simp at hlt
   obtain⟨rfl,rfl⟩:=hnl.out.resolve_left hne
   have hex:dyA L[i]=.agg [iv .i64 d,sv p1,sv p2]:=by rw[hx];rfl
   replace hx:zB _:=hx
   clear hne
   repeat' (first|(refine zD fun K hK=>?_)|(refine zA fun K hK=>?_;simp (disch:=omega) [go_sem, *,zM,zN])|(refine zj mixed (by kernel_rfl) fun K hK=>?_;simp (disch:=omega) [go_sem, *,zO])|(apply zB.out hK;clear hK K;try with_reducible dsimp only[zC])|(apply zB.out ht;clear ht hf Kt Kf)|(apply zB.out hf;clear ht hf Kt Kf)|(refine zI ?_)|(refine zK ?_;simp only[zC,zP])|(refine zF fun Kt Kf ht hf=>?_;simp (disch:=omega) [go_sem, *];try (refine⟨fun hc=>?_,fun hc=>?_⟩ <;> try (exfalso;omega))))
   exact zS (by simp (disch:=omega) [go_sem]) (Sub.refl _) ⟨i + 1,_,by omega,by omega,rfl⟩ (by simp[zY,go_sem];omega)
  ·skip
   repeat' (first|(refine zD fun K hK=>?_)|(refine zA fun K hK=>?_;simp (disch:=omega) [go_sem, *,zU])|(apply zB.out hK;clear hK K;try with_reducible dsimp only[zC])|(apply zB.out hf;clear ht hf Kt Kf)|(clear hK K;apply zB.out hK;clear hK K;try with_reducible dsimp only[zC])|(refine zT ?_;simp only[zC,zP,if_true])|(refine zF fun Kt Kf ht hf=>?_;simp (disch:=omega) [go_sem, *];try (refine⟨fun hc=>?_,fun hc=>?_⟩ <;> try (exfalso;omega))))
   exact zR
theorem ldF_is (L:Ld):∃nl s,ldF L=.fslc nl nl s (L.map ldA)∧(L=[]∨nl=false∧s=2):=by
 unfold ldF
 split
 ·rename_i e;subst e;exact⟨true,0,rfl,.inl rfl⟩
 ·exact⟨false,2,rfl,.inr ⟨rfl,rfl⟩⟩
@[go_sem] theorem aggEqL (d e:Int) (p1 q1:ByteArray):aggEq Tryz.prog 58 [sv p1,iv .i64 d] [sv q1,iv .i64 e]=some ((p1.toList == q1.toList) && decide (d=e)):=by
 have g1:Tryz.prog.stoodInHeld 58=false:=by kernel_rfl
 have g2:Tryz.prog.eqGuardType Tryz.prog.depth 58=false:=by kernel_rfl
 have g3:Qz Tryz.prog 3=.int:=by kernel_rfl
 simp only[aggEq,Tryz.underlying58,g1,g2,fldEq]
 simp only[and_self,if_true,List.getElem?_cons_zero,List.getElem?_cons_succ,skStr,g3,jZ]
 simp
 cases (p1.toList == q1.toList) <;> cases hde:(d == e) <;> simp_all
theorem sameL_spec (L:Ld) (hl:L.length≤1000000):zJ Tryz.prog 30 [ldF L,ldF L] (bv true):=by
 intro h n
 refine zQ.pure (zQ.entry (by kernel_rfl) fun hb _=>zV Tryz.func30 rfl (by kernel_rfl) (by simp[Tryz.ntmps30]) ?_)
 obtain⟨nl,s,e,hnl⟩:=ldF_is L
 rw[e]
 replace hnl:zB _:=hnl
 clear e
 repeat' (first|(refine zD fun K hK=>?_)|(refine zA fun K hK=>?_;simp (disch:=omega) [go_sem, *,Tryz.ntmps30])|(apply zB.out hK;clear hK K;try with_reducible dsimp only[zC])|(apply zB.out hf;clear ht hf Kt Kf)|(refine zI ?_)|(refine zK ?_;simp only[zC])|(refine zF fun Kt Kf ht hf=>?_;simp (disch:=omega) [go_sem, *];try (refine⟨fun hc=>?_,fun hc=>?_⟩ <;> try (exfalso;omega))))
 refine zW (fun s'=>∃(i n':Nat),n≤n'∧i≤L.length∧s'=⟨26,[(0,.fslc nl nl s (L.map ldA)),(1,.fslc nl nl s (L.map ldA)),(5,iv .i64 i)],h,n'⟩)
  (fun s'=>L.length - (zY s' 5).toNat) ?_ ?_
 ·exact zX (by simp[go_sem, *]) (Sub.refl _) ⟨0,_,by omega,by omega,rfl⟩
 ·rintro s' ⟨i,n',hn',hi,rfl⟩
  by_cases hlt:i < L.length
  ·obtain⟨⟨p1,d⟩,hx⟩:∃x,L[i]=x:=⟨_,rfl⟩
   have hne:L≠[]:=fun e=>by rw[e] at hlt;simp at hlt
   obtain⟨rfl,rfl⟩:=hnl.out.resolve_left hne
   have hex:ldA L[i]=.agg [sv p1,iv .i64 d]:=by rw[hx];rfl
   replace hx:zB _:=hx
   clear hne
   repeat' (first|(refine zD fun K hK=>?_)|(refine zA fun K hK=>?_;simp (disch:=omega) [go_sem, *,zM,zN])|(refine zj mixed (by kernel_rfl) fun K hK=>?_;simp (disch:=omega) [go_sem, *,zO])|(apply zB.out hK;clear hK K;try with_reducible dsimp only[zC])|(apply zB.out ht;clear ht hf Kt Kf)|(apply zB.out hf;clear ht hf Kt Kf)|(refine zI ?_)|(refine zK ?_;simp only[zC,zP])|(refine zF fun Kt Kf ht hf=>?_;simp (disch:=omega) [go_sem, *];try (refine⟨fun hc=>?_,fun hc=>?_⟩ <;> try (exfalso;omega))))
   exact zS (by simp (disch:=omega) [go_sem]) (Sub.refl _) ⟨i + 1,_,by omega,by omega,rfl⟩ (by simp[zY,go_sem];omega)
  ·skip
   repeat' (first|(refine zD fun K hK=>?_)|(refine zA fun K hK=>?_;simp (disch:=omega) [go_sem, *,zU])|(apply zB.out hK;clear hK K;try with_reducible dsimp only[zC])|(apply zB.out hf;clear ht hf Kt Kf)|(clear hK K;apply zB.out hK;clear hK K;try with_reducible dsimp only[zC])|(refine zT ?_;simp only[zC,zP,if_true])|(refine zF fun Kt Kf ht hf=>?_;simp (disch:=omega) [go_sem, *];try (refine⟨fun hc=>?_,fun hc=>?_⟩ <;> try (exfalso;omega))))
   exact zR
theorem nmsF_ok {l:List ByteArray} (h:nmsF l=true):(∀t ∈ l,t.size≤1000000)∧l.length≤100:=by
 simp only[nmsF,Bool.and_eq_true,List.all_eq_true,decide_eq_true_eq] at h
 obtain⟨h1,h2⟩:=h
 simp only[JH,Bool.or_eq_true,Bool.and_eq_true,decide_eq_true_eq] at h2
 exact⟨fun t ht=>by have:=h1 t ht;omega,by omega⟩
theorem fewW_19 {ls:List Lin} {l:List Ordr} (h:fewW ls l=true):ls.length≤19∨60 < ls.length:=by
 simp only[fewW,Bool.and_eq_true,List.all_eq_true] at h
 obtain⟨⟨⟨_,_⟩,h3⟩,_⟩:=h
 simp only[JH,Bool.or_eq_true,Bool.and_eq_true,decide_eq_true_eq] at h3
 omega
theorem outG_len (ls:List Lin) (l:List Ordr) (ts:List ByteArray) (lo hi:Int) (h:ts.length≤100):(jT ls l ts lo hi).1.length≤1000000:=by
 unfold jT
 split
 ·simp
 ·rename_i he
  have hc:Zc ls l lo hi=0:=Decidable.byContradiction fun hn=>he (by unfold Ji;rw[if_pos hn];exact hn)
  obtain⟨_,h1,h2,h3⟩:=jD hc
  have:=QM ls ts (hi + 1 - lo).toNat lo
  have h5:(hi + 1 - lo).toNat * ts.length≤401 * 100:=Nat.mul_le_mul (by omega) h
  simp only;omega
theorem outB_len (ls:List Lin) (l:List Ordr) (lo hi:Int) (h:ls.length≤100):(qW ls l lo hi).1.length≤1000000:=by
 unfold qW
 split
 ·simp
 ·rename_i he
  have hc:Zc ls l lo hi=0:=Decidable.byContradiction fun hn=>he hn
  obtain⟨_,h1,h2,h3⟩:=jD hc
  have:=dblL_len ls (hi + 1 - lo).toNat lo
  have h5:(hi + 1 - lo).toNat * ls.length≤401 * 100:=Nat.mul_le_mul (by omega) h
  simp only;omega
theorem outL_len (ls:List Lin) (l:List Ordr) (lo hi:Int) (h:ls.length≤100):(qV ls l lo hi).1.length≤1000000:=by
 unfold qV
 split
 ·simp
 ·rename_i he
  have hc:Zc ls l lo hi=0:=Decidable.byContradiction fun hn=>he hn
  obtain⟨_,h1,h2,h3⟩:=jD hc
  have:=ldS_len ls lo (hi + 1 - lo).toNat
  have h5:(hi + 1 - lo).toNat * ls.length≤401 * 100:=Nat.mul_le_mul (by omega) h
  simp only;omega
theorem fewW_100 {ls:List Lin} {l:List Ordr} (h:fewW ls l=true):ls.length≤100:=by
 simp only[fewW,Bool.and_eq_true,List.all_eq_true] at h
 obtain⟨⟨⟨_,_⟩,h3⟩,_⟩:=h
 simp only[JH,Bool.or_eq_true,Bool.and_eq_true,decide_eq_true_eq] at h3
 omega
theorem WatchLooks_spec (nlL nl:Bool) (ls:List Lin) (l:List Ordr) (hnlL:ls=[]∨nlL=false∧8=8) (hL:∀x ∈ ls,Qe x∧x.exc.length≤9223372036854775807) (hlL:ls.length≤9223372036854775807) (hnl:l=[]∨nl=false∧7=7) (hw:wfO l) (hl:l.length≤9223372036854775807)
  (tnl:Bool) (ts:List ByteArray) (htn:ts=[]∨tnl=false∧1=1) (htl:ts.length≤9223372036854775807) (lo hi:Int) :
  zJ Tryz.prog 7 [.agg [.fslc nlL false 8 (ls.map zg),.fslc nl false 7 (l.map ZH)],.fslc tnl false 1 (ts.map sv),.agg [iv .i64 lo,iv .i64 hi]] (bv true):=by
 intro h n
 have k0:=few_spec nlL false 8 ls hnlL hL hlL nl false 7 l hnl hw hl
 have k8:=names_spec tnl ts htn htl
 have k9:=Go.Proofs.SAN.sanity_ok
 refine zQ.pure (zQ.entry (by kernel_rfl) fun hb _=>zV Tryz.func7 rfl (by kernel_rfl) (by simp[Tryz.ntmps7]) ?_)
 cases hf:fewW ls l with
 | false=>
  rw[hf] at k0
  generalize List.map zg ls=LL at *
  generalize List.map ZH l=OO at *
  generalize List.map sv ts=TT at *
  clear hf hnlL hL hlL hnl hw hl htn htl k8
  repeat' (first|(refine zD fun K hK=>?_)|(refine zA fun K hK=>?_;simp (disch:=omega) [go_sem, *,zG,Tryz.ntmps7])|(apply zB.out hK;clear hK K;try with_reducible dsimp only[zC])|(apply zB.out ht;clear ht hf Kt Kf)|(with_reducible refine zJ.gcall (k0) ?_;try simp (disch:=omega) [go_sem, *])|(with_reducible refine zJ.gcall (k9) ?_;try simp (disch:=omega) [go_sem, *])|(refine zF fun Kt Kf ht hf=>?_;simp (disch:=omega) [go_sem, *];try (refine⟨fun hc=>?_,fun hc=>?_⟩ <;> try (exfalso;omega))))
  exact zR
 | true=>
  rw[hf] at k0
  cases hm:nmsF ts with
  | false=>
   rw[hm] at k8
   generalize List.map zg ls=LL at *
   generalize List.map ZH l=OO at *
   generalize List.map sv ts=TT at *
   clear hf hm hnlL hL hlL hnl hw hl htn htl
   repeat' (first|(refine zD fun K hK=>?_)|(refine zA fun K hK=>?_;simp (disch:=omega) [go_sem, *,zG,Tryz.ntmps7])|(apply zB.out hK;clear hK K;try with_reducible dsimp only[zC])|(apply zB.out ht;clear ht hf Kt Kf)|(with_reducible refine zJ.gcall (k0) ?_;try simp (disch:=omega) [go_sem, *])|(with_reducible refine zJ.gcall (k8) ?_;try simp (disch:=omega) [go_sem, *])|(with_reducible refine zJ.gcall (k9) ?_;try simp (disch:=omega) [go_sem, *])|(refine zF fun Kt Kf ht hf=>?_;simp (disch:=omega) [go_sem, *];try (refine⟨fun hc=>?_,fun hc=>?_⟩ <;> try (exfalso;omega))))
   exact zR
  | true=>
   rw[hm] at k8
   obtain⟨g1,g2,g3,g4⟩:=fewW_sm hf hL hw
   obtain⟨m1,m2⟩:=nmsF_ok hm
   have g5:=fewW_100 hf
   have k1:=Gaps_spec nlL false 8 ls hnlL g1 g3 nl false 7 l hnl hw g2 g4 tnl false 1 ts htn m2 m1 lo hi
   have k2:=rGaps_spec nlL false 8 ls hnlL g1 g3 nl false 7 l hnl hw g2 g4 tnl false 1 ts htn m2 m1 lo hi
   have k3:=Doubles_spec nlL false 8 ls hnlL g1 g3 (fewW_19 hf) nl false 7 l hnl hw g2 g4 lo hi
   have k4:=rDoubles_spec nlL false 8 ls hnlL g1 g3 nl false 7 l hnl hw g2 g4 lo hi
   have k5:=Loads_spec nlL false 8 ls hnlL g1 g3 nl false 7 l hnl hw g2 g4 lo hi
   have k6:=rLoads_spec nlL false 8 ls hnlL g1 g3 nl false 7 l hnl hw g2 g4 lo hi
   have s1:=sameY_spec (jT ls l ts lo hi).1 (outG_len ls l ts lo hi m2)
   have s2:=sameY_spec (qW ls l lo hi).1 (outB_len ls l lo hi g5)
   have s3:=sameL_spec (qV ls l lo hi).1 (outL_len ls l lo hi g5)
   generalize (jT ls l ts lo hi).2=e1 at *
   generalize (qW ls l lo hi).2=e2 at *
   generalize (qV ls l lo hi).2=e3 at *
   obtain⟨a1,a2,q1,_⟩:=dyF_is (jT ls l ts lo hi).1
   obtain⟨b1,b2,q2,_⟩:=dyF_is (qW ls l lo hi).1
   obtain⟨c1,c2,q3,_⟩:=ldF_is (qV ls l lo hi).1
   rw[q1] at k1 k2 s1
   rw[q2] at k3 k4 s2
   rw[q3] at k5 k6 s3
   generalize List.map dyA (jT ls l ts lo hi).1=GL at *
   generalize List.map dyA (qW ls l lo hi).1=BL at *
   generalize List.map ldA (qV ls l lo hi).1=DL at *
   generalize List.map zg ls=LL at *
   generalize List.map ZH l=OO at *
   generalize List.map sv ts=TT at *
   clear hf hm hnlL hL hlL hnl hw hl htn htl g1 g2 g3 g4 g5 m1 m2 q1 q2 q3
   repeat' (first|(refine zD fun K hK=>?_)|(refine zA fun K hK=>?_;simp (disch:=omega) [go_sem, *,zG,Tryz.ntmps7])|(apply zB.out hK;clear hK K;try with_reducible dsimp only[zC])|(apply zB.out hf;clear ht hf Kt Kf)|(with_reducible refine zJ.gcall (k0) ?_;try simp (disch:=omega) [go_sem, *])|(with_reducible refine zJ.gcall (k8) ?_;try simp (disch:=omega) [go_sem, *])|(with_reducible refine zJ.gcall (k9) ?_;try simp (disch:=omega) [go_sem, *,zG])|(with_reducible refine zJ.gcall (k1) ?_;try simp (disch:=omega) [go_sem, *])|(with_reducible refine zJ.gcall (k2) ?_;try simp (disch:=omega) [go_sem, *])|(with_reducible refine zJ.gcall (k3) ?_;try simp (disch:=omega) [go_sem, *])|(with_reducible refine zJ.gcall (k4) ?_;try simp (disch:=omega) [go_sem, *])|(with_reducible refine zJ.gcall (k5) ?_;try simp (disch:=omega) [go_sem, *])|(with_reducible refine zJ.gcall (k6) ?_;try simp (disch:=omega) [go_sem, *])|(with_reducible refine zJ.gcall (s1) ?_;try simp (disch:=omega) [go_sem, *,zG])|(with_reducible refine zJ.gcall (s2) ?_;try simp (disch:=omega) [go_sem, *,zG])|(with_reducible refine zJ.gcall (s3) ?_;try simp (disch:=omega) [go_sem, *])|(refine zK ?_;simp only[zC])|(refine zF fun Kt Kf ht hf=>?_;simp (disch:=omega) [go_sem, *];try (refine⟨fun hc=>?_,fun hc=>?_⟩ <;> try (exfalso;omega))))
   exact zR
end Go.AM
