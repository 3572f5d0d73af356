/- Duties of those with several on a day, by the program. Conditions: as each theorem says. -/
import Derived.Sort.Defs
import Derived.Shelf.SlGeneric
import Derived.Shelf.SlSortCmp.InsertionK
import Derived.Ground.SlsfProg
import Derived.Test.YtkbgmkhdjmkpdaaGreatDoorProg
import Derived.Test.YtkbgmkhdjmkpdaaGreatDoorPa
import Derived.Test.YtkbgmkhdjmkpdaaGreatDoorLa
import Derived.Test.YtkbgmkhdjmkpdaaGreatDoorAy
import Derived.Test.YtkbgmkhdjmkpdaaGreatDoorWx
namespace Du
open Go.Sort
instance : Inhabited Pr := ⟨(ByteArray.empty, ByteArray.empty)⟩
def ltS (p q:Pr):Bool:=bl p.2 q.2
theorem insS_snoc {P:List Pr} {x y:Pr} (h:bl x.2 y.2=true):insS (P ++ [y]) x=insS P x ++ [y]:=by
 induction P with
 | nil=>
  simp only[List.nil_append,insS]
  rw[if_neg (by simp[leB,h])];rfl
 | cons p r ih=>
  rw[List.cons_append,insS,insS]
  split
  ·rw[ih];rfl
  ·rfl
theorem insS_end {P:List Pr} {x y:Pr} (hs:LeS (P ++ [y])) (h:bl x.2 y.2=false):insS (P ++ [y]) x=P ++ [y,x]:=by
 have:=insS_at (P:=P ++ [y]) (Q:=[]) (x:=x) hs (fun q hq=>by simp at hq) (fun p hp=>by
  rw[List.getLast?_append] at hp
  simp at hp;subst hp;simp[leB,h])
 rw[List.append_nil] at this
 rw[this,List.append_assoc];rfl
theorem swp_at (P T:List Pr) (x y:Pr):swp (P ++ y :: x :: T).toArray (P.length + 1) P.length=(P ++ x :: y :: T).toArray:=by
 have e1:(P ++ y :: x :: T).toArray[P.length]! = y:=by
  rw[getElem!_pos _ _ (by simp)];simp
 have e2:(P ++ y :: x :: T).toArray[P.length + 1]! = x:=by
  rw[getElem!_pos _ _ (by simp)];simp
 unfold swp
 rw[e1,e2]
 apply Array.ext'
 simp
theorem insInner_eq (T:List Pr) (x:Pr):∀(n:Nat) (P:List Pr),P.length=n→LeS P→insInner ltS 0 n (P ++ x :: T).toArray=(insS P x ++ T).toArray
 | 0,P,h,_=>by
  have:P=[]:=List.length_eq_zero_iff.1 h
  subst this;rfl
 | n + 1,P,h,hs=>by
  obtain⟨Q,y,rfl⟩:∃Q y,P=Q ++ [y]:=⟨P.dropLast,P.getLast (fun e=>by subst e;simp at h),(List.dropLast_concat_getLast _).symm⟩
  have hq:Q.length=n:=by simpa using h
  subst hq
  have e0:Q ++ [y] ++ x :: T=Q ++ y :: x :: T:=by simp
  have e1:(Q ++ y :: x :: T).toArray[Q.length]! = y:=by
   rw[getElem!_pos _ _ (by simp)];simp
  have e2:(Q ++ y :: x :: T).toArray[Q.length + 1]! = x:=by
   rw[getElem!_pos _ _ (by simp)];simp
  rw[e0,insInner,e1,e2]
  cases hb:ltS x y with
  | true=>
   rw[if_pos (by simp),swp_at,insInner_eq (y :: T) x _ Q rfl (List.pairwise_append.1 hs).1,insS_snoc hb,List.append_assoc];rfl
  | false=>
   rw[if_neg (by simp),insS_end hs hb];simp
theorem insOuter_eq:∀(k:Nat) (P T:List Pr),T.length=k→LeS P→insOuter ltS 0 (P.length + T.length) P.length (P ++ T).toArray=(T.foldl insS P).toArray
 | 0,P,T,h,_=>by
  have:T=[]:=List.length_eq_zero_iff.1 h
  subst this
  rw[insOuter,if_neg (by simp)];simp
 | k + 1,P,x :: T,h,hs=>by
  rw[insOuter,if_pos (by simp),insInner_eq T x _ P rfl hs,List.foldl_cons]
  have e:=insS_len x P
  have:=insOuter_eq k (insS P x) T (by simpa using h) (insS_sorted x P hs)
  rw[e] at this
  rw[←this]
  congr 1
  simp only[List.length_cons];omega
 | k + 1,_,[],h,_=>by simp at h
theorem insertion_eq (xs:List Pr):insertionSort ltS xs.toArray 0 xs.length=(xs.foldl insS []).toArray:=by
 cases xs with
 | nil=>rw[insertionSort,insOuter,if_neg (by simp)];rfl
 | cons x r=>
  have:=insOuter_eq r.length [x] r rfl (List.pairwise_singleton _ _)
  simp only[List.length_singleton,List.singleton_append] at this
  rw[insertionSort,List.foldl_cons,show insS [] x=[x] from rfl,←this]
  congr 1
  simp only[List.length_cons];omega
end Du
namespace Go.Proofs
open Go.Shelf
def Tryz.layins_ren:Go.Shelf.Ren:=⟨fun | 20=>161 | n=>n,fun | 24=>51 | 22=>28 | 3=>3 | 25=>136 | 4=>4 | 0=>0 | n=>n,fun | n=>n⟩
theorem Tryz.layins:Go.Proofs.SlLaysF0.n20 Tryz.prog Tryz.layins_ren:={
 mixed:=by kernel_rfl
 f20:=⟨Tryz.f161.name,by decide,Tryz.func161.trans (congrArg some (by kernel_rfl))⟩
 t0:=Tryz.underlying0
 a0:=Tryz.isAgg0
 z0:=Tryz.sizeOf0
 v0:=Tryz.zeroValue0
 t3:=Tryz.underlying3
 a3:=Tryz.isAgg3
 z3:=Tryz.sizeOf3
 v3:=Tryz.zeroValue3
 t4:=Tryz.underlying4
 a4:=Tryz.isAgg4
 z4:=Tryz.sizeOf4
 v4:=Tryz.zeroValue4
 t22:=Tryz.underlying28
 a22:=Tryz.isAgg28
 z22:=Tryz.sizeOf28
 v22:=Tryz.zeroValue28
 t25:=Tryz.underlying136
 a25:=Tryz.isAgg136
 z25:=Tryz.sizeOf136
 v25:=Tryz.zeroValue136}
end Go.Proofs
namespace Go.AM
open Go.Proofs Cw Du Go.RowKit Go.Sort Go.Shelf
set_option maxRecDepth 10000
set_option maxHeartbeats 4000000
def cfS (p q:Pr):Int:=JJ p.2 q.2
theorem ltOf_cfS:Go.Proofs.ltOf cfS=ltS:=by
 funext p q
 unfold Go.Proofs.ltOf ltS cfS
 rw[Bool.eq_iff_iff,decide_eq_true_eq]
 exact cmpS_lt _ _
theorem cmpD2 (d:Int) (p q:Pr):zJ Tryz.prog 73 [dutyA d p,dutyA d q] (iv .i64 (cfS p q)):=by
 intro h n
 have k1:=compareS p.2 q.2
 refine zQ.pure (zQ.entry (by kernel_rfl) fun hb _=>zV Tryz.func73 rfl (by kernel_rfl) (by simp[Tryz.ntmps73]) ?_)
 have e:cfS p q=JJ p.2 q.2:=rfl
 rw[←e] at k1
 generalize cfS p q=r at *
 clear e
 obtain⟨p1,p2⟩:=p
 obtain⟨q1,q2⟩:=q
 simp only[dutyA] at k1 ⊢
 repeat' (first|(refine zD fun K hK=>?_)|(refine zA fun K hK=>?_;simp (disch:=omega) [go_sem, *,zG,Tryz.ntmps73])|(apply zB.out hK;clear hK K;try with_reducible dsimp only[zC])|(with_reducible refine zJ.gcall (k1) ?_;try simp (disch:=omega) [go_sem, *]))
 exact zR
theorem holds_pre {w:World} {b lo:Nat} {A Z:List Value} (h:Sort.Holds id w b lo (A ++ Z).toArray):Sort.Holds id w b lo A.toArray:=fun j hj=>by
 have hj':j < A.length:=by simpa using hj
 have:=h j (by simp;omega)
 simpa [hj',List.getElem?_append] using this
theorem putRowP [Vars] {w0 w:World} {G:Gh} {h:zH} {b lo t n:Nat} {A Z ts:List Value} (I:Inv w0 G h w) (hn:h n=some (.cells ((A ++ Z).map AV.c))) (hreg:G.reg n=some (b,lo,t)) (hl:ts.length=A.length) (h1:∀u ∈ ts,u.oneCell'=true) :
  Inv w0 G (h.upd n (some (.cells ((ts ++ Z).map AV.c)))) (Sort.putRow id w b lo ts.toArray):=by
 obtain⟨hH,_,hlen⟩:=JA I hn hreg
 have hst:w.setCells b (lo + 0) ts=Sort.putRow id w b lo ts.toArray:=by
  have e1:=jo w b lo ts A.toArray 0 (by simp;omega)
  rw[putRow_self id w b lo _ (holds_pre hH)] at e1
  rw[e1]
  congr 1
  apply Array.ext'
  rw[ovV_all ts A.toArray 0 (by simp;omega)]
  simp
 have hsc:(ts.map AV.c).all AV.scalar=true:=by
  rw[List.all_eq_true];intro x hx;obtain⟨z,_,rfl⟩:=List.mem_map.1 hx;rfl
 rw[List.length_append] at hlen
 have I1:=I.store hn hreg 0 (ts.map AV.c) ts (relV' ts h1) hsc (Nat.zero_le _) (by simp only[List.length_map];show 0 + ts.length≤t;omega)
 have hsp:zr ((A ++ Z).map AV.c) 0 (ts.map AV.c)=(ts ++ Z).map AV.c:=by
  simp only[zr,List.take_zero,List.nil_append,List.length_map,Nat.zero_add,List.map_append]
  rw[hl,List.drop_append_of_le_length (by simp),List.drop_eq_nil_of_le (by simp)];simp
 rw[hsp] at I1
 rw[←hst];exact I1
theorem insD_ac (d:Int) (m nn:Nat) (D:List Pr) (Z:List Value) (h:zH) (hm:h m=some (.cells (flat (D.map (dutyA d)) ++ Z.map .c))) (hsz:D.length < 4611686018427387904) :
  zQ Tryz.prog 161 [.slc m 0 D.length 3,iv .i64 0,iv .i64 D.length,.func (.func 73) [] []] h nn fun r h' n'=>r=.tup []∧h'=h.upd m (some (.cells (flat ((D.foldl Du.insS []).map (dutyA d)) ++ Z.map .c)))∧n'=nn:=by
 refine⟨by kernel_rfl,fun w0 G w vs I hf hr=>?_⟩
 simp only[RvL] at hr
 obtain⟨v,vr,rfl,hv,v0,vr0,rfl,hv0,v1,vr1,rfl,hv1,v2,vr2,rfl,hv2,rfl⟩:=hr
 rw[Rv] at hv
 rw[Rv_iv] at hv0 hv1
 subst hv0;subst hv1
 obtain⟨b,lo,t,cap,hreg,rfl,hcap,htot,_⟩:=hv
 simp only[Rv] at hv2
 obtain⟨f',c',rfl,hf',hc'⟩:=hv2
 have hf0:f' = #[]:=by
  apply Array.ext'
  simpa [RvL] using hf'
 have hc0:c' = #[]:=by
  apply Array.ext'
  simpa [RvL] using hc'
 subst hf0;subst hc0
 rw[Jq,←List.map_append] at hm
 obtain⟨hH,hlt,hlen⟩:=JA I hm hreg
 have hH:=holds_pre hH
 have hk:∀x,(JG d x).length=3:=fun _=>rfl
 have h1:∀x:Pr,∀v ∈ JG d x,v.oneCell'=true:=fun x v hv=>by
  simp only[JG,List.mem_cons,List.not_mem_nil,or_false] at hv
  rcases hv with rfl | rfl | rfl <;> rfl
 have hfk:=fun ys:List Pr=>flatK_list (JG d) 3 hk ys
 have hflen:∀ys:List Pr,(ys.flatMap (JG d)).length=ys.length * 3:=fun ys=>by
  have:=congrArg Array.size (hfk ys)
  simpa using this.symm
 have h1f:∀ys:List Pr,∀u ∈ ys.flatMap (JG d),u.oneCell'=true:=fun ys u hu=>by
  obtain⟨x,_,hx⟩:=List.mem_flatMap.1 hu
  exact h1 x u hx
 have hput:∀ys:List Pr,ys.length=D.length→∀k os,Inv w0 G (h.upd m (some (.cells ((ys.flatMap (JG d) ++ Z).map .c)))) (sortWorldK (JG d) 3 w b lo k ys.toArray os):=fun ys hl k os=>by
  unfold sortWorldK putRowK
  rw[hfk]
  have I1:=putRowP (I.ahead k) hm hreg (ts:=ys.flatMap (JG d)) (by rw[hflen,hflen,hl]) (h1f ys)
  exact I1.grow os
 have hHK:HoldsK (JG d) 3 w b lo D.toArray:=by
  unfold HoldsK;rw[hfk];exact hH
 have hcmp:CmpLays Tryz.prog 73 #[] (JG d) 3 cfS b lo D.toArray.size w:=fun k os dk hs x y=>by
  have e:=hput dk.toList (by simpa using hs) k os
  rw[Array.toArray_toList] at e
  exact cmp_lays h1 (fun p q=>cmpD2 d p q) (vars_w e) x y
 have hcall:=AnyQ.insertionSortCmpFunc (ρ:=Tryz.layins_ren) Tryz.layins 3 Tryz.isAgg51 Tryz.sizeOf51 (JG d) hk h1 cfS 73 #[] b lo cap 0 D.toArray.size D.toArray w (enters_of Tryz.func73 (by kernel_rfl) rfl) hcmp hHK hlt (Nat.zero_le _) (Nat.le_refl _) (by simpa using hsz)
 rw[Nat.add_zero] at *
 have es:D.toArray.size=D.length:=by simp
 rw[es] at hcall
 have e0:Sort.insertionSort (Go.Proofs.ltOf cfS) D.toArray 0 D.length=(D.foldl Du.insS []).toArray:=by rw[ltOf_cfS];exact insertion_eq D
 rw[e0] at hcall
 refine hcall.mono fun e w' ⟨he,k,os,hw⟩=>?_
 have I2:=hput (D.foldl Du.insS []) (by rw[QI];simp) k os
 rw[←hw] at I2
 refine⟨G,_,.tup [],_,nn,he,⟨Ext.refl _ _,rfl⟩,I2,hf,Nat.le_refl _,by simp[Rv,RvL],rfl,?_,rfl⟩
 rw[Jq,←List.map_append]
theorem insD_none (f:AV) (h:zH) (nn:Nat):APureAt Tryz.prog 161 [.fslc true true 0 [],iv .i64 0,iv .i64 0,f] h nn (.tup []):=by
 refine zQ.pure (zQ.entry (by kernel_rfl) fun hb _=>zV Tryz.func161 rfl (by kernel_rfl) (by simp[Tryz.ntmps161]) ?_)
 repeat' (first|(refine zD fun K hK=>?_)|(refine zA fun K hK=>?_;simp (disch:=omega) [go_sem, *,zM,Tryz.ntmps161])|(apply zB.out hK;clear hK K;try with_reducible dsimp only[zC])|(refine zI ?_))
 refine zW (fun s'=>∃n',s'=⟨53,[(2,iv .i64 0),(8,iv .i64 1)],h,n'⟩) (fun s'=>0) ?_ ?_
 ·exact zX (by simp[go_sem]) (Sub.refl _) ⟨_,rfl⟩
 ·rintro s' ⟨n',rfl⟩
  repeat' (first|(refine zD fun K hK=>?_)|(refine zA fun K hK=>?_;simp (disch:=omega) [go_sem, *,zU])|(apply zB.out hK;clear hK K;try with_reducible dsimp only[zC])|(apply zB.out hf;clear ht hf Kt Kf)|(refine zT ?_;simp only[zC,zP,if_true])|(refine zF fun Kt Kf ht hf=>?_;simp (disch:=omega) [go_sem, *];try (refine⟨fun hc=>?_,fun hc=>?_⟩ <;> try (exfalso;omega))))
  refine⟨by simp,_,(by first | rfl|(simp (disch:=omega) [go_sem,zG] <;> rfl)),?_⟩
  exact zZ ⟨fun k hk=>rfl,by simp[go_sem,below,belowL,ZW],by rfl,by simp,by simp⟩
end Go.AM
namespace Go.AM
open Go.Proofs Cw Du Go.RowKit
set_option maxRecDepth 10000
set_option maxHeartbeats 4000000
def perV (d:Int) (D:List Pr):List AV:=(D.foldl Du.insS []).map (dutyA d)
theorem stable_ac (d:Int) (m nn:Nat) (D:List Pr) (Z:List Value) (h:zH) (hm:h m=some (.cells (flat (D.map (dutyA d)) ++ Z.map .c))) (hsz:D.length < 20) :
  zQ Tryz.prog 124 [.slc m 0 D.length 3,iv .i64 D.length,.func (.func 73) [] []] h nn fun r h' n'=>r=.tup []∧h'=h.upd m (some (.cells (flat (perV d D) ++ Z.map .c)))∧nn≤n':=by
 refine zQ.entry (by kernel_rfl) fun hb _=>zV Tryz.func124 rfl (by kernel_rfl) (by simp[Tryz.ntmps124]) ?_
 have k1:=fun n=>insD_ac d m n D Z h hm (by omega)
 replace k1:zB _:=k1
 replace hm:zB _:=hm
 repeat' (first|(refine zD fun K hK=>?_)|(refine zA fun K hK=>?_;simp (disch:=omega) [go_sem, *,Tryz.ntmps124])|(apply zB.out hK;clear hK K;try with_reducible dsimp only[zC])|(refine zI ?_))
 refine zW (fun s'=>∃n',nn≤n'∧s'=⟨63,[(0,.slc m 0 D.length 3),(1,iv .i64 D.length),(2,.func (.func 73) [] []),(6,iv .i64 20),(7,iv .i64 0),(8,iv .i64 20)],h,n'⟩) (fun s'=>0) ?_ ?_
 ·exact zX (by simp[go_sem]) (Sub.refl _) ⟨_,by omega,rfl⟩
 ·rintro s' ⟨n',hn',rfl⟩
  repeat' (first|(refine zD fun K hK=>?_)|(refine zA fun K hK=>?_;simp (disch:=omega) [go_sem, *,ze])|(apply zB.out hK;clear hK K;try with_reducible dsimp only[zC])|(apply zB.out hf;clear ht hf Kt Kf)|(clear hK K;apply zB.out hK;clear hK K;try with_reducible dsimp only[zC])|(refine zT ?_;simp only[zC,zP,if_true])|(refine zF fun Kt Kf ht hf=>?_;simp (disch:=omega) [go_sem, *];try (refine⟨fun hc=>?_,fun hc=>?_⟩ <;> try (exfalso;omega))))
  refine .inl ((k1.out _).mono fun r h3 n3 hp=>?_)
  obtain⟨rfl,rfl,rfl⟩:=hp
  simp (disch:=omega) [go_sem]
  repeat' (first|(apply zB.out hK;clear hK K;try with_reducible dsimp only[zC])|(refine zI ?_))
  refine zW (fun s'=>∃n'',nn≤n''∧s'=⟨63,[(1,iv .i64 D.length),(6,iv .i64 20)],h.upd m (some (.cells (flat (perV d D) ++ Z.map .c))),n''⟩) (fun s'=>0) ?_ ?_
  ·exact zX (by simp[go_sem]) (Sub.refl _) ⟨_,by omega,rfl⟩
  ·rintro s' ⟨n'',hn'',rfl⟩
   repeat' (first|(refine zD fun K hK=>?_)|(refine zA fun K hK=>?_;simp (disch:=omega) [go_sem, *,zU])|(apply zB.out hK;clear hK K;try with_reducible dsimp only[zC])|(apply zB.out hf;clear ht hf Kt Kf)|(refine zT ?_;simp only[zC,zP,if_true])|(refine zF fun Kt Kf ht hf=>?_;simp (disch:=omega) [go_sem, *];try (refine⟨fun hc=>?_,fun hc=>?_⟩ <;> try (exfalso;omega))))
   refine⟨by simp,_,(by first | rfl|(simp (disch:=omega) [go_sem,zG] <;> rfl)),?_⟩
   exact zZ ⟨rfl,rfl,by omega⟩
theorem stable_none (f:AV) (h:zH) (nn:Nat):APureAt Tryz.prog 124 [.fslc true true 0 [],iv .i64 0,f] h nn (.tup []):=by
 refine zQ.pure (zQ.entry (by kernel_rfl) fun hb _=>zV Tryz.func124 rfl (by kernel_rfl) (by simp[Tryz.ntmps124]) ?_)
 have k1:=fun n=>insD_none f h n
 repeat' (first|(refine zD fun K hK=>?_)|(refine zA fun K hK=>?_;simp (disch:=omega) [go_sem, *,Tryz.ntmps124])|(apply zB.out hK;clear hK K;try with_reducible dsimp only[zC])|(refine zI ?_))
 refine zW (fun s'=>∃n',nn≤n'∧s'=⟨63,[(0,.fslc true true 0 []),(1,iv .i64 0),(2,f),(6,iv .i64 20),(7,iv .i64 0),(8,iv .i64 20)],h,n'⟩) (fun s'=>0) ?_ ?_
 ·exact zX (by simp[go_sem]) (Sub.refl _) ⟨_,by omega,rfl⟩
 ·rintro s' ⟨n',hn',rfl⟩
  repeat' (first|(refine zD fun K hK=>?_)|(refine zA fun K hK=>?_;simp (disch:=omega) [go_sem, *,ze])|(apply zB.out hK;clear hK K;try with_reducible dsimp only[zC])|(apply zB.out hf;clear ht hf Kt Kf)|(clear hK K;apply zB.out hK;clear hK K;try with_reducible dsimp only[zC])|(with_reducible refine APureAt.gcall (k1 _) ?_;try simp (disch:=omega) [go_sem, *])|(refine zI ?_)|(refine zT ?_;simp only[zC,zP,if_true])|(refine zF fun Kt Kf ht hf=>?_;simp (disch:=omega) [go_sem, *];try (refine⟨fun hc=>?_,fun hc=>?_⟩ <;> try (exfalso;omega))))
  refine zW (fun s'=>∃n'',nn≤n''∧s'=⟨63,[(1,iv .i64 0),(6,iv .i64 20)],h,n''⟩) (fun s'=>0) ?_ ?_
  ·exact zX (by simp[go_sem]) (Sub.refl _) ⟨_,by omega,rfl⟩
  ·rintro s' ⟨n'',hn'',rfl⟩
   repeat' (first|(refine zD fun K hK=>?_)|(refine zA fun K hK=>?_;simp (disch:=omega) [go_sem, *,zU])|(apply zB.out hK;clear hK K;try with_reducible dsimp only[zC])|(apply zB.out hf;clear ht hf Kt Kf)|(refine zT ?_;simp only[zC,zP,if_true])|(refine zF fun Kt Kf ht hf=>?_;simp (disch:=omega) [go_sem, *];try (refine⟨fun hc=>?_,fun hc=>?_⟩ <;> try (exfalso;omega))))
   refine⟨by simp,_,(by first | rfl|(simp (disch:=omega) [go_sem,zG] <;> rfl)),?_⟩
   exact zZ ⟨fun k hk=>rfl,by simp[go_sem,below,belowL,ZW],by rfl,by simp,by simp⟩
theorem sortSt_ac (d:Int) (m nn:Nat) (D:List Pr) (Z:List Value) (h:zH) (hm:h m=some (.cells (flat (D.map (dutyA d)) ++ Z.map .c))) (hsz:D.length < 20) :
  zQ Tryz.prog 72 [.slc m 0 D.length 3,.func (.func 73) [] []] h nn fun r h' n'=>r=.tup []∧h'=h.upd m (some (.cells (flat (perV d D) ++ Z.map .c)))∧nn≤n':=by
 refine zQ.entry (by kernel_rfl) fun hb _=>zV Tryz.func72 rfl (by kernel_rfl) (by simp[Tryz.ntmps72]) ?_
 have k1:=fun n=>stable_ac d m n D Z h hm hsz
 replace k1:zB _:=k1
 replace hm:zB _:=hm
 repeat' (first|(refine zA fun K hK=>?_;simp (disch:=omega) [go_sem, *,Tryz.ntmps72]))
 refine .inl ((k1.out _).mono fun r h3 n3 hp=>?_)
 obtain⟨rfl,rfl,hn3⟩:=hp
 simp (disch:=omega) [go_sem]
 repeat' (first|(apply zB.out hK;clear hK K;try with_reducible dsimp only[zC]))
 refine⟨by simp,_,(by first | rfl|(simp (disch:=omega) [go_sem,zG] <;> rfl)),?_⟩
 exact zZ ⟨rfl,rfl,by omega⟩
theorem sortSt_none (f:AV) (h:zH) (nn:Nat):APureAt Tryz.prog 72 [.fslc true true 0 [],f] h nn (.tup []):=by
 refine zQ.pure (zQ.entry (by kernel_rfl) fun hb _=>zV Tryz.func72 rfl (by kernel_rfl) (by simp[Tryz.ntmps72]) ?_)
 have k1:=fun n=>stable_none f h n
 repeat' (first|(refine zA fun K hK=>?_;simp (disch:=omega) [go_sem, *,Tryz.ntmps72])|(apply zB.out hK;clear hK K;try with_reducible dsimp only[zC])|(with_reducible refine APureAt.gcall (k1 _) ?_;try simp (disch:=omega) [go_sem, *]))
 refine⟨by simp,_,(by first | rfl|(simp (disch:=omega) [go_sem,zG] <;> rfl)),?_⟩
 exact zZ ⟨fun k hk=>rfl,by simp[go_sem,below,belowL,ZW],by rfl,by simp,by simp⟩
end Go.AM
namespace Go.AM
open Go.Proofs Cw Du Go.RowKit
set_option maxRecDepth 10000
set_option maxHeartbeats 4000000
theorem dbl1 (d:Int) (p:Pr) (m:Nat) (E:List (ByteArray × Int)) (clk:Nat) (bs:List Nat) (H:zH) (n:Nat) (hmn:m < n) (M:MapK vS (iv .i64) H m E clk bs):APureAt Tryz.prog 71 [dutyA d p,.fptr [.map m]] H n (bv (decide ((Zo eqB p.2 E).getD 0 < 2))):=by
 refine zQ.pure (zQ.entry (by kernel_rfl) fun hb _=>zV Tryz.func71 rfl (by kernel_rfl) (by simp[Tryz.ntmps71]) ?_)
 obtain⟨H2,hH2⟩:∃H2,H2=H.upd n (some (.cells [iv .i64 d,sv p.1,sv p.2])):=⟨_,rfl⟩
 have M2:MapK vS (iv .i64) H2 m E clk bs:=⟨by rw[hH2,zG _ _ _ _ (by omega)];exact M.at_,M.len,M.nd,M.lt⟩
 have hlook:=look_K keyS jn (va:=iv .i64) (z:=0) (by kernel_rfl) M2 p.2 false
 rw[hH2] at hlook
 generalize (Zo eqB p.2 E).getD 0=w at *
 replace hlook:zB _:=hlook
 replace M:zB _:=trivial
 replace M2:zB _:=trivial
 clear hH2
 obtain⟨p1,p2⟩:=p
 simp only[dutyA] at hlook ⊢
 repeat' (first|(refine zD fun K hK=>?_)|(refine zA fun K hK=>?_;simp (disch:=omega) [go_sem, *,zG,Tryz.ntmps71])|(apply zB.out hK;clear hK K;try with_reducible dsimp only[zC]))
 have hl7:=hlook.out
 simp (disch:=omega) [go_sem,zG] at hl7
 rw[hl7]
 replace hl7:zB _:=trivial
 replace hlook:zB _:=trivial
 simp (disch:=omega) [go_sem]
 repeat' (first|(apply zB.out hK;clear hK K;try with_reducible dsimp only[zC]))
 exact zR
theorem flat_at (d:Int) (V:List Pr) (i:Nat) (p:Pr) (h:V[i]? = some p):∃A B,flat (V.map (dutyA d))=A ++ [iv .i64 d,sv p.1,sv p.2] ++ B∧A.length=i * 3:=by
 obtain⟨hlt,e⟩:=List.getElem?_eq_some_iff.1 h
 refine⟨flat ((V.take i).map (dutyA d)),flat ((V.drop (i + 1)).map (dutyA d)),?_,?_⟩
 ·have:V=V.take i ++ p :: V.drop (i + 1):=by rw[←e,←List.drop_eq_getElem_cons hlt,List.take_append_drop]
  conv=>lhs;rw[this]
  simp[flat,dutyA,cellsOf]
 ·have:=Zy (s:=3) (L:=(V.take i).map (dutyA d)) (fun y hy=>by obtain⟨o,_,rfl⟩:=List.mem_map.1 hy;exact duty_len d o)
  rw[this,List.length_map,List.length_take];omega
theorem indexFO (d:Int) (g:FuncId) (caps:List AV) (q:Pr→Bool) (m:Nat) (l:List Pr) (h:zH) (n:Nat) (hm:h m=some (.cells (flat (l.map (dutyA d))))) (hl:l.length≤1000000) (hq:∀x ∈ l,∀n',n≤n'→APureAt Tryz.prog g (dutyA d x :: caps) h n' (bv (q x))) :
  APureAt Tryz.prog 114 [.slc m 0 l.length 3,.func (.func g) [] caps] h n (iv .i64 (jQ q l 0)):=by
 refine zQ.pure (zQ.entry (by kernel_rfl) fun hb _=>zV Tryz.func114 rfl (by kernel_rfl) (by simp[Tryz.ntmps114]) ?_)
 obtain⟨T,hT⟩:∃T,zB (T=jQ q l 0):=⟨_,rfl⟩
 rw[←hT.out]
 replace hq:zB _:=hq
 repeat' (first|(refine zD fun K hK=>?_)|(refine zA fun K hK=>?_;simp (disch:=omega) [go_sem, *,Tryz.ntmps114])|(apply zB.out hK;clear hK K;try with_reducible dsimp only[zC])|(refine zI ?_))
 refine zW (fun s'=>∃(i:Nat) (n':Nat),n≤n'∧i≤l.length∧jQ q (l.drop i) i=T∧s'=⟨19,[(0,.slc m 0 l.length 3),(1,.func (.func g) [] caps),(7,iv .i64 l.length),(8,iv .i64 i)],h,n'⟩)
   (fun s'=>l.length - (zY s' 8).toNat) ?_ ?_
 ·exact zX (by simp[go_sem]) (Sub.refl _) ⟨0,_,by omega,by omega,hT.out.symm,rfl⟩
 ·rintro s' ⟨i,n',hn',hi,hc,rfl⟩
  by_cases hlt:i < l.length
  ·obtain⟨x,hx⟩:∃x,l[i]=x:=⟨_,rfl⟩
   have hdr:l.drop i=x :: l.drop (i + 1):=by rw[List.drop_eq_getElem_cons hlt,hx]
   rw[hdr,jQ] at hc
   have k1:=fun b hb=>hq.out x (hx ▸ List.getElem_mem hlt) b hb
   obtain⟨A,B,hfl,hA⟩:=flat_at d l i x (by rw[List.getElem?_eq_getElem hlt,hx])
   rw[hfl] at hm
   replace hx:zB _:=hx
   replace hdr:zB _:=trivial
   simp only[dutyA] at k1
   generalize hz:q x=z at *
   replace hz:zB _:=trivial
   cases z with
   | true=>
    rw[if_pos rfl] at hc
    subst hc
    repeat' (first|(refine zD fun K hK=>?_)|(refine zA fun K hK=>?_;simp (disch:=omega) [go_sem, *,zN,zO])|(apply zB.out hK;clear hK K;try with_reducible dsimp only[zC])|(apply zB.out ht;clear ht hf Kt Kf)|(with_reducible refine APureAt.gcall (k1 _ (by omega)) ?_;try simp (disch:=omega) [go_sem, *])|(refine zI ?_)|(refine zK ?_;simp only[zC])|(refine zF fun Kt Kf ht hf=>?_;simp (disch:=omega) [go_sem, *];try (refine⟨fun hc=>?_,fun hc=>?_⟩ <;> try (exfalso;omega))))
    exact zR
   | false=>
    rw[if_neg (by simp)] at hc
    replace hc:zB _:=hc
    repeat' (first|(refine zD fun K hK=>?_)|(refine zA fun K hK=>?_;simp (disch:=omega) [go_sem, *,zM,zN,zO])|(apply zB.out hK;clear hK K;try with_reducible dsimp only[zC])|(apply zB.out ht;clear ht hf Kt Kf)|(apply zB.out hf;clear ht hf Kt Kf)|(with_reducible refine APureAt.gcall (k1 _ (by omega)) ?_;try simp (disch:=omega) [go_sem, *])|(refine zI ?_)|(refine zK ?_;simp only[zC,zP])|(refine zF fun Kt Kf ht hf=>?_;simp (disch:=omega) [go_sem, *];try (refine⟨fun hc=>?_,fun hc=>?_⟩ <;> try (exfalso;omega))))
    exact zS (by simp (disch:=omega) [go_sem]) (Sub.refl _) ⟨i + 1,_,by omega,by omega,hc.out,rfl⟩ (by simp[zY,go_sem];omega)
  ·rw[List.drop_eq_nil_of_le (by omega),jQ] at hc
   subst hc
   repeat' (first|(refine zD fun K hK=>?_)|(refine zA fun K hK=>?_;simp (disch:=omega) [go_sem, *,zU])|(apply zB.out hK;clear hK K;try with_reducible dsimp only[zC])|(apply zB.out hf;clear ht hf Kt Kf)|(clear hK K;apply zB.out hK;clear hK K;try with_reducible dsimp only[zC])|(refine zT ?_;simp only[zC,zP,if_true])|(refine zF fun Kt Kf ht hf=>?_;simp (disch:=omega) [go_sem, *];try (refine⟨fun hc=>?_,fun hc=>?_⟩ <;> try (exfalso;omega))))
   exact zR
theorem idxQ_none {α:Type} (q:α→Bool) (l:List α) (h:jQ q l 0 < 0):l.filter (fun x=>!q x)=l:=by
 have h1:¬0≤jQ q l 0:=by omega
 rw[idxQ_iff] at h1
 rw[List.filter_eq_self]
 intro x hx
 have:l.any q=false:=by simpa using h1
 rw[List.any_eq_false] at this
 simpa using this x hx
theorem idxQ_some {α:Type} (q:α→Bool):∀(l:List α) (i:Nat) (k:Int),jQ q l i=k→0≤k→∃j:Nat,k=i + j∧∃h:j < l.length,q l[j]=true∧(l.take j).filter (fun x=>!q x)=l.take j
 | [],i,k,h,h0=>by rw[jQ] at h;omega
 | x :: r,i,k,h,h0=>by
  rw[jQ] at h
  cases hq:q x with
  | true=>
   rw[hq,if_pos rfl] at h
   exact⟨0,by omega,by simp,hq,by simp⟩
  | false=>
   rw[hq,if_neg (by simp)] at h
   obtain⟨j,e1,e2,e3,e4⟩:=idxQ_some q r (i + 1) k h h0
   exact⟨j + 1,by omega,by simp;omega,by simpa using e3,by rw[List.take_succ_cons,List.filter_cons_of_pos (by simp[hq]),e4]⟩
theorem flat_load (d:Int) (V:List Pr) (i:Nat) (p:Pr) (h:V[i]? = some p):List.take 3 (List.drop (i * 3) (flat (V.map (dutyA d))))=[iv .i64 d,sv p.1,sv p.2]:=by
 obtain⟨A,B,e,hA⟩:=flat_at d V i p h
 rw[e,List.append_assoc,List.drop_append_of_le_length (by omega),List.drop_eq_nil_of_le (by omega)]
 rfl
theorem flat_mid (d:Int) (P R:List Pr) (p:Pr):flat ((P ++ p :: R).map (dutyA d))=flat (P.map (dutyA d)) ++ ([iv .i64 d,sv p.1,sv p.2] ++ flat (R.map (dutyA d))):=by
 simp[flat,dutyA,cellsOf]
theorem qf (d:Int) (P:List Pr):(flat (P.map (dutyA d))).length=P.length * 3:=by
 have:=Zy (s:=3) (L:=P.map (dutyA d)) (fun y hy=>by obtain⟨o,_,rfl⟩:=List.mem_map.1 hy;exact duty_len d o)
 rw[this,List.length_map]
theorem flat_set (d:Int) (V:List Pr) (i:Nat) (p:Pr) (h:i < V.length):zr (flat (V.map (dutyA d))) (i * 3) [iv .i64 d,sv p.1,sv p.2]=flat ((V.set i p).map (dutyA d)):=by
 obtain⟨P,y,R,rfl,rfl⟩:∃P y R,V=P ++ y :: R∧P.length=i:=⟨V.take i,V[i],V.drop (i + 1),by rw[←List.drop_eq_getElem_cons h,List.take_append_drop],by rw[List.length_take];omega⟩
 have e:(P ++ y :: R).set P.length p=P ++ p :: R:=by simp
 have hl:=qf d P
 rw[e,flat_mid,flat_mid]
 unfold zr
 rw[List.take_append_of_le_length (by omega),List.take_of_length_le (by omega),List.drop_append,List.drop_eq_nil_of_le (by simp;omega),hl]
 have:P.length * 3 + [iv .i64 d,sv p.1,sv p.2].length - P.length * 3=3:=by simp
 rw[this]
 simp
end Go.AM
namespace Go.AM
open Go.Proofs Cw Du Go.RowKit
set_option maxRecDepth 10000
set_option maxHeartbeats 4000000
theorem idxQ_m1 {α:Type} (q:α→Bool):∀(l:List α) (i:Nat),jQ q l i=-1∨(i:Int)≤jQ q l i
 | [],i=>.inl rfl
 | x :: r,i=>by
  rw[jQ]
  split
  ·exact .inr (Int.le_refl _)
  ·rcases idxQ_m1 q r (i + 1) with h | h
   ·exact .inl h
   ·right;omega
theorem flat_tail (d:Int) (V:List Pr) (i:Nat) (Y:List AV) (h:i≤V.length) (hY:Y.length=(V.length - i) * 3):zr (flat (V.map (dutyA d))) (i * 3) Y=flat ((V.take i).map (dutyA d)) ++ Y:=by
 have e:flat (V.map (dutyA d))=flat ((V.take i).map (dutyA d)) ++ flat ((V.drop i).map (dutyA d)):=by
  conv=>lhs;rw[←List.take_append_drop i V,List.map_append]
  simp only[flat,List.map_append,List.flatten_append]
 have h1:=qf d (V.take i)
 have h2:=qf d (V.drop i)
 rw[List.length_take] at h1
 rw[List.length_drop] at h2
 rw[e]
 unfold zr
 rw[List.take_append_of_le_length (by omega),List.take_of_length_le (by omega),List.drop_eq_nil_of_le (by rw[List.length_append];omega),List.append_nil]
def zerD (k:Nat):List Value:=(List.replicate k [Value.int .i64 0,Value.string ByteArray.empty,Value.string ByteArray.empty]).flatten
theorem zrow_zer:∀k:Nat,Jk (.agg [iv .i64 0,sv ByteArray.empty,sv ByteArray.empty]) k=(zerD k).map .c:=by
 intro k
 unfold Jk zerD
 rw[List.map_flatten,List.map_replicate]
 rfl
theorem deleteFO (d:Int) (g:FuncId) (caps:List AV) (q:Pr→Bool) (m:Nat) (l:List Pr) (h:zH) (n:Nat) (hm:h m=some (.cells (flat (l.map (dutyA d))))) (hl:l.length≤1000) (hmn:m < n)
  (hq:∀H',(∀x,x < n→x≠m→H' x=h x)→∀x ∈ l,∀n',n≤n'→APureAt Tryz.prog g (dutyA d x :: caps) H' n' (bv (q x))) :
  zQ Tryz.prog 70 [.slc m 0 l.length 3,.func (.func g) [] caps] h n fun r h' n'=>n≤n'∧∃Z:List Value,r=.slc m 0 (l.filter fun x=>!q x).length 3∧h' m=some (.cells (flat ((l.filter fun x=>!q x).map (dutyA d)) ++ Z.map .c))∧∀x,x < n→x≠m→h' x=h x:=by
 refine zQ.entry (by kernel_rfl) fun hb _=>zV Tryz.func70 rfl (by kernel_rfl) (by simp[Tryz.ntmps70]) ?_
 have k1:=fun b (hb:n≤b)=>indexFO d g caps q m l h b hm (by omega) (fun x hx n' hn'=>hq h (fun _ _ _=>rfl) x hx n' (by omega))
 replace hq:zB _:=hq
 rcases idxQ_m1 q l 0 with hk | hk
 ·rw[hk] at k1
  have hfl:=idxQ_none q l (by omega)
  rw[hfl]
  replace hfl:zB _:=trivial
  replace hm:zB _:=hm
  repeat' (first|(refine zD fun K hK=>?_)|(refine zA fun K hK=>?_;simp (disch:=omega) [go_sem, *,Tryz.ntmps70])|(apply zB.out hK;clear hK K;try with_reducible dsimp only[zC])|(apply zB.out ht;clear ht hf Kt Kf)|(with_reducible refine APureAt.gcall (k1 _ (by omega)) ?_;try simp (disch:=omega) [go_sem, *])|(refine zF fun Kt Kf ht hf=>?_;simp (disch:=omega) [go_sem, *];try (refine⟨fun hc=>?_,fun hc=>?_⟩ <;> try (exfalso;omega))))
  refine zf ?_
  try dsimp only[zC,zP]
  refine⟨by simp,_,(by first | rfl|(simp (disch:=omega) [go_sem,zG] <;> rfl)),?_⟩
  exact zZ ⟨by omega,[],rfl,by rw[hm.out];simp,fun x _ _=>rfl⟩
 ·obtain⟨j0,e1,e2,e3,e4⟩:=idxQ_some q l 0 _ rfl (by simpa using hk)
  rw[show ((0:Nat):Int) + (j0:Int)=(j0:Int) by simp] at e1
  rw[e1] at k1
  have e5:(l.take (j0 + 1)).filter (fun x=>!q x)=l.take j0:=by
   rw[List.take_succ_eq_append_getElem e2,List.filter_append,e4];simp[e3]
  replace e5:zB _:=e5
  replace hm:zB _:=hm
  clear e1 e3 e4 hk
  repeat' (first|(refine zD fun K hK=>?_)|(refine zA fun K hK=>?_;simp (disch:=omega) [go_sem, *,zM,Tryz.ntmps70])|(apply zB.out hK;clear hK K;try with_reducible dsimp only[zC])|(apply zB.out hf;clear ht hf Kt Kf)|(with_reducible refine APureAt.gcall (k1 _ (by omega)) ?_;try simp (disch:=omega) [go_sem, *])|(refine zI ?_)|(refine zK ?_;simp only[zC])|(refine zF fun Kt Kf ht hf=>?_;simp (disch:=omega) [go_sem, *];try (refine⟨fun hc=>?_,fun hc=>?_⟩ <;> try (exfalso;omega))))
  refine zW (fun s'=>∃(i j n':Nat) (W:List Pr) (H':zH),n≤n'∧i < j∧j≤l.length∧W.length=l.length∧W.take i=(l.take j).filter (fun x=>!q x)∧W.drop j=l.drop j∧H' m=some (.cells (flat (W.map (dutyA d))))∧(∀x,x < n→x≠m→H' x=h x)∧
    s'=⟨42,[(0,.slc m 0 l.length 3),(1,.func (.func g) [] caps),(5,iv .i64 i),(6,iv .i64 j)],H',n'⟩)
   (fun s'=>l.length - (zY s' 6).toNat) ?_ ?_
  ·exact zX (by simp[go_sem]) (Sub.refl _) ⟨j0,j0 + 1,_,l,h,by omega,by omega,by omega,rfl,e5.out.symm,rfl,hm.out,fun _ _ _=>rfl,rfl⟩
  ·rintro s' ⟨i,j,n',W,H',hn',hij,hjl,hWl,hWt,hWd,hWm,hfr,rfl⟩
   replace hfr:zB _:=hfr
   by_cases hlt:j < l.length
   ·obtain⟨x,hx⟩:∃x,l[j]=x:=⟨_,rfl⟩
    have hWj:W[j]? = some x:=by
     have h1:(W.drop j)[0]? = (l.drop j)[0]?:=by rw[hWd]
     rw[List.getElem?_drop,List.getElem?_drop,Nat.add_zero,List.getElem?_eq_getElem hlt,hx] at h1
     exact h1
    have hld:=flat_load d W j x hWj
    have hcl:=qf d W
    rw[hWl] at hcl
    have hst:=flat_set d W i x (by omega)
    have hk2:=fun Hb (hb:∀y,y < n→y≠m→Hb y=h y)=>hq.out Hb hb x (hx ▸ List.getElem_mem hlt)
    have htk:(l.take (j + 1)).filter (fun x=>!q x)=W.take i ++ if q x=true then [] else [x]:=by
     rw[List.take_succ_eq_append_getElem hlt,hx,List.filter_append,←hWt]
     cases hqx:q x <;> simp[hqx]
    have hWt2:(W.set i x).take (i + 1)=W.take i ++ [x]:=by
     rw[List.take_succ_eq_append_getElem (by simp;omega),List.take_set_of_le (by omega)];simp
    have hWd2:(W.set i x).drop (j + 1)=l.drop (j + 1):=by
     rw[List.drop_set_of_lt (by omega),←List.drop_drop,←List.drop_drop,hWd]
    have hWd3:W.drop (j + 1)=l.drop (j + 1):=by rw[←List.drop_drop,←List.drop_drop,hWd]
    generalize hc:flat (W.map (dutyA d))=c at *
    replace hx:zB _:=trivial
    replace hWj:zB _:=trivial
    replace hst:zB _:=hst
    replace hk2:zB _:=hk2
    replace htk:zB _:=htk
    replace hWt:zB _:=hWt
    replace hWd:zB _:=hWd
    replace hWt2:zB _:=hWt2
    replace hWd2:zB _:=hWd2
    replace hWd3:zB _:=hWd3
    replace hc:zB _:=hc
    replace hWl:zB _:=hWl
    obtain⟨x1,x2⟩:=x
    simp only[dutyA] at hk2 hld
    repeat' (first|(refine zD fun K hK=>?_)|(refine zA fun K hK=>?_;simp (disch:=omega) [go_sem, *,ZF,zN,zO])|(apply zB.out hK;clear hK K;try with_reducible dsimp only[zC])|(apply zB.out ht;clear ht hf Kt Kf)|(refine zI ?_)|(refine zK ?_;simp only[zC])|(refine zF fun Kt Kf ht hf=>?_;simp (disch:=omega) [go_sem, *];try (refine⟨fun hc=>?_,fun hc=>?_⟩ <;> try (exfalso;omega))))
    obtain⟨Hb,hHb⟩:∃Hb,Hb=(H'.upd (n' + 4 + 4) (some (.cells [iv .i64 0,sv ByteArray.empty,sv ByteArray.empty]))).upd (n' + 4 + 4) (some (.cells [iv .i64 d,sv x1,sv x2])):=⟨_,rfl⟩
    have hbf:∀y,y≠n' + 4 + 4→Hb y=H' y:=fun y hy=>by rw[hHb];simp only[zG _ _ _ _ hy]
    have hb7:Hb (n' + 4 + 4)=some (.cells [iv .i64 d,sv x1,sv x2]):=by rw[hHb];exact zL _ _ _
    have hbm:Hb m=some (.cells c):=by rw[hbf _ (by omega)];exact hWm
    have hfr2:∀y,y < n→y≠m→Hb y=h y:=fun y h1 h2=>by rw[hbf _ (by omega)];exact hfr.out y h1 h2
    have k2:=fun b hb=>hk2.out Hb hfr2 b hb
    rw[←hHb]
    replace hHb:zB _:=trivial
    replace hk2:zB _:=trivial
    replace hfr2:zB _:=hfr2
    clear hbf hWm
    cases hqx:q (x1,x2) with
    | true=>
     rw[hqx] at k2
     have htk:=htk.out
     rw[hqx,if_pos rfl,List.append_nil] at htk
     replace htk:zB _:=htk
     replace hqx:zB _:=trivial
     repeat' (first|(refine zA fun K hK=>?_;simp (disch:=omega) [go_sem, *,zM])|(apply zB.out hK;clear hK K;try with_reducible dsimp only[zC])|(apply zB.out hf;clear ht hf Kt Kf)|(with_reducible refine APureAt.gcall (k2 _ (by omega)) ?_;try simp (disch:=omega) [go_sem, *])|(refine zK ?_;simp only[zC,zP])|(refine zF fun Kt Kf ht hf=>?_;simp (disch:=omega) [go_sem, *];try (refine⟨fun hc=>?_,fun hc=>?_⟩ <;> try (exfalso;omega))))
     exact zS (by simp (disch:=omega) [go_sem]) (Sub.refl _) ⟨i,j + 1,_,W,Hb,by omega,by omega,by omega,hWl.out,htk.out.symm,hWd3.out,by rw[hc.out];exact hbm,hfr2.out,rfl⟩ (by simp[zY,go_sem];omega)
    | false=>
     rw[hqx] at k2
     have htk:=htk.out
     rw[hqx,if_neg (by simp),←hWt2.out] at htk
     replace htk:zB _:=htk
     replace hqx:zB _:=trivial
     repeat' (first|(refine zD fun K hK=>?_)|(refine zA fun K hK=>?_;simp (disch:=omega) [go_sem, *,zM,ZF,zN,zO])|(apply zB.out hK;clear hK K;try with_reducible dsimp only[zC])|(apply zB.out ht;clear ht hf Kt Kf)|(with_reducible refine APureAt.gcall (k2 _ (by omega)) ?_;try simp (disch:=omega) [go_sem, *])|(refine zF fun Kt Kf ht hf=>?_;simp (disch:=omega) [go_sem, *];try (refine⟨fun hc=>?_,fun hc=>?_⟩ <;> try (exfalso;omega))))
     have hst2:List.take (i * 3) c ++ iv .i64 d :: sv x1 :: sv x2 :: List.drop (i * 3 + 3) c=flat ((W.set i (x1,x2)).map (dutyA d)):=by rw[←hst.out];simp[zr]
     rw[hst2]
     exact zS (by simp (disch:=omega) [go_sem]) (Sub.refl _) ⟨i + 1,j + 1,_,W.set i (x1,x2),Hb.upd m (some (.cells (flat ((W.set i (x1,x2)).map (dutyA d))))),by omega,by omega,by omega,by simp[hWl.out],htk.out.symm,hWd2.out,zL _ _ _,fun y h1 h2=>by rw[zG _ _ _ _ h2];exact hfr2.out y h1 h2,rfl⟩ (by simp[zY,go_sem];omega)
   ·have hjj:j=l.length:=by omega
    subst hjj
    rw[List.take_length] at hWt
    have hWi:i=(l.filter fun x=>!q x).length:=by
     rw[←hWt,List.length_take];omega
    have hct:=flat_tail d W i (Jk (.agg [iv .i64 0,sv ByteArray.empty,sv ByteArray.empty]) (l.length - i)) (by omega) (by rw[zrow_zer,List.length_map,zerD];simp[hWl])
    have hcl:=qf d W
    rw[hWl] at hcl
    rw[hWt,zrow_zer] at hct
    rw[←hWi]
    generalize hc:flat (W.map (dutyA d))=c at *
    replace hct:zB _:=hct
    replace hWt:zB _:=trivial
    replace hWd:zB _:=trivial
    replace hWi:zB _:=hWi
    replace hc:zB _:=trivial
    have hclr:Qq Tryz.prog 28 (.slc m (i * 3) (l.length - i) 3) H'=some (H'.upd m (some (.cells (zr c (i * 3) (Jk (.agg [iv .i64 0,sv ByteArray.empty,sv ByteArray.empty]) (l.length - i)))))):=by
     simp only[Qq,eltOf28,szOf51,zerOf51,hWm]
     rw[if_pos (by simp[cellsOf,AV.scalar]),if_pos trivial,if_pos (by omega)]
    rw[zrow_zer,hct.out] at hclr
    replace hct:zB _:=trivial
    replace hWm:zB _:=hWm
    repeat' (first|(refine zD fun K hK=>?_)|(refine zA fun K hK=>?_;simp (disch:=omega) [go_sem, *,zN,zO])|(apply zB.out hK;clear hK K;try with_reducible dsimp only[zC])|(apply zB.out hf;clear ht hf Kt Kf)|(clear hK K;apply zB.out hK;clear hK K;try with_reducible dsimp only[zC])|(refine zT ?_;simp only[zC,zP,if_true])|(refine zF fun Kt Kf ht hf=>?_;simp (disch:=omega) [go_sem, *];try (refine⟨fun hc=>?_,fun hc=>?_⟩ <;> try (exfalso;omega))))
    refine zf ?_
    try dsimp only[zC,zP]
    refine⟨by simp,_,(by first | rfl|(simp (disch:=omega) [go_sem,zG] <;> rfl)),?_⟩
    exact zZ ⟨by omega,zerD (l.length - i),by rw[←hWi.out];rfl,zL _ _ _,fun y h1 h2=>by rw[zG _ _ _ _ h2];exact hfr.out y h1 h2⟩
end Go.AM
namespace Go.AM
open Go.Proofs Cw Du Go.RowKit
set_option maxRecDepth 10000
set_option maxHeartbeats 4000000
theorem Q6 (d:Int) (Y:List AV):∀D:List Pr,Zp true 3 D.length (flat (D.map (dutyA d)) ++ Y)=D.map (dutyA d)
 | []=>rfl
 | p :: r=>by
  have ih:=Q6 d Y r
  have e:flat ((p :: r).map (dutyA d))=[iv .i64 d,sv p.1,sv p.2] ++ flat (r.map (dutyA d)):=by simp[flat,dutyA,cellsOf]
  rw[e,List.append_assoc]
  simp only[Zp,List.length_cons,qP,List.map_cons] at ih ⊢
  have e1:List.drop 3 ([iv .i64 d,sv p.1,sv p.2] ++ (flat (r.map (dutyA d)) ++ Y))=flat (r.map (dutyA d)) ++ Y:=rfl
  have e2:List.take 3 ([iv .i64 d,sv p.1,sv p.2] ++ (flat (r.map (dutyA d)) ++ Y))=[iv .i64 d,sv p.1,sv p.2]:=rfl
  rw[e1,e2,ih];rfl
def dblY (ls:List Lin) (d:Int):List Dy:=(jc (duR ls d)).map fun p=>(d,p)
def dblL (ls:List Lin) (lo:Int) (k:Nat):List Dy:=(dys lo k).flatMap (dblY ls)
def qW (ls:List Lin) (l:List Ordr) (lo hi:Int):List Dy × Int:=if Zc ls l lo hi≠0 then ([],Zc ls l lo hi) else (dblL ls lo (hi + 1 - lo).toNat,0)
theorem dblD_len (l:List Pr):(jc l).length=(Jz l).length:=by unfold jc;rw[QI];simp
theorem moreD_len (l:List Pr):(Jz l).length≤l.length:=List.length_filter_le _ _
theorem dblL_len (ls:List Lin):∀(k:Nat) (lo:Int),(dblL ls lo k).length≤k * ls.length
 | 0,_=>by simp[dblL,dys]
 | k + 1,lo=>by
  have:=dblL_len ls k (lo + 1)
  have h2:(dblY ls lo).length≤ls.length:=by
   unfold dblY;rw[List.length_map,dblD_len]
   exact Nat.le_trans (moreD_len _) (qA ls lo)
  unfold dblL at this ⊢
  rw[dys,List.flatMap_cons,List.length_append,Nat.succ_mul];omega
theorem dblY_map (_ls:List Lin) (d:Int) (S:List Pr):((S.map fun p=>(d,p)):List Dy).map dyA=S.map (dutyA d):=by
 rw[List.map_map];rfl
theorem ap_dy0 {nm m s:Nat} {V:List Dy} {h:zH} {b c:Bool} (hs:s=0∨s=3) (hm:h m=acO (V.map dyA)):zm Tryz.prog nm 28 (acV 3 m (V.map dyA)) (.fslc b c s []) h=some (acV 3 m (V.map dyA),h):=by
 by_cases h0:V=[]
 ·subst h0
  exact apD_0 nm h true b c 0 s hs
 ·have h1:V.map dyA≠[]:=by simpa using h0
  rw[Zm h1] at hm
  rw[ZQ h1,List.length_map]
  have hfl:(flat (V.map dyA)).length=V.length * 3:=by
   have:=Zy (s:=3) (L:=V.map dyA) (fun y hy=>by obtain⟨o,_,rfl⟩:=List.mem_map.1 hy;exact dy_len o)
   rw[this,List.length_map]
  have e:h.upd m (some (.cells (flat (V.map dyA))))=h:=by
   funext x
   by_cases hx:x=m
   ·subst hx;rw[zL,hm]
   ·rw[zG _ _ _ _ hx]
  have:=apD_S0 nm m h b c s hs (flat (V.map dyA)) V.length hfl
  rw[e,e] at this
  exact this
theorem deleteF0 (d:Int) (g:FuncId) (caps:List AV) (h:zH) (n:Nat):APureAt Tryz.prog 70 [.fslc true true 0 [],.func (.func g) [] caps] h n (.fslc true true 0 []):=by
 have k1:=indexFD d g caps (fun _=>true) true true 0 [] (fun x hx=>by simp at hx) (.inl rfl) (by simp)
 rw[show jQ (fun _:Pr=>true) [] 0=-1 from rfl,List.map_nil] at k1
 refine zQ.pure (zQ.entry (by kernel_rfl) fun hb _=>zV Tryz.func70 rfl (by kernel_rfl) (by simp[Tryz.ntmps70]) ?_)
 repeat' (first|(refine zD fun K hK=>?_)|(refine zA fun K hK=>?_;simp (disch:=omega) [go_sem, *,Tryz.ntmps70])|(apply zB.out hK;clear hK K;try with_reducible dsimp only[zC])|(apply zB.out ht;clear ht hf Kt Kf)|(with_reducible refine zJ.gcall (k1) ?_;try simp (disch:=omega) [go_sem, *])|(refine zF fun Kt Kf ht hf=>?_;simp (disch:=omega) [go_sem, *];try (refine⟨fun hc=>?_,fun hc=>?_⟩ <;> try (exfalso;omega))))
 (refine zf ?_;try dsimp only[zC,zP];refine⟨by simp,_,(by first | rfl|(simp (disch:=omega) [go_sem,zG] <;> rfl)),?_⟩;refine zZ ⟨fun k hk=>(by first | rfl|(repeat rw[zG _ _ _ _ (by omega)])),(by simp[go_sem,below,belowL]),(by simp[go_sem] <;> omega),by simp,by simp⟩)
theorem moreD_q (E:List (ByteArray × Int)) (S:List Pr) (h:∀s,(Zo eqB s E).getD 0=Zv S s):(S.filter fun x=>!decide ((Zo eqB x.2 E).getD 0 < 2))=Jz S:=by
 unfold Jz
 refine List.filter_congr fun x _=>?_
 rw[h,Bool.eq_iff_iff]
 simp only[Bool.not_eq_true',decide_eq_false_iff_not,decide_eq_true_eq]
 omega
theorem cntP_snoc (l:List Pr) (p:Pr) (s:ByteArray):Zv (l ++ [p]) s=Zv l s + if eqB p.2 s then 1 else 0:=by
 unfold Zv
 rw[List.filter_append,List.length_append,List.filter_cons]
 split <;> simp_all
end Go.AM
namespace Go.AM
open Go.Proofs Cw Du Go.RowKit
set_option maxRecDepth 10000
set_option maxHeartbeats 4000000
theorem Doubles_spec (nlL fuL:Bool) (sL:Nat) (ls:List Lin) (hnlL:ls=[]∨nlL=false∧sL=8) (hsL:smL ls) (hlL:ls.length≤1000000) (h19:ls.length≤19∨60 < ls.length) (nl fu:Bool) (s:Nat) (l:List Ordr) (hnl:l=[]∨nl=false∧s=7) (hw:wfO l) (hs:smO l) (hl:l.length≤1000000) (lo hi:Int) :
  zJ Tryz.prog 27 [.agg [.fslc nlL fuL sL (ls.map zg),.fslc nl fu s (l.map ZH)],.agg [iv .i64 lo,iv .i64 hi]] (.tup [dyF (qW ls l lo hi).1,iv .i64 (qW ls l lo hi).2]):=by
 intro h n
 have k1:=qO nlL fuL sL ls hnlL hsL hlL nl fu s l hnl hw hs hl lo hi
 refine zQ.pure (zQ.entry (by kernel_rfl) fun hb _=>zV Tryz.func27 rfl (by kernel_rfl) (by simp[Tryz.ntmps27]) ?_)
 by_cases hc:Zc ls l lo hi=0
 ·rw[hc] at k1
  obtain⟨hc0,hlo,hlh,hhi⟩:=jD hc
  have hz:=j4 hc0 hsL
  have hl19:ls.length≤19:=by omega
  have ho:qW ls l lo hi=(dblL ls lo (hi + 1 - lo).toNat,0):=by unfold qW;rw[if_neg (by simpa using hc)]
  have k3:=each_spec nlL fuL sL (ls.map zg) nl fu s (l.map ZH) lo hi
  replace ho:zB _:=ho
  replace hz:zB _:=hz
  replace hnlL:zB _:=hnlL
  generalize hLL:List.map zg ls=LL at *
  generalize List.map ZH l=OO at *
  replace hLL:zB _:=hLL
  clear hc hc0 hsL hs hw hnl h19
  repeat' (first|(refine zD fun K hK=>?_)|(refine zA fun K hK=>?_;simp (disch:=omega) [go_sem, *,zG,Tryz.ntmps27])|(apply zB.out hK;clear hK K;try with_reducible dsimp only[zC])|(apply zB.out hf;clear ht hf Kt Kf)|(with_reducible refine zJ.gcall (k1) ?_;try simp (disch:=omega) [go_sem, *])|(with_reducible refine zJ.gcall (k3) ?_;try simp (disch:=omega) [go_sem, *])|(refine zI ?_)|(refine zK ?_;simp only[zC])|(refine zF fun Kt Kf ht hf=>?_;simp (disch:=omega) [go_sem, *];try (refine⟨fun hc=>?_,fun hc=>?_⟩ <;> try (exfalso;omega))))
  clear k1 k3
  refine ja (by rfl) ?_
  generalize hLO:AObj.loop LoopState.ready none 46 _ _ _ _=LO
  replace hLO:zB _:=hLO
  show zQ Tryz.prog 113 [.yld (n + 4 + 4 + 2 + 1 + 3),.fptr [iv .i64 lo,iv .i64 hi],.fptr [.fslc nlL fuL sL LL,.fslc nl fu s OO]] _ _ _
  rw[←hLL.out]
  refine each_iter nlL fuL sL ls hnlL.out hlL hz.out.1 nl fu s OO lo hi hlo hlh hhi _ (fun d h' n2=>∃q V,n + 15≤n2∧n + 11≤q∧q < n2∧q≠n + 14∧V=dblL ls lo (d - lo).toNat∧h' (n + 10)=some (.cells [acV 3 q (V.map dyA)])∧h' q=acO (V.map dyA)∧h' (n + 4 + 4 + 2 + 1 + 3)=some LO∧(∀x,x < n→h' x=h x)) (fun _ _=>False) _ _ _ ?_ ?_ ?_ ?_ ?_ ?_
  ·exact⟨n + 11,[],by simp only;omega,by omega,by simp only;omega,by omega,by rw[Int.sub_self];rfl,by simp (disch:=omega) only[zG,zL];rfl,by simp (disch:=omega) only[zG];exact hb.none (by omega),by simp (disch:=omega) only[zL],fun x hx=>by simp (disch:=omega) only[zG]⟩
  ·rintro d h' n2 ⟨q,V,q0,q1,q2,_⟩;simp only;omega
  ·rintro d h' a b ⟨q,V,q0,q1,q2,q3⟩ hab;exact⟨q,V,by omega,q1,by omega,q3⟩
  ·rintro d h' n2 h2 mo n3 hd1 hd2 ⟨q,V,q0,q1,q2,q3,q4,q5,q6,q7,q8⟩ hm1 hm2 hx2 hm3 KK hI hJ
   have hlo7:=hLO.out
   subst hlo7
   refine yield_at ((hx2 (n + 4 + 4 + 2 + 1 + 3) (by omega)).trans q7) rfl (by simp) ?_
   simp only[go_sem]
   repeat' (first|(refine zA fun K hK=>?_;simp (disch:=omega) [go_sem, *])|(apply zB.out hK;clear hK K;try with_reducible dsimp only[zC]))
   refine⟨_,_,_,_,_,(hx2 _ (by omega)).trans q7,?_⟩
   have hV':dblL ls lo (d + 1 - lo).toNat=V ++ (jc (duR ls d)).map fun p=>(d,p):=by rw[q4];unfold dblL;rw[dys_to lo d hd1,List.flatMap_append];simp[dblY]
   have hVl:V.length≤100000:=by
    rw[q4]
    have h1:=dblL_len ls (d - lo).toNat lo
    have:(d - lo).toNat * ls.length≤401 * 19:=Nat.mul_le_mul (by omega) hl19
    omega
   have hSl:=qA ls d
   change h2 mo=acO ((duR ls d).map (dutyA d)) at hm3
   rw[show (ZN (dayD ls d))=duR ls d from rfl]
   generalize duR ls d=S at *
   dsimp only
   generalize hH5:zH.upd h2 _ _=H5
   have hl5:=(congrFun hH5 (n + 4 + 4 + 2 + 1 + 3)).symm.trans (zL _ _ _)
   have ho5:H5 (n + 10)=some (.cells [acV 3 q (V.map dyA)]):=by rw[←hH5,zG _ _ _ _ (by omega),hx2 _ (by omega)];exact q5
   have hq5:H5 q=acO (V.map dyA):=by rw[←hH5,zG _ _ _ _ (by omega),hx2 _ (by omega)];exact q6
   have hm5:H5 mo=acO (S.map (dutyA d)):=by rw[←hH5,zG _ _ _ _ (by omega)];exact hm3
   have hf5:∀x,x < n→H5 x=h x:=fun x hx=>by rw[←hH5,zG _ _ _ _ (by omega),hx2 _ (by omega),q8 x hx]
   replace hl5:zB _:=hl5
   replace ho5:zB _:=ho5
   replace hq5:zB _:=hq5
   replace hf5:zB _:=hf5
   replace hV':zB _:=hV'
   clear hH5 hx2 q5 q6 q7 q8 hm3 q4
   by_cases hS:S=[]
   ·have e0:acV 3 mo (S.map (dutyA d))=.fslc true true 0 []:=by rw[hS];rfl
    rw[e0]
    have hV':=hV'.out
    rw[hS,show jc []=[] from rfl,List.map_nil,List.append_nil] at hV'
    replace hV':zB _:=hV'
    replace hm5:zB _:=trivial
    replace e0:zB _:=trivial
    have kdel:=deleteF0 d 71 [.fptr [.map (n3 + 1)]]
    have ks:=sortSt_none (.func (.func 73) [] [])
    replace hI:zB _:=hI
    repeat' (first|(refine zD fun K hK=>?_)|(refine zA fun K hK=>?_;simp (disch:=omega) [go_sem, *])|(apply zB.out hK;clear hK K;try with_reducible dsimp only[zC])|(refine zI ?_))
    refine Zr (t:=10) (m:=n3 + 1 + 1) (c:=[.map (n3 + 1)]) (zL _ _ _) (by simp[go_sem]) ?_
    dsimp only
    generalize hH6:zH.upd (zH.upd (zH.upd (zH.upd H5 _ _) _ _) _ _) (n3 + 1 + 1) none=H6
    have h6f:∀x,x < n3 + 1→H6 x=H5 x:=fun x hx=>by rw[←hH6];simp (disch:=omega) only[zG]
    replace hH6:zB _:=trivial
    replace h6f:zB _:=h6f
    refine zW (fun s'=>∃n4:Nat,n3 + 3≤n4∧s'=⟨46,[(7,.ptr (n + 10) 0),(9,.fslc true true 0 []),(10,.fptr [.map (n3 + 1)]),(25,.fslc true true 0 []),(26,iv .i64 0),(27,iv .i64 0)],H6,n4⟩) (fun s'=>0) ?_ ?_
    ·exact zX (by simp[go_sem]) (Sub.refl _) ⟨_,by omega,rfl⟩
    ·rintro s' ⟨n4,p1,rfl⟩
     have kdel:zJ Tryz.prog 70 [.fslc true true 0 [],.func (.func 71) [] [.fptr [.map (n3 + 1)]]] (.fslc true true 0 []):=fun h n=>deleteF0 d _ _ h n
     have ks:zJ Tryz.prog 72 [.fslc true true 0 [],.func (.func 73) [] []] (.tup []):=fun h n=>sortSt_none _ h n
     have hq10:H6 q=acO (V.map dyA):=by rw[h6f.out q (by omega)];exact hq5.out
     have ho10:H6 (n + 10)=some (.cells [acV 3 q (V.map dyA)]):=by rw[h6f.out _ (by omega)];exact ho5.out
     have hl10:H6 (n + 4 + 4 + 2 + 1 + 3)=_:=(h6f.out _ (by omega)).trans hl5.out
     have hf10:∀x,x < n→H6 x=h x:=fun x hx=>by rw[h6f.out _ (by omega)];exact hf5.out x hx
     have hap:=fun nm=>ap_dy0 (nm:=nm) (V:=V) (b:=true) (c:=true) (.inl rfl) hq10
     replace ho5:zB _:=trivial
     replace hq5:zB _:=trivial
     replace hl5:zB _:=trivial
     replace hf5:zB _:=trivial
     replace h6f:zB _:=trivial
     replace hf10:zB _:=hf10
     replace hl10:zB _:=hl10
     replace hap:zB _:=hap
     replace hq10:zB _:=hq10
     repeat' (first|(refine zD fun K hK=>?_)|(refine zA fun K hK=>?_;simp (disch:=omega) [go_sem, *])|(apply zB.out hK;clear hK K;try with_reducible dsimp only[zC])|(apply zB.out hf;clear ht hf Kt Kf)|(clear hK K;apply zB.out hK;clear hK K;try with_reducible dsimp only[zC])|(with_reducible refine zJ.gcall (kdel) ?_;try simp (disch:=omega) [go_sem, *])|(with_reducible refine zJ.gcall (ks) ?_;try simp (disch:=omega) [go_sem, *])|(refine zT ?_;simp only[zC,zP,if_true,if_false,Nat.reduceEqDiff])|(refine zF fun Kt Kf ht hf=>?_;simp (disch:=omega) [go_sem, *];try (refine⟨fun hc=>?_,fun hc=>?_⟩ <;> try (exfalso;omega))))
     repeat (refine hK.out _ ?_;clear hK K;try with_reducible dsimp only[zC])
     repeat' (first|(refine zD fun K hK=>?_)|(refine zA fun K hK=>?_;simp (disch:=omega) [go_sem, *,zM,zG,ZO,zb,ZF,zN,zU,zO,ze])|(refine Zw (by simp[go_sem]) (by simp (disch:=omega) [go_sem, *];first | exact rfl | exact⟨rfl,rfl,rfl⟩) ?_;try simp only[zq,JL])|(refine Zw (by simp[go_sem]) (by (try simp (disch:=omega) [go_sem, *]);first | exact rfl | exact⟨rfl,rfl,rfl⟩) ?_;try simp only[zq,JL])|(refine ZE ?_)|(apply zB.out hK;clear hK K;try with_reducible dsimp only[zC])|(apply zB.out ht;clear ht hf Kt Kf)|(apply zB.out hf;clear ht hf Kt Kf)|(clear hK K;apply zB.out hK;clear hK K;try with_reducible dsimp only[zC])|(clear hK K;clear hK K;apply zB.out hK;clear hK K;try with_reducible dsimp only[zC])|(refine zI ?_)|(refine zK ?_;simp only[zC,zP])|(refine zT ?_;simp only[zC,zP,if_true,if_false,Nat.reduceEqDiff])|(with_reducible show nextK _ _ _ _ _ _ _;simp (disch:=omega) [go_sem, *,zM,zG,ZO,zb,ZF,zN,zU,zO,ze])|(refine JO (fun hc=>?_) (fun hc=>?_) <;> (try simp only[Bool.not_eq_true',Bool.not_eq_false',Bool.not_eq_eq_eq_not,Bool.not_true,Bool.not_false,decide_eq_true_eq,decide_eq_false_iff_not,Int.not_lt,Int.not_le] at hc) <;> (try (exfalso;omega)) <;> (try simp (disch:=omega) [go_sem, *,zM,zG,ZO,zb,ZF,zN,zU,zO,ze]))|(refine zF fun Kt Kf ht hf=>?_;simp (disch:=omega) [go_sem, *,zM,zG,ZO,zb,ZF,zN,zU,zO,ze];try (refine⟨fun hc=>?_,fun hc=>?_⟩ <;> try (exfalso;omega))))
     rw[hap.out]
     replace hap:zB _:=trivial
     by_cases hV0:V=[]
     ·have e1:acV 3 q (V.map dyA)=.fslc true true 0 []:=by rw[hV0];rfl
      rw[e1] at ho10 ⊢
      simp (disch:=omega) [go_sem,ho10]
      replace ho10:zB _:=trivial
      replace e1:zB _:=e1
      repeat' (first|(apply zB.out hK;clear hK K;try with_reducible dsimp only[zC]))
      exact⟨_,_,_,_,_,(zG _ _ _ _ (by omega)).trans hl10.out,hI.out _ _ ⟨q,V,by simp only;omega,by omega,by simp only;omega,by omega,hV'.out.symm,by simp (disch:=omega) only[zG,zL,e1.out],by simp (disch:=omega) only[zG];exact hq10.out,by simp (disch:=omega) only[zL],fun x hx=>by simp (disch:=omega) only[zG];exact hf10.out x hx⟩⟩
     have e1:acV 3 q (V.map dyA)=.slc q 0 V.length 3:=by rw[ZQ (by simpa using hV0)];simp
     rw[e1] at ho10 ⊢
     simp (disch:=omega) [go_sem,ho10]
     replace ho10:zB _:=trivial
     replace e1:zB _:=e1
     repeat' (first|(apply zB.out hK;clear hK K;try with_reducible dsimp only[zC]))
     exact⟨_,_,_,_,_,(zG _ _ _ _ (by omega)).trans hl10.out,hI.out _ _ ⟨q,V,by simp only;omega,by omega,by simp only;omega,by omega,hV'.out.symm,by simp (disch:=omega) only[zG,zL,e1.out],by simp (disch:=omega) only[zG];exact hq10.out,by simp (disch:=omega) only[zL],fun x hx=>by simp (disch:=omega) only[zG];exact hf10.out x hx⟩⟩
   ·have hS1:S.map (dutyA d)≠[]:=by simpa using hS
    have ev:acV 3 mo (S.map (dutyA d))=.slc mo 0 S.length 3:=by rw[ZQ hS1,List.length_map]
    rw[Zm hS1] at hm5
    rw[ev]
    have hcl:=qf d S
    have hld:=fun i p hp=>flat_load d S i p hp
    generalize hc:flat (S.map (dutyA d))=c at *
    replace hc:zB _:=hc
    replace hld:zB _:=hld
    replace hm5:zB _:=hm5
    replace ev:zB _:=trivial
    clear hS1
    repeat' (first|(refine zD fun K hK=>?_)|(refine zA fun K hK=>?_;simp (disch:=omega) [go_sem, *])|(apply zB.out hK;clear hK K;try with_reducible dsimp only[zC])|(refine zI ?_))
    refine Zr (t:=10) (m:=n3 + 1 + 1) (c:=[.map (n3 + 1)]) (zL _ _ _) (by simp[go_sem]) ?_
    dsimp only
    generalize hH6:zH.upd (zH.upd (zH.upd (zH.upd H5 _ _) _ _) _ _) (n3 + 1 + 1) none=H6
    have h60:H6 (n3 + 1)=some (.map 0 [] []):=by rw[←hH6];simp (disch:=omega) only[zG,zL]
    have h6f:∀x,x < n3 + 1→H6 x=H5 x:=fun x hx=>by rw[←hH6];simp (disch:=omega) only[zG]
    replace hH6:zB _:=trivial
    refine zW (fun s'=>∃(i n4:Nat) (E:List (ByteArray × Int)) (ck:Nat) (bt:List Nat) (H':zH),n3 + 3≤n4∧i≤S.length∧MapK vS (iv .i64) H' (n3 + 1) E ck bt∧(∀s,(Zo eqB s E).getD 0=Zv (S.take i) s)∧(∀x,x < n3 + 1→H' x=H5 x)∧
      s'=⟨46,[(7,.ptr (n + 10) 0),(9,.slc mo 0 S.length 3),(10,.fptr [.map (n3 + 1)]),(25,.slc mo 0 S.length 3),(26,iv .i64 S.length),(27,iv .i64 i)],H',n4⟩)
     (fun s'=>S.length - (zY s' 27).toNat) ?_ ?_
    ·exact zX (by simp[go_sem]) (Sub.refl _) ⟨0,_,[],0,[],H6,by omega,by omega,⟨h60,rfl,List.nodup_nil,fun b hb=>by simp at hb⟩,fun s=>rfl,h6f,rfl⟩
    ·rintro s' ⟨i,n4,E,ck,bt,H',p1,p2,p3,p4,p5,rfl⟩
     have p5m:H' mo=some (.cells c):=(p5 mo (by omega)).trans hm5.out
     replace p3:zB _:=p3
     replace p4:zB _:=p4
     replace p5:zB _:=p5
     replace h6f:zB _:=trivial
     replace h60:zB _:=trivial
     by_cases hlt2:i < S.length
     ·obtain⟨p,hp⟩:∃p,S[i]=p:=⟨_,rfl⟩
      have hldi:=hld.out i p (by rw[List.getElem?_eq_getElem hlt2,hp])
      have htk:S.take (i + 1)=S.take i ++ [p]:=by rw[List.take_succ_eq_append_getElem hlt2,hp]
      obtain⟨Hx,hHx⟩:∃Hx,Hx=(H'.upd (n4 + 1 + 2) (some (.cells [iv .i64 0,sv ByteArray.empty,sv ByteArray.empty]))).upd (n4 + 1 + 2) (some (.cells [iv .i64 d,sv p.1,sv p.2])):=⟨_,rfl⟩
      have hxf:∀x,x≠n4 + 1 + 2→Hx x=H' x:=fun x hx=>by rw[hHx];simp only[zG _ _ _ _ hx]
      have hx7:Hx (n4 + 1 + 2)=some (.cells [iv .i64 d,sv p.1,sv p.2]):=by rw[hHx];exact zL _ _ _
      have M2:MapK vS (iv .i64) Hx (n3 + 1) E ck bt:=⟨(hxf _ (by omega)).trans p3.out.at_,p3.out.len,p3.out.nd,p3.out.lt⟩
      have hlook:=look_K keyS jn (va:=iv .i64) (z:=0) (by kernel_rfl) M2 p.2 false
      have hval:(Zo eqB p.2 E).getD 0=Zv (S.take i) p.2:=p4.out p.2
      have hcl2:Zv (S.take i) p.2≤(S.take i).length:=List.length_filter_le _ _
      rw[List.length_take] at hcl2
      obtain⟨ck2,bt2,hput,M3⟩:=put_K keyS jn (va:=iv .i64) M2 p.2 ((Zo eqB p.2 E).getD 0 + 1)
      have hv3:∀s,(Zo eqB s (Zx eqB p.2 ((Zo eqB p.2 E).getD 0 + 1) E)).getD 0=Zv (S.take (i + 1)) s:=fun s=>by
       rw[valK_put zl,htk,cntP_snoc]
       by_cases e:s=p.2
       ·subst e
        rw[(zl _ _).2 rfl]
        simp[p4.out]
       ·have e1:eqB s p.2=false:=by
         cases e2:eqB s p.2 with
         | false=>rfl
         | true=>exact absurd ((zl _ _).1 e2) e
        have e2:eqB p.2 s=false:=by
         cases e2:eqB p.2 s with
         | false=>rfl
         | true=>exact absurd ((zl _ _).1 e2).symm e
        rw[e1,e2]
        simp[p4.out]
      have t8:∀x,x < n3 + 1→(Hx.upd (n3 + 1) (some (.map ck2 bt2 (ju (fun a=>Value.string a) (iv .i64) (Zx eqB p.2 ((Zo eqB p.2 E).getD 0 + 1) E))))) x=H5 x:=fun x hx=>by rw[zG _ _ _ _ (by omega),hxf _ (by omega)];exact p5.out x hx
      generalize Hx.upd (n3 + 1) (some (.map ck2 bt2 (ju (fun a=>Value.string a) (iv .i64) (Zx eqB p.2 ((Zo eqB p.2 E).getD 0 + 1) E))))=H7 at *
      generalize Zx eqB p.2 ((Zo eqB p.2 E).getD 0 + 1) E=E2 at *
      have hvb:0≤(Zo eqB p.2 E).getD 0∧(Zo eqB p.2 E).getD 0≤1000:=by rw[hval];omega
      generalize (Zo eqB p.2 E).getD 0=w at *
      rw[hHx] at hlook hput
      replace M3:zB (MapK vS (iv .i64) H7 (n3 + 1) E2 ck2 bt2):=M3
      replace M2:zB _:=trivial
      replace hval:zB _:=trivial
      replace hcl2:zB _:=trivial
      replace hx7:zB _:=trivial
      replace hv3:zB _:=hv3
      replace t8:zB _:=t8
      replace hlook:zB _:=hlook
      replace hput:zB _:=hput
      replace hp:zB _:=trivial
      replace htk:zB _:=trivial
      clear hxf hHx
      obtain⟨p1',p2'⟩:=p
      simp only at hldi hlook hput
      repeat' (first|(refine zD fun K hK=>?_)|(refine zA fun K hK=>?_;simp (disch:=omega) [go_sem, *,zG,ZF,zN,zO])|(apply zB.out hK;clear hK K;try with_reducible dsimp only[zC])|(apply zB.out ht;clear ht hf Kt Kf)|(refine zI ?_)|(refine zK ?_;simp only[zC])|(refine zF fun Kt Kf ht hf=>?_;simp (disch:=omega) [go_sem, *];try (refine⟨fun hc=>?_,fun hc=>?_⟩ <;> try (exfalso;omega))))
      have hl7:=hlook.out
      simp (disch:=omega) [go_sem,zG] at hl7
      rw[hl7]
      replace hl7:zB _:=trivial
      replace hlook:zB _:=trivial
      simp (disch:=omega) [go_sem,zM,zG]
      repeat' (first|(refine zD fun K hK=>?_)|(refine zA fun K hK=>?_;simp (disch:=omega) [go_sem, *,zM,zG,ZO,zb,ZF,zN,zU,zO,ze])|(refine Zw (by simp[go_sem]) (by simp (disch:=omega) [go_sem, *];first | exact rfl | exact⟨rfl,rfl,rfl⟩) ?_;try simp only[zq,JL])|(refine Zw (by simp[go_sem]) (by (try simp (disch:=omega) [go_sem, *]);first | exact rfl | exact⟨rfl,rfl,rfl⟩) ?_;try simp only[zq,JL])|(refine ZE ?_)|(apply zB.out hK;clear hK K;try with_reducible dsimp only[zC])|(apply zB.out ht;clear ht hf Kt Kf)|(apply zB.out hf;clear ht hf Kt Kf)|(clear hK K;apply zB.out hK;clear hK K;try with_reducible dsimp only[zC])|(clear hK K;clear hK K;apply zB.out hK;clear hK K;try with_reducible dsimp only[zC])|(refine zI ?_)|(refine zK ?_;simp only[zC,zP])|(refine zT ?_;simp only[zC,zP,if_true,if_false,Nat.reduceEqDiff])|(with_reducible show nextK _ _ _ _ _ _ _;simp (disch:=omega) [go_sem, *,zM,zG,ZO,zb,ZF,zN,zU,zO,ze])|(refine JO (fun hc=>?_) (fun hc=>?_) <;> (try simp only[Bool.not_eq_true',Bool.not_eq_false',Bool.not_eq_eq_eq_not,Bool.not_true,Bool.not_false,decide_eq_true_eq,decide_eq_false_iff_not,Int.not_lt,Int.not_le] at hc) <;> (try (exfalso;omega)) <;> (try simp (disch:=omega) [go_sem, *,zM,zG,ZO,zb,ZF,zN,zU,zO,ze]))|(refine zF fun Kt Kf ht hf=>?_;simp (disch:=omega) [go_sem, *,zM,zG,ZO,zb,ZF,zN,zU,zO,ze];try (refine⟨fun hc=>?_,fun hc=>?_⟩ <;> try (exfalso;omega))))
      have h7:=hput.out
      simp (disch:=omega) [go_sem,zG] at h7
      rw[h7]
      replace h7:zB _:=trivial
      replace hput:zB _:=trivial
      simp (disch:=omega) [go_sem]
      repeat' (first|(refine zA fun K hK=>?_;simp (disch:=omega) [go_sem, *,zM])|(apply zB.out hK;clear hK K;try with_reducible dsimp only[zC]))
      exact zS (by simp (disch:=omega) [go_sem]) (Sub.refl _) ⟨i + 1,_,E2,ck2,bt2,H7,by omega,by omega,M3.out,hv3.out,t8.out,rfl⟩ (by simp[zY,go_sem];omega)
     ·have hii:i=S.length:=by omega
      subst hii
      have p4:=p4.out
      rw[List.take_length] at p4
      have hmq:=moreD_q E S p4
      have kdel:=fun nn (hh:n4≤nn)=>deleteFO d 71 [.fptr [.map (n3 + 1)]] (fun p=>decide ((Zo eqB p.2 E).getD 0 < 2)) mo S H' nn (by rw[hc.out];exact p5m) (by omega) (by omega) (fun Hb hb x hx n' hn'=>dbl1 d x (n3 + 1) E ck bt Hb n' (by omega) ⟨(hb (n3 + 1) (by omega) (by omega)).trans p3.out.at_,p3.out.len,p3.out.nd,p3.out.lt⟩)
      simp only[hmq] at kdel
      have hml:=moreD_len S
      have hdl:=dblD_len S
      replace kdel:zB _:=kdel
      replace hmq:zB _:=trivial
      replace p4:zB _:=trivial
      replace p3:zB _:=trivial
      replace p5m:zB _:=trivial
      replace hS:zB _:=trivial
      repeat' (first|(refine zD fun K hK=>?_)|(refine zA fun K hK=>?_;simp (disch:=omega) [go_sem, *])|(apply zB.out hK;clear hK K;try with_reducible dsimp only[zC])|(apply zB.out hf;clear ht hf Kt Kf)|(clear hK K;apply zB.out hK;clear hK K;try with_reducible dsimp only[zC])|(refine zT ?_;simp only[zC,zP,if_true,if_false,Nat.reduceEqDiff])|(refine zF fun Kt Kf ht hf=>?_;simp (disch:=omega) [go_sem, *];try (refine⟨fun hc=>?_,fun hc=>?_⟩ <;> try (exfalso;omega))))
      refine .inl ((kdel.out _ (by omega)).mono fun r h6 n6 hp=>?_)
      obtain⟨hn6,Z,rfl,hz6,hf6⟩:=hp
      have ks:=fun nn=>sortSt_ac d mo nn (Jz S) Z h6 hz6 (by omega)
      replace kdel:zB _:=trivial
      replace ks:zB _:=ks
      replace hz6:zB _:=trivial
      replace hf6:zB _:=hf6
      simp (disch:=omega) [go_sem]
      repeat' (first|(refine zD fun K hK=>?_)|(refine zA fun K hK=>?_;simp (disch:=omega) [go_sem, *])|(apply zB.out hK;clear hK K;try with_reducible dsimp only[zC]))
      refine .inl ((ks.out _).mono fun r h8 n8 hp=>?_)
      obtain⟨rfl,rfl,hn8⟩:=hp
      replace ks:zB _:=trivial
      simp (disch:=omega) [go_sem]
      repeat (refine hK.out _ ?_;clear hK K;try with_reducible dsimp only[zC])
      generalize hH9:zH.upd h6 mo _=H9
      have hm9:H9 mo=some (.cells (flat (perV d (Jz S)) ++ Z.map .c)):=by rw[←hH9];exact zL _ _ _
      have hk9:∀x,x≠mo→x < n4→H9 x=H' x:=fun x hx hx2=>by rw[←hH9,zG _ _ _ _ hx];exact hf6.out x (by omega) hx
      replace hH9:zB _:=trivial
      have hq9:H9 q=acO (V.map dyA):=by rw[hk9 q (by omega) (by omega),p5.out q (by omega)];exact hq5.out
      have ho9:H9 (n + 10)=some (.cells [acV 3 q (V.map dyA)]):=by rw[hk9 _ (by omega) (by omega),p5.out _ (by omega)];exact ho5.out
      have hl9:H9 (n + 4 + 4 + 2 + 1 + 3)=H5 (n + 4 + 4 + 2 + 1 + 3):=by rw[hk9 _ (by omega) (by omega),p5.out _ (by omega)]
      have hf9:∀x,x < n→H9 x=h x:=fun x hx=>by rw[hk9 _ (by omega) (by omega),p5.out _ (by omega)];exact hf5.out x hx
      have hel:Zp true 3 (Jz S).length (flat (perV d (Jz S)) ++ Z.map .c)=(jc S).map (dutyA d):=by rw[←dblD_len];exact Q6 d _ (jc S)
      have hfl:(flat (perV d (Jz S)) ++ Z.map AV.c).length=(Jz S).length * 3 + Z.length:=by
       have h1:=qf d (jc S)
       rw[List.length_append,List.length_map]
       change (flat ((jc S).map (dutyA d))).length + _=_
       omega
      refine qe (t:=9) (m:=mo) (len:=(Jz S).length) (s:=3) true (by simp) hm9 (by simp[go_sem]) (by rw[hfl];omega) ?_
      dsimp only
      rw[hel]
      have hq10:(H9.upd mo none) q=acO (V.map dyA):=by rw[zG _ _ _ _ (by omega)];exact hq9
      have ho10:(H9.upd mo none) (n + 10)=some (.cells [acV 3 q (V.map dyA)]):=by rw[zG _ _ _ _ (by omega)];exact ho9
      have hl10:(H9.upd mo none) (n + 4 + 4 + 2 + 1 + 3)=_:=(zG _ _ _ _ (by omega)).trans (hl9.trans hl5.out)
      have hf10:∀x,x < n→(H9.upd mo none) x=h x:=fun x hx=>by rw[zG _ _ _ _ (by omega)];exact hf9 x hx
      generalize H9.upd mo none=H10 at *
      have hV':=hV'.out
      clear hq9 ho9 hl9 hf9 hm9 hk9 hel hfl
      replace ho5:zB _:=trivial
      replace hq5:zB _:=trivial
      replace hl5:zB _:=trivial
      replace hf5:zB _:=trivial
      replace p5:zB _:=trivial
      replace hf6:zB _:=trivial
      replace hm5:zB _:=trivial
      replace hf10:zB _:=hf10
      replace hl10:zB _:=hl10
      by_cases hD:jc S=[]
      ·have hap:=fun nm=>ap_dy0 (nm:=nm) (V:=V) (b:=false) (c:=false) (.inr rfl) hq10
       simp only[hD,List.map_nil,List.append_nil] at hV' ⊢
       replace hV':zB _:=hV'
       replace hap:zB _:=hap
       replace hq10:zB _:=hq10
       replace hI:zB _:=hI
       repeat' (first|(refine zA fun K hK=>?_;simp (disch:=omega) [go_sem, *]))
       rw[hap.out]
       by_cases hV0:V=[]
       ·have e1:acV 3 q (V.map dyA)=.fslc true true 0 []:=by rw[hV0];rfl
        rw[e1] at ho10 ⊢
        simp (disch:=omega) [go_sem,ho10]
        replace ho10:zB _:=trivial
        replace e1:zB _:=e1
        repeat' (first|(apply zB.out hK;clear hK K;try with_reducible dsimp only[zC]))
        exact⟨_,_,_,_,_,(zG _ _ _ _ (by omega)).trans hl10.out,hI.out _ _ ⟨q,V,by simp only;omega,by omega,by simp only;omega,by omega,hV'.out.symm,by simp (disch:=omega) only[zG,zL,e1.out],by simp (disch:=omega) only[zG];exact hq10.out,by simp (disch:=omega) only[zL],fun x hx=>by simp (disch:=omega) only[zG];exact hf10.out x hx⟩⟩
       have e1:acV 3 q (V.map dyA)=.slc q 0 V.length 3:=by rw[ZQ (by simpa using hV0)];simp
       rw[e1] at ho10 ⊢
       simp (disch:=omega) [go_sem,ho10]
       replace ho10:zB _:=trivial
       replace e1:zB _:=e1
       repeat' (first|(apply zB.out hK;clear hK K;try with_reducible dsimp only[zC]))
       exact⟨_,_,_,_,_,(zG _ _ _ _ (by omega)).trans hl10.out,hI.out _ _ ⟨q,V,by simp only;omega,by omega,by simp only;omega,by omega,hV'.out.symm,by simp (disch:=omega) only[zG,zL,e1.out],by simp (disch:=omega) only[zG];exact hq10.out,by simp (disch:=omega) only[zL],fun x hx=>by simp (disch:=omega) only[zG];exact hf10.out x hx⟩⟩
      ·have hap:=fun nm=>ap_dy (nm:=nm) (m:=q) (V:=V) (X:=(jc S).map fun p=>(d,p)) (h:=H10) (b:=false) (c:=false) hq10 (by simpa using hD) (by simp;omega)
       rw[dblY_map ls d] at hap
       have e1:∀nm,acV 3 nm ((V ++ (jc S).map fun p=>(d,p)).map dyA)=.slc nm 0 (V.length + (jc S).length) 3:=fun nm=>by rw[ZQ (by simp[hD])];simp
       replace hV':zB _:=hV'
       replace hap:zB _:=hap
       replace hq10:zB _:=trivial
       replace hI:zB _:=hI
       replace hD:zB _:=trivial
       repeat' (first|(refine zA fun K hK=>?_;simp (disch:=omega) [go_sem, *]))
       rw[hap.out,e1]
       have s7:((H10.upd q none).upd (n8 + 2) (acO ((V ++ (jc S).map fun p=>(d,p)).map dyA))) (n + 10)=some (.cells [acV 3 q (V.map dyA)]):=by rw[zG _ _ _ _ (by omega),zG _ _ _ _ (by omega)];exact ho10
       have s8:=zL (H10.upd q none) (n8 + 2) (acO ((V ++ (jc S).map fun p=>(d,p)).map dyA))
       have s9:((H10.upd q none).upd (n8 + 2) (acO ((V ++ (jc S).map fun p=>(d,p)).map dyA))) (n + 4 + 4 + 2 + 1 + 3)=_:=(zG _ _ _ _ (by omega)).trans ((zG _ _ _ _ (by omega)).trans hl10.out)
       have s10:∀x,x < n→((H10.upd q none).upd (n8 + 2) (acO ((V ++ (jc S).map fun p=>(d,p)).map dyA))) x=h x:=fun x hx=>by rw[zG _ _ _ _ (by omega),zG _ _ _ _ (by omega)];exact hf10.out x hx
       have hVl2:=hV'.out
       generalize ((H10.upd q none).upd (n8 + 2) (acO ((V ++ (jc S).map fun p=>(d,p)).map dyA)))=H11 at *
       replace hap:zB _:=trivial
       replace hl10:zB _:=trivial
       replace hf10:zB _:=trivial
       replace ho10:zB _:=trivial
       replace e1:zB _:=e1
       replace s8:zB _:=s8
       replace s9:zB _:=s9
       replace s10:zB _:=s10
       simp (disch:=omega) [go_sem,s7]
       repeat' (first|(apply zB.out hK;clear hK K;try with_reducible dsimp only[zC]))
       exact⟨_,_,_,_,_,(zG _ _ _ _ (by omega)).trans s9.out,hI.out _ _ ⟨n8 + 2,V ++ (jc S).map fun p=>(d,p),by simp only;omega,by omega,by simp only;omega,by omega,hV'.out.symm,by simp (disch:=omega) only[zG,zL,e1.out],by simp (disch:=omega) only[zG];exact s8.out,by simp (disch:=omega) only[zL],fun x hx=>by simp (disch:=omega) only[zG];exact s10.out x hx⟩⟩
  ·rintro h' n2 ⟨q,V,q0,q1,q2,q3,q4,q5,q6,q7,q8⟩
   have ho3:=ho.out
   rw[←q4] at ho3
   replace q4:zB _:=trivial
   replace ho3:zB _:=ho3
   replace q6:zB _:=q6
   replace q8:zB _:=q8
   show JB (n + 4 + 4 + 2 + 1 + 3) _ _ _ _ _
   rw[JB,q7,←hLO.out]
   refine⟨by simp,?_⟩
   dsimp only[zP,zC]
   repeat (refine hK.out _ ?_;clear hK K;try with_reducible dsimp only[zC])
   repeat' (first|(refine zD fun K hK=>?_)|(refine zA fun K hK=>?_;simp (disch:=omega) [go_sem, *,zG])|(apply zB.out hK;clear hK K;try with_reducible dsimp only[zC]))
   rw[ho3.out]
   refine zf ?_
   try dsimp only[zC,zP]
   refine⟨by simp,_,(by first | rfl|(simp (disch:=omega) [go_sem,zG] <;> rfl)),?_⟩
   show ZD _ _ (AV.tup [acV 3 q (V.map dyA),iv .i64 0]) _ _
   refine ret_dy (by rw[zG _ _ _ _ (by omega)];exact q6.out) ?_
   refine zZ ⟨fun x hx=>?_,?_,rfl,by simp,by simp⟩
   ·rw[zG _ _ _ _ (by omega),zG _ _ _ _ (by omega)];exact q8.out x hx
   ·simp[below,belowL,QN]
  ·rintro h' n2 hf;exact hf.elim
 ·have hne:(Zc ls l lo hi != 0)=true:=by simpa using hc
  have ho:qW ls l lo hi=([],Zc ls l lo hi):=by unfold qW;rw[if_pos hc]
  rw[ho,show dyF []=.fslc true true 0 [] from rfl]
  generalize Zc ls l lo hi=e at *
  generalize List.map zg ls=LL at *
  generalize List.map ZH l=OO at *
  clear ho hc hsL hs hw hnl hnlL
  repeat' (first|(refine zD fun K hK=>?_)|(refine zA fun K hK=>?_;simp (disch:=omega) [go_sem, *,zG,Tryz.ntmps27])|(apply zB.out hK;clear hK K;try with_reducible dsimp only[zC])|(apply zB.out ht;clear ht hf Kt Kf)|(with_reducible refine zJ.gcall (k1) ?_;try simp (disch:=omega) [go_sem, *])|(refine zF fun Kt Kf ht hf=>?_;simp (disch:=omega) [go_sem, *];try (refine⟨fun hc=>?_,fun hc=>?_⟩ <;> try (exfalso;omega))))
  (refine zf ?_;try dsimp only[zC,zP];refine⟨by simp,_,(by first | rfl|(simp (disch:=omega) [go_sem,zG] <;> rfl)),?_⟩;refine zZ ⟨fun k hk=>(by first | rfl|(repeat rw[zG _ _ _ _ (by omega)])),(by simp[go_sem,below,belowL]),(by simp[go_sem] <;> omega),by simp,by simp⟩)
end Go.AM
