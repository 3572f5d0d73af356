/- The law WatchPlain, walked. Conditions: as each theorem says. -/
import Derived.Test.YtkbgmkhdjmkpdaaGreatDoorRq
namespace Go.AM
open Go.Proofs Cw Du
def prOk (p:Pr):Prop:=ZX p.1=true∧ZX p.2=true
theorem step_prOk (x:Lin) (hx:Zz x=true) (D:List Pr) (h:∀p ∈ D,prOk p):∀p ∈ Zy x D,prOk p:=by
 intro p hp
 unfold Zy at hp
 unfold Zz at hx
 by_cases h1:x.kind=1
 ·rw[if_pos h1] at hp hx
  simp only[Bool.and_eq_true] at hx
  split at hp
  ·exact h p hp
  ·rw[List.mem_append,List.mem_singleton] at hp
   rcases hp with hp | rfl
   ·exact h p hp
   ·exact⟨hx.1.1.1,hx.1.1.2⟩
 ·rw[if_neg h1] at hp hx
  by_cases h2:x.kind=2
  ·rw[if_pos h2] at hp;exact h p (List.mem_filter.1 hp).1
  ·rw[if_neg h2] at hp hx
   by_cases h3:x.kind=3
   ·rw[if_pos h3] at hp;exact h p (List.mem_filter.1 hp).1
   ·rw[if_neg h3] at hp hx
    by_cases h4:x.kind=4
    ·rw[if_pos h4] at hx
     simp only[Bool.and_eq_true] at hx
     obtain⟨q,hq,rfl⟩:=List.mem_map.1 hp
     have hq2:=h q hq
     unfold swP
     refine⟨hq2.1,?_⟩
     show ZX (if eqB q.2 x.person then x.other else if eqB q.2 x.other then x.person else q.2)=true
     split
     ·exact hx.1.1.2
     ·split
      ·exact hx.1.1.1.2
      ·exact hq2.2
    ·rw[if_neg h4] at hx;cases hx
theorem fold_prOk (d:Int):∀(ls:List Lin),(∀x ∈ ls,Zz x=true)→∀D:List Pr,(∀p ∈ D,prOk p)→∀p ∈ ls.foldl (JQ d) D,prOk p
 | [],_,_,h=>h
 | x :: r,hl,D,h=>by
  rw[List.foldl_cons]
  refine fold_prOk d r (fun y hy=>hl y (by simp[hy])) _ fun p hp=>?_
  unfold JQ at hp
  split at hp
  ·exact step_prOk x (hl x (by simp)) D h p hp
  ·exact h p hp
theorem duR_prOk (ls:List Lin) (h:ls.all Zz=true) (d:Int):∀p ∈ duR ls d,prOk p:=fun p hp=>by
 unfold duR at hp
 rw[(Za _).mem_iff] at hp
 exact fold_prOk d ls (fun x hx=>List.all_eq_true.1 h x hx) [] (fun p hp=>by simp at hp) p hp
theorem ascG_of:∀(E:List Int) (p:Int),Asc E→(∀x ∈ E,p < x∧0≤x∧x≤400)→ascG p E=true
 | [],_,_,_=>rfl
 | x :: r,p,hA,h=>by
  have hx:=h x (by simp)
  have hA2:=List.pairwise_cons.1 hA
  unfold ascG
  simp only[Bool.and_eq_true,decide_eq_true_eq,wi]
  exact⟨⟨⟨hx.2.1,hx.2.2⟩,hx.1⟩,ascG_of r x hA2.2 fun y hy=>⟨hA2.1 y hy,(h y (by simp[hy])).2⟩⟩
theorem mkLn_lineOk (p:Pr) (hp:prOk p) (fr to:Int) (E:List Int) (h0:0≤fr) (h1:fr≤to) (h2:to≤400) (hE:E.length≤20) (hA:Asc E) (hd:∀x ∈ E,0≤x∧x≤400):Zz (ZH p fr to E)=true:=by
 have hx:ascG (-1) E=true:=ascG_of E (-1) hA fun x hx=>⟨by have:=hd x hx;omega,hd x hx⟩
 unfold Zz ZH Jl Z6
 simp only[if_true,hp.1,hp.2,Bool.true_and,Bool.and_eq_true,decide_eq_true_eq,wi,hx,and_true]
 exact⟨by kernel_rfl,⟨⟨⟨h0,h1⟩,h2⟩,by omega⟩,hE⟩
theorem asc_dys_filter (k:Nat) (a:Int) (q:Int→Bool):Asc ((dys a k).filter q):=(dys_asc k a).sublist List.filter_sublist
theorem lnsP_lineOk (p:Pr) (hp:prOk p) (L:List Int) (hA:Asc L) (hne:L≠[]) (hd:∀d ∈ L,0≤d∧d≤400):∀x ∈ qP p L,Zz x=true:=by
 intro x hx
 obtain⟨a,r,rfl⟩:∃a r,L=a :: r:=by cases L with | nil=>exact absurd rfl hne | cons a r=>exact⟨a,r,rfl⟩
 obtain⟨e,he⟩:∃e,(a :: r).getLast? = some e:=by
  cases h:(a :: r).getLast? with
  | none=>rw[List.getLast?_eq_none_iff] at h;cases h
  | some e=>exact⟨e,rfl⟩
 have hae:=QG hA e (List.mem_of_getLast? he)
 have ha:=hd a (by simp)
 have hee:=hd e (List.mem_of_getLast? he)
 unfold qP at hx
 split at hx
 ·rename_i h20
  rw[List.mem_singleton] at hx;subst hx
  rw[he]
  refine mkLn_lineOk p hp a e _ ha.1 hae hee.2 h20 ?_ ?_
  ·unfold ZY;rw[he];exact asc_dys_filter _ _ _
  ·intro x hx
   unfold ZY at hx;rw[he] at hx
   have:=(jy _ _ _).1 (List.mem_filter.1 hx).1
   simp only[Option.getD_some] at this
   omega
 ·obtain⟨q,hq,rfl⟩:=List.mem_map.1 hx
  have hk:=(pcs_ok (a :: r)).le q hq
  have h1:=hd q.1 hk.2.1
  have h2:=hd q.2 hk.2.2
  exact mkLn_lineOk p hp q.1 q.2 [] h1.1 hk.1 h2.2 (by simp) List.Pairwise.nil fun x hx=>by simp at hx
theorem pln_lineOk (S:Int→List Pr) (lo:Int) (k:Nat) (hS:∀d,∀p ∈ S d,prOk p) (h0:0≤lo) (hh:lo + k≤401):(plnS S lo k).all Zz=true:=by
 rw[List.all_eq_true]
 intro x hx
 obtain⟨p,hp,hx⟩:=List.mem_flatMap.1 hx
 obtain⟨d,_,hd⟩:=(alP_mem S lo k p).1 hp
 refine lnsP_lineOk p (hS d p hd) _ (dyOf_asc S lo k p) (dyOf_ne S lo k p hp) (fun d hd=>?_) x hx
 have:=((qc S lo k p d).1 hd).1
 omega
theorem outP_zero {ls:List Lin} {l:List Ordr} {lo hi:Int} (h:(J2 ls l lo hi).2=0):jN ls l lo hi=0∧(plnS (duR ls) lo (hi + 1 - lo).toNat).length≤60∧(J2 ls l lo hi).1=plnS (duR ls) lo (hi + 1 - lo).toNat:=by
 unfold J2 at h ⊢
 by_cases hc:jN ls l lo hi=0
 ·rw[if_neg (by simpa using hc)] at h ⊢
  by_cases h6:60 < (plnS (duR ls) lo (hi + 1 - lo).toNat).length
  ·rw[if_pos h6] at h;cases h
  ·rw[if_neg h6];exact⟨hc,by omega,rfl⟩
 ·rw[if_pos hc] at h;exact absurd h hc
theorem chkW_lines {ls:List Lin} {l:List Ordr} (h:jj ls l=0):ls.all Zz=true:=by
 unfold jj at h
 split at h
 ·cases h
 ·split at h
  ·cases h
  ·split at h
   ·assumption
   ·cases h
theorem duR_sorted {ls:List Lin} {l:List Ordr} (h:jj ls l=0) (hs:smL ls) (d:Int):Ze (duR ls d):=
 jD (dayD_nodup ls (fun x hx=>((JE h hs).1 x hx).2.2) d)
theorem pln_chk {ls:List Lin} {l:List Ordr} {lo hi:Int} (h:jN ls l lo hi=0) (h6:(plnS (duR ls) lo (hi + 1 - lo).toNat).length≤60):jN (plnS (duR ls) lo (hi + 1 - lo).toNat) [] lo hi=0:=by
 obtain⟨hc,h1,h2,h3⟩:=QY h
 have ha:=pln_lineOk (duR ls) lo (hi + 1 - lo).toNat (duR_prOk ls (chkW_lines hc)) h1 (by omega)
 have hw:jj (plnS (duR ls) lo (hi + 1 - lo).toNat) []=0:=by
  unfold jj
  rw[if_neg (by omega),if_neg (by simp),if_pos ha];rfl
 unfold jN
 rw[if_neg (by simpa using hw),if_neg (by omega)]
theorem pln_again {ls:List Lin} {l:List Ordr} {lo hi:Int} (hs:smL ls) (h:(J2 ls l lo hi).2=0) :
  Jn ls l (J2 ls l lo hi).1 [] lo hi=(0,true,0)∧J2 (J2 ls l lo hi).1 [] lo hi=((J2 ls l lo hi).1,0):=by
 obtain⟨hc,h6,e⟩:=outP_zero h
 obtain⟨hw,h1,h2,h3⟩:=QY hc
 rw[e]
 have hp:=pln_chk hc h6
 have hd:∀d,lo≤d→d < lo + (hi + 1 - lo).toNat→duR (plnS (duR ls) lo (hi + 1 - lo).toNat) d=duR ls d:=fun d ha hb=>pln_day (duR ls) (duR_sorted hw hs) lo _ d ha hb
 refine⟨outS_none hw hp fun x hx hy=>(hd x hx (by omega)).symm,?_⟩
 have hx:=pln_ext _ _ lo (hi + 1 - lo).toNat hd
 unfold J2
 rw[if_neg (by simpa using hp),hx,if_neg (by omega)]
theorem core_on {x y:Lin} (h:JT x=JT y) (d:Int) (D:List Pr):JQ d D x=JQ d D y:=by
 obtain⟨k1,t1,p1,o1,a1,b1,e1,nl1,fu1,s1,x1⟩:=x
 obtain⟨k2,t2,p2,o2,a2,b2,e2,nl2,fu2,s2,x2⟩:=y
 simp only[JT,Prod.mk.injEq,List.cons.injEq,and_true] at h
 obtain⟨⟨rfl,rfl,rfl,rfl⟩,⟨ht,hp,ho⟩,rfl⟩:=h
 obtain rfl:=(ZM t1 t2).1 (by unfold eqB;simp[ht])
 obtain rfl:=(ZM p1 p2).1 (by unfold eqB;simp[hp])
 obtain rfl:=(ZM o1 o2).1 (by unfold eqB;simp[ho])
 rfl
theorem core_fold (d:Int):∀(V W:List Lin),V.map JT=W.map JT→∀D:List Pr,V.foldl (JQ d) D=W.foldl (JQ d) D
 | [],[],_,_=>rfl
 | [],_ :: _,h,_=>by cases h
 | _ :: _,[],h,_=>by cases h
 | x :: r,y :: s,h,D=>by
  rw[List.map_cons,List.map_cons,List.cons.injEq] at h
  rw[List.foldl_cons,List.foldl_cons,core_on h.1 d D]
  exact core_fold d r s h.2 _
theorem core_duR {V W:List Lin} (h:V.map JT=W.map JT) (d:Int):duR V d=duR W d:=by
 unfold duR dayD;rw[core_fold d V W h]
theorem same_iff {ls ms:List Lin} {l m:List Ordr} {lo hi:Int} (hs:smL ls) (hm:smL ms) (h:(J2 ls l lo hi).2=0) (h':(J2 ms m lo hi).2=0) :
  (Jn ls l ms m lo hi).2.2=0∧((Jn ls l ms m lo hi).2.1=decide ((J2 ls l lo hi).1.map JT=(J2 ms m lo hi).1.map JT))∧
  ((Jn ls l ms m lo hi).2.1=false→lo≤(Jn ls l ms m lo hi).1∧(Jn ls l ms m lo hi).1≤hi∧duR ls (Jn ls l ms m lo hi).1≠duR ms (Jn ls l ms m lo hi).1):=by
 obtain⟨hc,h6,e⟩:=outP_zero h
 obtain⟨hc',h6',e'⟩:=outP_zero h'
 obtain⟨hw,h1,h2,h3⟩:=QY hc
 obtain⟨hw',_,_,_⟩:=QY hc'
 have hd:∀d,lo≤d→d < lo + (hi + 1 - lo).toNat→duR (plnS (duR ls) lo (hi + 1 - lo).toNat) d=duR ls d:=fun d ha hb=>pln_day (duR ls) (duR_sorted hw hs) lo _ d ha hb
 have hd':∀d,lo≤d→d < lo + (hi + 1 - lo).toNat→duR (plnS (duR ms) lo (hi + 1 - lo).toNat) d=duR ms d:=fun d ha hb=>pln_day (duR ms) (duR_sorted hw' hm) lo _ d ha hb
 rw[e,e']
 unfold Jn
 rw[if_neg (by simpa using hw),if_neg (by simpa using hc')]
 cases hq:difD (duR ls) (duR ms) lo (hi + 1 - lo).toNat with
 | none=>
  refine⟨rfl,?_,fun h=>by cases h⟩
  have:=pln_ext _ _ lo _ (difD_no _ _ _ lo hq)
  simp[this]
 | some d=>
  obtain⟨a1,a2,_,a4⟩:=difD_some _ _ _ lo d hq
  refine⟨rfl,?_,fun _=>⟨a1,by simp only;omega,a4⟩⟩
  refine Eq.symm (decide_eq_false fun ec=>a4 ?_)
  rw[←hd d a1 a2,←hd' d a1 a2]
  exact core_duR ec d
end Go.AM
namespace Go.AM
open Go.Proofs Cw Du Go.RowKit
set_option maxRecDepth 10000
set_option maxHeartbeats 4000000
theorem nameOk_size {s:ByteArray} (h:ZX s=true):s.size≤1000000:=by
 unfold ZX at h
 simp only[Bool.and_eq_true,decide_eq_true_eq] at h
 omega
theorem pln_smL {S:Int→List Pr} {lo:Int} {k:Nat} (hS:∀d,∀p ∈ S d,prOk p):smL (plnS S lo k):=by
 intro x hx
 obtain⟨p,hp,hx⟩:=List.mem_flatMap.1 hx
 obtain⟨d,_,hd⟩:=(alP_mem S lo k p).1 hp
 have hq:=hS d p hd
 have h1:=nameOk_size hq.1
 have h2:=nameOk_size hq.2
 unfold qP at hx
 split at hx
 ·rename_i h20
  rw[List.mem_singleton] at hx;subst hx
  exact⟨mkLn_ok _ _ _ _,by show (ZY _).length≤_;omega,h1,h2,by show ByteArray.empty.size≤_;simp⟩
 ·obtain⟨q,_,rfl⟩:=List.mem_map.1 hx
  exact⟨mkLn_ok _ _ _ _,by show ([]:List Int).length≤_;simp,h1,h2,by show ByteArray.empty.size≤_;simp⟩
theorem outP_smL {ls:List Lin} {l:List Ordr} {lo hi:Int} (h:(J2 ls l lo hi).2=0):smL (J2 ls l lo hi).1:=by
 obtain⟨hc,_,e⟩:=outP_zero h
 rw[e]
 exact pln_smL (duR_prOk ls (chkW_lines (QY hc).1))
theorem outDu_ok {ls:List Lin} {l:List Ordr} {lo hi d:Int} (h:(J2 ls l lo hi).2=0) (h1:lo≤d) (h2:d≤hi):outDu ls l d=(duR ls d,0):=by
 obtain⟨hc,_,_⟩:=outP_zero h
 obtain⟨hw,a1,a2,a3⟩:=QY hc
 unfold outDu
 rw[if_neg (by simpa using hw),if_pos (by omega)];rfl
theorem WatchPlain_spec (nlL nl:Bool) (ls:List Lin) (l:List Ordr) (hnlL:ls=[]∨nlL=false∧8=8) (hL:∀x ∈ ls,j9 x∧x.exc.length≤9223372036854775807) (hlL:ls.length≤9223372036854775807) (hnl:l=[]∨nl=false∧7=7) (hw:wfO l) (hl:l.length≤9223372036854775807)
  (nlM nk:Bool) (ms:List Lin) (m:List Ordr) (hnlM:ms=[]∨nlM=false∧8=8) (hM:∀x ∈ ms,j9 x∧x.exc.length≤9223372036854775807) (hlM:ms.length≤9223372036854775807) (hnk:m=[]∨nk=false∧7=7) (hwm:wfO m) (hm:m.length≤9223372036854775807) (lo hi:Int) :
  zL Tryz.prog 6 [.agg [.fslc nlL false 8 (ls.map zT),.fslc nl false 7 (l.map ZB)],.agg [.fslc nlM false 8 (ms.map zT),.fslc nk false 7 (m.map ZB)],.agg [iv .i64 lo,iv .i64 hi]] (bv true):=by
 intro h n
 have k0:=few_spec nlL false 8 ls hnlL hL hlL nl false 7 l hnl hw hl
 have k8:=few_spec nlM false 8 ms hnlM hM hlM nk false 7 m hnk hwm hm
 have k9:=Go.Proofs.SAN.sanity_ok
 refine zS.pure (zS.entry (by kernel_rfl) fun hb _=>zX Tryz.func6 rfl (by kernel_rfl) (by simp[Tryz.ntmps6]) ?_)
 cases hf:fewW ls l with
 | false=>
  rw[hf] at k0
  generalize List.map zT ls=LL at *
  generalize List.map ZB l=OO at *
  generalize List.map zT ms=MM at *
  generalize List.map ZB m=QQ at *
  clear hf hnlL hL hlL hnl hw hl hnlM hM hlM hnk hwm hm k8
  repeat' (first|(refine zF fun K hK=>?_)|(refine zB fun K hK=>?_;simp (disch:=omega) [go_sem, *,zG,Tryz.ntmps6])|(apply zC.out hK;clear hK K;try with_reducible dsimp only[zD])|(apply zC.out ht;clear ht hf Kt Kf)|(with_reducible refine zL.gcall (k0) ?_;try simp (disch:=omega) [go_sem, *])|(with_reducible refine zL.gcall (k9) ?_;try simp (disch:=omega) [go_sem, *])|(refine zH fun Kt Kf ht hf=>?_;simp (disch:=omega) [go_sem, *];try (refine⟨fun hc=>?_,fun hc=>?_⟩ <;> try (exfalso;omega))))
  (refine zg ?_;try dsimp only[zD,zO];refine⟨by simp,_,(by first | rfl|(simp (disch:=omega) [go_sem,zG] <;> rfl)),?_⟩;refine zc ⟨fun k hk=>(by first | rfl|(repeat rw[zG _ _ _ _ (by omega)])),(by simp[go_sem,below]),(by simp[go_sem] <;> omega),by simp,by simp⟩)
 | true=>
  rw[hf] at k0
  cases hg:fewW ms m with
  | false=>
   rw[hg] at k8
   generalize List.map zT ls=LL at *
   generalize List.map ZB l=OO at *
   generalize List.map zT ms=MM at *
   generalize List.map ZB m=QQ at *
   clear hf hg hnlL hL hlL hnl hw hl hnlM hM hlM hnk hwm hm
   repeat' (first|(refine zF fun K hK=>?_)|(refine zB fun K hK=>?_;simp (disch:=omega) [go_sem, *,zG,Tryz.ntmps6])|(apply zC.out hK;clear hK K;try with_reducible dsimp only[zD])|(apply zC.out ht;clear ht hf Kt Kf)|(with_reducible refine zL.gcall (k0) ?_;try simp (disch:=omega) [go_sem, *,zG])|(with_reducible refine zL.gcall (k8) ?_;try simp (disch:=omega) [go_sem, *])|(with_reducible refine zL.gcall (k9) ?_;try simp (disch:=omega) [go_sem, *])|(refine zH fun Kt Kf ht hf=>?_;simp (disch:=omega) [go_sem, *];try (refine⟨fun hc=>?_,fun hc=>?_⟩ <;> try (exfalso;omega))))
   (refine zg ?_;try dsimp only[zD,zO];refine⟨by simp,_,(by first | rfl|(simp (disch:=omega) [go_sem,zG] <;> rfl)),?_⟩;refine zc ⟨fun k hk=>(by first | rfl|(repeat rw[zG _ _ _ _ (by omega)])),(by simp[go_sem,below]),(by simp[go_sem] <;> omega),by simp,by simp⟩)
  | true=>
   rw[hg] at k8
   obtain⟨g1,g2,g3,g4⟩:=fewW_sm hf hL hw
   obtain⟨m1,m2,m3,m4⟩:=fewW_sm hg hM hwm
   have k1:=Plain_spec nlL false 8 ls hnlL g1 g3 nl false 7 l hnl hw g2 g4 lo hi
   by_cases he:(J2 ls l lo hi).2=0
   ·have ha:=pln_again g1 he
    have hsV:=outP_smL he
    obtain⟨p1,p2⟩:=outP_ok ls l lo hi
    have s1:=sameW_spec (J2 ls l lo hi).1 (J2 ls l lo hi).1 (by omega) (by omega) p1 p1
    rw[decide_eq_true rfl] at s1
    have k3:=fun nlV sV hv=>SameDays_spec nlL false 8 ls hnlL g1 g3 nl false 7 l hnl hw g2 g4 nlV nlV sV (J2 ls l lo hi).1 hv hsV (by omega) true true 0 [] (.inl rfl) (fun x hx=>by simp at hx) (fun x hx=>by simp at hx) (by simp) lo hi
    have k4:=fun nlV sV hv=>Plain_spec nlV nlV sV (J2 ls l lo hi).1 hv hsV (by omega) true true 0 [] (.inl rfl) (fun x hx=>by simp at hx) (fun x hx=>by simp at hx) (by simp) lo hi
    simp only[ha.1,ha.2,List.map_nil] at k3 k4
    have k5:=Plain_spec nlM false 8 ms hnlM m1 m3 nk false 7 m hnk hwm m2 m4 lo hi
    rw[he] at k1
    obtain⟨a1,a2,q1,hv⟩:=lnF_is (J2 ls l lo hi).1
    have k3:=k3 a1 a2 hv
    have k4:=k4 a1 a2 hv
    by_cases he2:(J2 ms m lo hi).2=0
    ·rw[he2] at k5
     have k6:=SameDays_spec nlL false 8 ls hnlL g1 g3 nl false 7 l hnl hw g2 g4 nlM false 8 ms hnlM m1 m3 nk false 7 m hnk hwm m2 m4 lo hi
     obtain⟨w1,w2⟩:=outP_ok ms m lo hi
     have s2:=sameW_spec (J2 ls l lo hi).1 (J2 ms m lo hi).1 (by omega) (by omega) p1 w1
     obtain⟨z1,z2,z3⟩:=same_iff g1 m1 he he2
     rw[←z2] at s2
     rw[z1] at k6
     have kx:=fun d=>Duties_spec nlL false 8 ls hnlL g1 g3 nl false 7 l hnl hw g2 g4 d
     have ky:=fun d=>Duties_spec nlM false 8 ms hnlM m1 m3 nk false 7 m hnk hwm m2 m4 d
     have ex:=fun d (h1:lo≤d) (h2:d≤hi)=>outDu_ok (d:=d) he h1 h2
     have ey:=fun d (h1:lo≤d) (h2:d≤hi)=>outDu_ok (d:=d) he2 h1 h2
     have hz1:=(JE (QY (outP_zero he).1).1 g1).2.1
     have hz2:=(JE (QY (outP_zero he2).1).1 m1).2.1
     have hdl:=fun d=>jz ls d
     have hdm:=fun d=>jz ms d
     obtain⟨b1,b2,q2,_⟩:=lnF_is (J2 ms m lo hi).1
     rw[q1] at k1 k4 s1 s2
     rw[q2] at k5 s2
     generalize List.map zT (J2 ls l lo hi).1=PP at *
     generalize List.map zT (J2 ms m lo hi).1=PQ at *
     generalize (Jn ls l ms m lo hi).1=day at *
     cases hr:(Jn ls l ms m lo hi).2.1 with
     | true=>
      rw[hr] at k6 s2
      generalize List.map zT ls=LL at *
      generalize List.map ZB l=OO at *
      generalize List.map zT ms=MM at *
      generalize List.map ZB m=QQ at *
      clear hf hg hnlL hL hlL hnl hw hl hnlM hM hlM hnk hwm hm g1 g2 g3 g4 m1 m2 m3 m4 p1 p2 q1 w1 w2 q2 z1 z2 z3 kx ky ex ey ha hsV he he2 hv hr hz1 hz2 hdl hdm
      repeat' (first|(refine zF fun K hK=>?_)|(refine zB fun K hK=>?_;simp (disch:=omega) [go_sem, *,zG,Tryz.ntmps6])|(apply zC.out hK;clear hK K;try with_reducible dsimp only[zD])|(apply zC.out ht;clear ht hf Kt Kf)|(apply zC.out hf;clear ht hf Kt Kf)|(with_reducible refine zL.gcall (k0) ?_;try simp (disch:=omega) [go_sem, *,zG])|(with_reducible refine zL.gcall (k8) ?_;try simp (disch:=omega) [go_sem, *])|(with_reducible refine zL.gcall (k9) ?_;try simp (disch:=omega) [go_sem, *])|(with_reducible refine zL.gcall (k1) ?_;try simp (disch:=omega) [go_sem, *])|(with_reducible refine zL.gcall (k3) ?_;try simp (disch:=omega) [go_sem, *])|(with_reducible refine zL.gcall (k4) ?_;try simp (disch:=omega) [go_sem, *])|(with_reducible refine zL.gcall (k5) ?_;try simp (disch:=omega) [go_sem, *])|(with_reducible refine zL.gcall (k6) ?_;try simp (disch:=omega) [go_sem, *])|(with_reducible refine zL.gcall (s1) ?_;try simp (disch:=omega) [go_sem, *,zG])|(with_reducible refine zL.gcall (s2) ?_;try simp (disch:=omega) [go_sem, *])|(refine zK ?_;simp only[zD])|(refine zH fun Kt Kf ht hf=>?_;simp (disch:=omega) [go_sem, *];try (refine⟨fun hc=>?_,fun hc=>?_⟩ <;> try (exfalso;omega))))
      (refine zg ?_;try dsimp only[zD,zO];refine⟨by simp,_,(by first | rfl|(simp (disch:=omega) [go_sem,zG] <;> rfl)),?_⟩;refine zc ⟨fun k hk=>(by first | rfl|(repeat rw[zG _ _ _ _ (by omega)])),(by simp[go_sem,below]),(by simp[go_sem] <;> omega),by simp,by simp⟩)
     | false=>
      rw[hr] at k6 s2
      obtain⟨d1,d2,d3⟩:=z3 hr
      have kx:=kx day
      have ky:=ky day
      rw[ex day d1 d2] at kx
      rw[ey day d1 d2] at ky
      have s3:=sameD2_spec day (duR ls day) (duR ms day) (by have:=hdl day;omega) (by have:=hdm day;omega)
      rw[decide_eq_false d3] at s3
      generalize duR ls day=DA at *
      generalize duR ms day=DB at *
      obtain⟨u1,u2,v1,_⟩:=JU day DA
      obtain⟨u3,u4,v2,_⟩:=JU day DB
      rw[v1] at kx s3
      rw[v2] at ky s3
      generalize List.map (zY day) DA=DA2 at *
      generalize List.map (zY day) DB=DB2 at *
      generalize List.map zT ls=LL at *
      generalize List.map ZB l=OO at *
      generalize List.map zT ms=MM at *
      generalize List.map ZB m=QQ at *
      clear hf hg hnlL hL hlL hnl hw hl hnlM hM hlM hnk hwm hm g1 g2 g3 g4 m1 m2 m3 m4 p1 p2 q1 w1 w2 q2 z1 z2 z3 ex ey ha hsV he he2 hv hr hz1 hz2 hdl hdm d3 v1 v2
      repeat' (first|(refine zF fun K hK=>?_)|(refine zB fun K hK=>?_;simp (disch:=omega) [go_sem, *,zG,Tryz.ntmps6])|(apply zC.out hK;clear hK K;try with_reducible dsimp only[zD])|(apply zC.out hf;clear ht hf Kt Kf)|(with_reducible refine zL.gcall (k0) ?_;try simp (disch:=omega) [go_sem, *,zG])|(with_reducible refine zL.gcall (k8) ?_;try simp (disch:=omega) [go_sem, *])|(with_reducible refine zL.gcall (k9) ?_;try simp (disch:=omega) [go_sem, *])|(with_reducible refine zL.gcall (k1) ?_;try simp (disch:=omega) [go_sem, *])|(with_reducible refine zL.gcall (k3) ?_;try simp (disch:=omega) [go_sem, *])|(with_reducible refine zL.gcall (k4) ?_;try simp (disch:=omega) [go_sem, *])|(with_reducible refine zL.gcall (k5) ?_;try simp (disch:=omega) [go_sem, *])|(with_reducible refine zL.gcall (k6) ?_;try simp (disch:=omega) [go_sem, *])|(with_reducible refine zL.gcall (s1) ?_;try simp (disch:=omega) [go_sem, *,zG])|(with_reducible refine zL.gcall (s2) ?_;try simp (disch:=omega) [go_sem, *])|(with_reducible refine zL.gcall (kx) ?_;try simp (disch:=omega) [go_sem, *])|(with_reducible refine zL.gcall (ky) ?_;try simp (disch:=omega) [go_sem, *])|(with_reducible refine zL.gcall (s3) ?_;try simp (disch:=omega) [go_sem, *,zG])|(refine zK ?_;simp only[zD])|(refine zH fun Kt Kf ht hf=>?_;simp (disch:=omega) [go_sem, *];try (refine⟨fun hc=>?_,fun hc=>?_⟩ <;> try (exfalso;omega))))
      (refine zg ?_;try dsimp only[zD,zO];refine⟨by simp,_,(by first | rfl|(simp (disch:=omega) [go_sem,zG] <;> rfl)),?_⟩;refine zc ⟨fun k hk=>(by first | rfl|(repeat rw[zG _ _ _ _ (by omega)])),(by simp[go_sem,below]),(by simp[go_sem] <;> omega),by simp,by simp⟩)
    ·have hne:((J2 ms m lo hi).2 != 0)=true:=by simpa using he2
     obtain⟨b1,b2,q2,_⟩:=lnF_is (J2 ms m lo hi).1
     have k6:=SameDays_spec nlL false 8 ls hnlL g1 g3 nl false 7 l hnl hw g2 g4 nlM false 8 ms hnlM m1 m3 nk false 7 m hnk hwm m2 m4 lo hi
     rw[q1] at k1 k4 s1
     rw[q2] at k5
     generalize List.map zT (J2 ls l lo hi).1=PP at *
     generalize List.map zT (J2 ms m lo hi).1=PQ at *
     generalize (J2 ms m lo hi).2=e2 at *
     generalize (Jn ls l ms m lo hi).2.2=e3 at *
     generalize (Jn ls l ms m lo hi).2.1=e4 at *
     generalize (Jn ls l ms m lo hi).1=e5 at *
     generalize List.map zT ls=LL at *
     generalize List.map ZB l=OO at *
     generalize List.map zT ms=MM at *
     generalize List.map ZB m=QQ at *
     clear hf hg hnlL hL hlL hnl hw hl hnlM hM hlM hnk hwm hm g1 g2 g3 g4 m1 m2 m3 m4 p1 p2 q1 q2 ha hsV he hv
     repeat' (first|(refine zF fun K hK=>?_)|(refine zB fun K hK=>?_;simp (disch:=omega) [go_sem, *,zG,Tryz.ntmps6])|(apply zC.out hK;clear hK K;try with_reducible dsimp only[zD])|(apply zC.out ht;clear ht hf Kt Kf)|(apply zC.out hf;clear ht hf Kt Kf)|(with_reducible refine zL.gcall (k0) ?_;try simp (disch:=omega) [go_sem, *,zG])|(with_reducible refine zL.gcall (k8) ?_;try simp (disch:=omega) [go_sem, *])|(with_reducible refine zL.gcall (k9) ?_;try simp (disch:=omega) [go_sem, *])|(with_reducible refine zL.gcall (k1) ?_;try simp (disch:=omega) [go_sem, *])|(with_reducible refine zL.gcall (k3) ?_;try simp (disch:=omega) [go_sem, *])|(with_reducible refine zL.gcall (k4) ?_;try simp (disch:=omega) [go_sem, *])|(with_reducible refine zL.gcall (k5) ?_;try simp (disch:=omega) [go_sem, *])|(with_reducible refine zL.gcall (k6) ?_;try simp (disch:=omega) [go_sem, *])|(with_reducible refine zL.gcall (s1) ?_;try simp (disch:=omega) [go_sem, *,zG])|(refine zK ?_;simp only[zD])|(refine zH fun Kt Kf ht hf=>?_;simp (disch:=omega) [go_sem, *];try (refine⟨fun hc=>?_,fun hc=>?_⟩ <;> try (exfalso;omega))))
     (refine zg ?_;try dsimp only[zD,zO];refine⟨by simp,_,(by first | rfl|(simp (disch:=omega) [go_sem,zG] <;> rfl)),?_⟩;refine zc ⟨fun k hk=>(by first | rfl|(repeat rw[zG _ _ _ _ (by omega)])),(by simp[go_sem,below]),(by simp[go_sem] <;> omega),by simp,by simp⟩)
   ·have hne:((J2 ls l lo hi).2 != 0)=true:=by simpa using he
    obtain⟨a1,a2,q1,hv⟩:=lnF_is (J2 ls l lo hi).1
    rw[q1] at k1
    generalize List.map zT (J2 ls l lo hi).1=PP at *
    generalize (J2 ls l lo hi).2=e1 at *
    generalize List.map zT ls=LL at *
    generalize List.map ZB l=OO at *
    generalize List.map zT ms=MM at *
    generalize List.map ZB m=QQ at *
    clear hf hg hnlL hL hlL hnl hw hl hnlM hM hlM hnk hwm hm g1 g2 g3 g4 m1 m2 m3 m4 q1 hv
    repeat' (first|(refine zF fun K hK=>?_)|(refine zB fun K hK=>?_;simp (disch:=omega) [go_sem, *,zG,Tryz.ntmps6])|(apply zC.out hK;clear hK K;try with_reducible dsimp only[zD])|(apply zC.out ht;clear ht hf Kt Kf)|(apply zC.out hf;clear ht hf Kt Kf)|(with_reducible refine zL.gcall (k0) ?_;try simp (disch:=omega) [go_sem, *,zG])|(with_reducible refine zL.gcall (k8) ?_;try simp (disch:=omega) [go_sem, *])|(with_reducible refine zL.gcall (k9) ?_;try simp (disch:=omega) [go_sem, *])|(with_reducible refine zL.gcall (k1) ?_;try simp (disch:=omega) [go_sem, *])|(refine zK ?_;simp only[zD])|(refine zH fun Kt Kf ht hf=>?_;simp (disch:=omega) [go_sem, *];try (refine⟨fun hc=>?_,fun hc=>?_⟩ <;> try (exfalso;omega))))
    (refine zg ?_;try dsimp only[zD,zO];refine⟨by simp,_,(by first | rfl|(simp (disch:=omega) [go_sem,zG] <;> rfl)),?_⟩;refine zc ⟨fun k hk=>(by first | rfl|(repeat rw[zG _ _ _ _ (by omega)])),(by simp[go_sem,below]),(by simp[go_sem] <;> omega),by simp,by simp⟩)
end Go.AM
