/- Rosters, plainly: what a plain watch means; the duties of a day. Conditions: as each says. -/
import Derived.Test.YtkbgmkhdjmkpdaaGreatDoorRd
import Derived.Test.YtkbgmkhdjmkpdaaGreatDoorFx
import Derived.Test.YtkbgmkhdjmkpdaaGreatDoorSe
namespace Du
theorem lnsP_kind (p:Pr) (L:List Int):∀x ∈ qP p L,x.kind=1∧(x.tower,x.person)=p:=by
 intro x hx
 unfold qP at hx
 split at hx
 ·rw[List.mem_singleton] at hx;subst hx;exact⟨rfl,rfl⟩
 ·obtain⟨q,_,rfl⟩:=List.mem_map.1 hx;exact⟨rfl,rfl⟩
theorem foldl_watch (d:Int) (p:Pr):∀(ls:List Lin),(∀x ∈ ls,x.kind=1)→∀D:List Pr,p ∈ ls.foldl (JQ d) D↔p ∈ D∨∃x ∈ ls,onL x d=true∧(x.tower,x.person)=p
 | [],_,D=>by simp
 | x :: r,h,D=>by
  rw[List.foldl_cons,foldl_watch d p r (fun y hy=>h y (by simp[hy]))]
  have hx:=h x (by simp)
  have hs:p ∈ JQ d D x↔p ∈ D∨(onL x d=true∧(x.tower,x.person)=p):=by
   unfold JQ
   cases ho:onL x d with
   | false=>simp
   | true=>
    simp only[if_true,true_and]
    unfold Zy
    rw[if_pos hx]
    split
    ·rename_i hm
     rw[Zi] at hm
     exact⟨.inl,fun h=>h.elim id fun e=>e ▸ hm⟩
    ·rw[List.mem_append,List.mem_singleton]
     exact⟨fun h=>h.elim .inl fun e=>.inr e.symm,fun h=>h.elim .inl fun e=>.inr e.symm⟩
  rw[hs]
  simp only[List.mem_cons,exists_eq_or_imp]
  exact⟨fun h=>h.elim (fun h=>h.elim .inl fun h=>.inr (.inl h)) fun h=>.inr (.inr h),fun h=>h.elim (fun h=>.inl (.inl h)) fun h=>h.elim (fun h=>.inl (.inr h)) .inr⟩
theorem plnS_kind (S:Int→List Pr) (lo:Int) (k:Nat):∀x ∈ plnS S lo k,x.kind=1:=by
 intro x hx
 obtain⟨p,_,hx⟩:=List.mem_flatMap.1 hx
 exact (lnsP_kind p _ x hx).1
theorem pln_day (S:Int→List Pr) (hS:∀d,Ze (S d)) (lo:Int) (k:Nat) (d:Int) (h1:lo≤d) (h2:d < lo + k):duR (plnS S lo k) d=S d:=by
 have hk:=plnS_kind S lo k
 have hn:(dayD (plnS S lo k) d).Nodup:=dayD_nodup _ (fun x hx=>.inl (hk x hx)) d
 refine J4 _ _ (jD hn) (hS d) fun p=>?_
 unfold duR
 rw[(Za _).mem_iff]
 unfold dayD
 rw[foldl_watch d p _ hk]
 constructor
 ·rintro (h | ⟨x,hx,ho,e⟩)
  ·simp at h
  ·obtain⟨q,hq,hx⟩:=List.mem_flatMap.1 hx
   have hq2:=(lnsP_kind q _ x hx).2
   rw[hq2] at e
   subst e
   have:=(lnsP_on q _ (dyOf_asc S lo k q) (dyOf_ne S lo k q hq) d).1 ⟨x,hx,ho⟩
   exact ((qc S lo k q d).1 this).2
 ·intro hp
  have hq:p ∈ alP S lo k:=(alP_mem S lo k p).2 ⟨d,(jy k lo d).2 ⟨h1,h2⟩,hp⟩
  obtain⟨x,hx,ho⟩:=(lnsP_on p _ (dyOf_asc S lo k p) (dyOf_ne S lo k p hq) d).2 ((qc S lo k p d).2 ⟨⟨h1,h2⟩,hp⟩)
  exact .inr ⟨x,List.mem_flatMap.2 ⟨p,hq,hx⟩,ho,(lnsP_kind p _ x hx).2⟩
theorem foldl_congr' {α β:Type} {f g:β→α→β}:∀(L:List α) (A:β),(∀x ∈ L,∀B,f B x=g B x)→L.foldl f A=L.foldl g A
 | [],_,_=>rfl
 | x :: r,A,h=>by rw[List.foldl_cons,List.foldl_cons,h x (by simp),foldl_congr' r _ fun y hy=>h y (by simp[hy])]
theorem pln_ext (S T:Int→List Pr) (lo:Int) (k:Nat) (h:∀d,lo≤d→d < lo + k→S d=T d):plnS S lo k=plnS T lo k:=by
 have hm:∀d ∈ dys lo k,S d=T d:=fun d hd=>by rw[jy] at hd;exact h d hd.1 hd.2
 have e1:alP S lo k=alP T lo k:=foldl_congr' _ _ fun d hd B=>by rw[hm d hd]
 have e2:Zf S lo k=Zf T lo k:=by
  funext p
  exact List.filter_congr fun d hd=>by rw[hm d hd]
 unfold plnS;rw[e1,e2]
theorem difD_some (S T:Int→List Pr):∀(k:Nat) (lo d:Int),difD S T lo k=some d→lo≤d∧d < lo + k∧(∀x,lo≤x→x < d→S x=T x)∧S d≠T d
 | 0,_,_,h=>by cases h
 | k + 1,lo,d,h=>by
  rw[difD] at h
  split at h
  ·rename_i e
   obtain⟨a,b,c,f⟩:=difD_some S T k (lo + 1) d h
   refine⟨by omega,by omega,fun x h1 h2=>?_,f⟩
   by_cases e2:x=lo
   ·subst e2;exact e
   ·exact c x (by omega) h2
  ·rename_i e
   cases h
   exact⟨by omega,by omega,fun x h1 h2=>by omega,e⟩
theorem difD_no (S T:Int→List Pr):∀(k:Nat) (lo:Int),difD S T lo k=none→∀x,lo≤x→x < lo + k→S x=T x
 | 0,_,_,x,h1,h2=>by omega
 | k + 1,lo,h,x,h1,h2=>by
  rw[difD] at h
  split at h
  ·rename_i e
   by_cases e2:x=lo
   ·subst e2;exact e
   ·exact difD_no S T k (lo + 1) h x (by omega) (by omega)
  ·cases h
end Du
namespace Go.AM
open Go.Proofs Cw Du
set_option maxRecDepth 10000
set_option maxHeartbeats 4000000
theorem mkLn_ok (p:Pr) (fr to:Int) (E:List Int):j9 (ZH p fr to E):=by
 unfold j9 ZH
 by_cases h:E=[]
 ·exact .inl h
 ·exact .inr ⟨by simp[h],by simp[h]⟩
theorem lnsP_ok (p:Pr) (L:List Int):∀x ∈ qP p L,j9 x∧x.exc.length≤1000000:=by
 intro x hx
 unfold qP at hx
 split at hx
 ·rename_i h
  rw[List.mem_singleton] at hx;subst hx
  exact⟨mkLn_ok _ _ _ _,by show (ZY L).length≤_;omega⟩
 ·obtain⟨q,_,rfl⟩:=List.mem_map.1 hx
  exact⟨mkLn_ok _ _ _ _,by show ([]:List Int).length≤_;simp⟩
theorem plnA_ok (S:Int→List Pr) (lo:Int) (k:Nat) (A:List Pr):∀x ∈ plnA S lo k A,j9 x∧x.exc.length≤1000000:=by
 intro x hx
 unfold plnA at hx
 obtain⟨p,_,h⟩:=List.mem_flatMap.1 hx
 exact lnsP_ok _ _ x h
theorem outP_ok (ls:List Lin) (l:List Ordr) (lo hi:Int):(∀x ∈ (J2 ls l lo hi).1,j9 x∧x.exc.length≤1000000)∧(J2 ls l lo hi).1.length≤60:=by
 unfold J2
 split
 ·exact⟨fun x hx=>absurd hx (by simp),by simp⟩
 ·split
  ·exact⟨fun x hx=>absurd hx (by simp),by simp⟩
  ·exact⟨plnA_ok _ _ _ _,by simp only;omega⟩
def outDu (ls:List Lin) (l:List Ordr) (d:Int):List Pr × Int:=if jj ls l≠0 then ([],jj ls l) else if 0≤d∧d≤400 then (ZC (dayD ls d),0) else ([],1)
theorem Duties_spec (nlL fuL:Bool) (sL:Nat) (ls:List Lin) (hnlL:ls=[]∨nlL=false∧sL=8) (hsL:smL ls) (hlL:ls.length≤1000000) (nl fu:Bool) (s:Nat) (l:List Ordr) (hnl:l=[]∨nl=false∧s=7) (hw:wfO l) (hs:smO l) (hl:l.length≤1000000) (d:Int) :
  zL Tryz.prog 10 [.agg [.fslc nlL fuL sL (ls.map zT),.fslc nl fu s (l.map ZB)],iv .i64 d] (.tup [ZW d (outDu ls l d).1,iv .i64 (outDu ls l d).2]):=by
 intro h n
 have k1:=check_spec nlL fuL sL ls hnlL hsL hlL nl fu s l hnl hw hs hl
 have k2:=Zr d 0 400
 refine zS.pure (zS.entry (by kernel_rfl) fun hb _=>zX Tryz.func10 rfl (by kernel_rfl) (by simp[Tryz.ntmps10]) ?_)
 by_cases hc:jj ls l=0
 ·by_cases hd:0≤d∧d≤400
  ·have hwd:wi d 0 400=true:=by simp[wi,hd]
   rw[hwd] at k2
   rw[hc] at k1
   have hz:=JE hc hsL
   have k3:=fun H N=>found_spec nlL fuL sL ls hnlL hlL hz.1 nl fu s (l.map ZB) d hd.1 hd.2 H N
   have ho:outDu ls l d=(ZC (dayD ls d),0):=by unfold outDu;rw[if_neg (by simpa using hc),if_pos hd]
   rw[ho]
   generalize ZC (dayD ls d)=S at *
   generalize List.map zT ls=LL at *
   generalize List.map ZB l=OO at *
   replace k3:zC _:=k3
   clear hz ho hwd hd hc hsL hs hw hnl hnlL
   repeat' (first|(refine zF fun K hK=>?_)|(refine zB fun K hK=>?_;simp (disch:=omega) [go_sem, *,Tryz.ntmps10])|(apply zC.out hK;clear hK K;try with_reducible dsimp only[zD])|(apply zC.out hf;clear ht hf Kt Kf)|(with_reducible refine zL.gcall (k1) ?_;try simp (disch:=omega) [go_sem, *])|(with_reducible refine zL.gcall (k2) ?_;try simp (disch:=omega) [go_sem, *])|(refine zK ?_;simp only[zD])|(refine zH fun Kt Kf ht hf=>?_;simp (disch:=omega) [go_sem, *];try (refine⟨fun hc=>?_,fun hc=>?_⟩ <;> try (exfalso;omega))))
   refine .inl ((k3.out _ _).mono fun r h3 n3 hp=>?_)
   obtain⟨m,hm1,hm2,rfl,hm3,hx3⟩:=hp
   have hx4:∀x,x < n→h3 x=h x:=fun x hx=>by rw[hx3 x (by omega)];simp (disch:=omega) only[zG]
   replace hx4:zC _:=hx4
   clear hx3
   by_cases hS:S=[]
   ·subst hS
    simp only[List.map_nil,jx]
    simp (disch:=omega) [go_sem]
    repeat' (first|(apply zC.out hK;clear hK K;try with_reducible dsimp only[zD]))
    refine zg ?_
    try dsimp only[zD,zO]
    refine⟨by simp,_,(by first | rfl|(simp (disch:=omega) [go_sem,zG] <;> rfl)),?_⟩
    show ZI _ _ (AV.tup [.fslc true true 0 [],iv .i64 0]) _ _
    exact zc ⟨hx4.out,by simp[below,belowL],by simp[ZW],rfl,rfl⟩
   ·have hS1:S.map (zY d)≠[]:=by simpa using hS
    have ev:acV 3 m (S.map (zY d))=.slc m 0 S.length 3:=by rw[ZP hS1,List.length_map]
    have hm4:h3 m=some (.cells (flat (S.map (zY d)))):=by rw[hm3,Z2 hS1]
    rw[ev]
    clear hm3 ev
    replace hm4:zC _:=hm4
    simp (disch:=omega) [go_sem]
    repeat' (first|(apply zC.out hK;clear hK K;try with_reducible dsimp only[zD]))
    refine zg ?_
    try dsimp only[zD,zO]
    refine⟨by simp,_,(by first | rfl|(simp (disch:=omega) [go_sem,zG] <;> rfl)),?_⟩
    show ZI _ _ (AV.tup [.slc m 0 S.length 3,iv .i64 0]) _ _
    refine ret_fzD true hm4.out ?_
    have hfl:(flat (S.map (zY d))).length=S.length * 3:=by
     have:=Jw (s:=3) (L:=S.map (zY d)) (fun y hy=>by obtain⟨o,_,rfl⟩:=List.mem_map.1 hy;exact duty_len d o)
     rw[this,List.length_map]
    have ef:fzD m (flat (S.map (zY d))) true (.tup [.slc m 0 S.length 3,iv .i64 0])=.tup [.fslc false false 3 (S.map (zY d)),iv .i64 0]:=by
     simp only[fzD,J7,Nat.zero_add,List.drop_zero]
     rw[if_pos ⟨trivial,by omega,by simp⟩,elemsD]
    rw[ef]
    refine zc ⟨fun x hx=>?_,?_,?_,rfl,rfl⟩
    ·rw[zG _ _ _ _ (by omega)];exact hx4.out x hx
    ·simp[go_sem,below,belowL];rw[Zl];intro y hy;obtain⟨o,_,rfl⟩:=List.mem_map.1 hy;simp[zY,below,belowL]
    ·simp[ZW,hS]
  ·have hwd:wi d 0 400=false:=by simp only[wi,Bool.and_eq_false_iff,decide_eq_false_iff_not];omega
   rw[hwd] at k2
   rw[hc] at k1
   have ho:outDu ls l d=([],1):=by unfold outDu;rw[if_neg (by simpa using hc),if_neg hd]
   rw[ho,show ZW d []=.fslc true true 0 [] from rfl]
   generalize List.map zT ls=LL at *
   generalize List.map ZB l=OO at *
   clear ho hwd hd hc hsL hs hw hnl hnlL
   repeat' (first|(refine zF fun K hK=>?_)|(refine zB fun K hK=>?_;simp (disch:=omega) [go_sem, *,Tryz.ntmps10])|(apply zC.out hK;clear hK K;try with_reducible dsimp only[zD])|(apply zC.out ht;clear ht hf Kt Kf)|(apply zC.out hf;clear ht hf Kt Kf)|(with_reducible refine zL.gcall (k1) ?_;try simp (disch:=omega) [go_sem, *])|(with_reducible refine zL.gcall (k2) ?_;try simp (disch:=omega) [go_sem, *])|(refine zK ?_;simp only[zD])|(refine zH fun Kt Kf ht hf=>?_;simp (disch:=omega) [go_sem, *];try (refine⟨fun hc=>?_,fun hc=>?_⟩ <;> try (exfalso;omega))))
   (refine zg ?_;try dsimp only[zD,zO];refine⟨by simp,_,(by first | rfl|(simp (disch:=omega) [go_sem,zG] <;> rfl)),?_⟩;refine zc ⟨fun k hk=>(by first | rfl|(repeat rw[zG _ _ _ _ (by omega)])),(by simp[go_sem,below,belowL]),(by simp[go_sem] <;> omega),by simp,by simp⟩)
 ·have ho:outDu ls l d=([],jj ls l):=by unfold outDu;rw[if_pos hc]
  rw[ho,show ZW d []=.fslc true true 0 [] from rfl]
  have hne:(jj ls l != 0)=true:=by simpa using hc
  generalize jj ls l=e at *
  generalize List.map zT ls=LL at *
  generalize List.map ZB l=OO at *
  clear ho hc hsL hs hw hnl hnlL k2
  repeat' (first|(refine zF fun K hK=>?_)|(refine zB fun K hK=>?_;simp (disch:=omega) [go_sem, *,Tryz.ntmps10])|(apply zC.out hK;clear hK K;try with_reducible dsimp only[zD])|(apply zC.out ht;clear ht hf Kt Kf)|(with_reducible refine zL.gcall (k1) ?_;try simp (disch:=omega) [go_sem, *])|(refine zH fun Kt Kf ht hf=>?_;simp (disch:=omega) [go_sem, *];try (refine⟨fun hc=>?_,fun hc=>?_⟩ <;> try (exfalso;omega))))
  (refine zg ?_;try dsimp only[zD,zO];refine⟨by simp,_,(by first | rfl|(simp (disch:=omega) [go_sem,zG] <;> rfl)),?_⟩;refine zc ⟨fun k hk=>(by first | rfl|(repeat rw[zG _ _ _ _ (by omega)])),(by simp[go_sem,below,belowL]),(by simp[go_sem] <;> omega),by simp,by simp⟩)
end Go.AM
