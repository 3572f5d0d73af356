/- Check and Duties, by the program. Conditions: as each theorem says. -/
import Derived.Test.YtkbgmkhdjmkpdaaGreatDoorDd
import Derived.Test.YtkbgmkhdjmkpdaaGreatDoorEc
import Derived.Test.YtkbgmkhdjmkpdaaGreatDoorDc
namespace Go.AM
open Go.Proofs Cw Du
set_option maxRecDepth 10000
set_option maxHeartbeats 4000000
def jj (ls:List Lin) (l:List Ordr):Int:=if 60 < ls.length then 2 else if 30 < l.length then 2 else if ls.all Zz then (if l.all jn then 0 else 7) else 7
def smL (ls:List Lin):Prop:=∀x ∈ ls,j9 x∧x.exc.length≤100000∧x.tower.size≤1000000∧x.person.size≤1000000∧x.other.size≤1000000
theorem check_spec (nlL fuL:Bool) (sL:Nat) (ls:List Lin) (hnlL:ls=[]∨nlL=false∧sL=8) (hsL:smL ls) (hlL:ls.length≤1000000) (nl fu:Bool) (s:Nat) (l:List Ordr) (hnl:l=[]∨nl=false∧s=7) (hw:wfO l) (hs:smO l) (hl:l.length≤1000000) :
  zL Tryz.prog 41 [.agg [.fslc nlL fuL sL (ls.map zT),.fslc nl fu s (l.map ZB)]] (iv .i64 (jj ls l)):=by
 intro h n
 refine zS.pure (zS.entry (by kernel_rfl) fun hb _=>zX Tryz.func41 rfl (by kernel_rfl) (by simp[Tryz.ntmps41]) ?_)
 obtain⟨T,hT⟩:∃T,zC (T=jj ls l):=⟨_,rfl⟩
 rw[←hT.out]
 replace hnl:zC _:=hnl
 replace hnlL:zC _:=hnlL
 replace hsL:zC _:=hsL
 replace hw:zC _:=hw
 replace hs:zC _:=hs
 by_cases h60:60 < ls.length
 ·have hT2:T=2:=by rw[hT.out,jj,if_pos h60]
  subst hT2
  repeat' (first|(refine zF fun K hK=>?_)|(refine zB fun K hK=>?_;simp (disch:=omega) [go_sem, *,zQ,Tryz.ntmps41])|(apply zC.out hK;clear hK K;try with_reducible dsimp only[zD])|(apply zC.out ht;clear ht hf Kt Kf)|(refine zH fun Kt Kf ht hf=>?_;simp (disch:=omega) [go_sem, *];try (refine⟨fun hc=>?_,fun hc=>?_⟩ <;> try (exfalso;omega))))
  exact zR
 ·by_cases h30:30 < l.length
  ·have hT2:T=2:=by rw[hT.out,jj,if_neg h60,if_pos h30]
   subst hT2
   repeat' (first|(refine zF fun K hK=>?_)|(refine zB fun K hK=>?_;simp (disch:=omega) [go_sem, *,zQ,zW,Tryz.ntmps41])|(apply zC.out hK;clear hK K;try with_reducible dsimp only[zD])|(apply zC.out ht;clear ht hf Kt Kf)|(refine zH fun Kt Kf ht hf=>?_;simp (disch:=omega) [go_sem, *];try (refine⟨fun hc=>?_,fun hc=>?_⟩ <;> try (exfalso;omega))))
   exact zR
  ·have hTL:T=if ls.all Zz then (if l.all jn then 0 else 7) else 7:=by rw[hT.out,jj,if_neg h60,if_neg h30]
   replace hTL:zC _:=hTL
   repeat' (first|(refine zF fun K hK=>?_)|(refine zB fun K hK=>?_;simp (disch:=omega) [go_sem, *,zW,Tryz.ntmps41])|(apply zC.out hK;clear hK K;try with_reducible dsimp only[zD])|(apply zC.out hf;clear ht hf Kt Kf)|(refine zJ ?_)|(refine zK ?_;simp only[zD])|(refine zH fun Kt Kf ht hf=>?_;simp (disch:=omega) [go_sem, *];try (refine⟨fun hc=>?_,fun hc=>?_⟩ <;> try (exfalso;omega))))
   refine za (fun s'=>∃(i n':Nat),n < n'∧i≤ls.length∧(∀j o,j < i→ls[j]? = some o→Zz o=true)∧s'=⟨52,[(1,.ptr n 0),(18,.fslc nlL fuL sL (ls.map zT)),(19,iv .i64 ls.length),(20,iv .i64 i)],h.upd n (some (.cells [.fslc nlL fuL sL (ls.map zT),.fslc nl fu s (l.map ZB)])),n'⟩)
    (fun s'=>ls.length - (zf s' 20).toNat) ?_ ?_
   ·exact zb (by simp[go_sem]) (Sub.refl _) ⟨0,_,by omega,by omega,fun j o hj=>by omega,rfl⟩
   ·rintro s' ⟨i,n',hn',hi,hall,rfl⟩
    replace hall:zC _:=hall
    by_cases hlt:i < ls.length
    ·obtain⟨x,hx⟩:∃o,ls[i]=o:=⟨_,rfl⟩
     have hmem:x ∈ ls:=hx ▸ List.getElem_mem hlt
     have hne:ls≠[]:=fun e=>by rw[e] at hlt;simp at hlt
     obtain⟨rfl,rfl⟩:=hnlL.out.resolve_left hne
     obtain⟨q1,q2,q3,q4,q5⟩:=hsL.out _ hmem
     have k1:=line_spec x q1 q2 q3 q4 q5
     have hex:zT ls[i]=.agg [iv .i64 x.kind,sv x.tower,sv x.person,sv x.other,iv .i64 x.fr,iv .i64 x.to,iv .i64 x.ev,.fslc x.nl x.fu x.s (x.exc.map (iv .i64))]:=by rw[hx];rfl
     have hxs:ls[i]? = some x:=by rw[List.getElem?_eq_getElem hlt,hx]
     have hbad:Zz x=false→T=7:=fun hq=>by
      rw[hTL.out,if_neg]
      intro e
      have:=List.all_eq_true.1 e _ hmem
      rw[hq] at this;cases this
     simp only[zT] at k1
     generalize hz:Zz x=z at *
     replace hx:zC _:=hx
     replace hxs:zC _:=hxs
     replace hz:zC _:=hz
     clear hmem hne q1 q2 q3 q4 q5
     obtain⟨kd,tw,pe,ot,fr,to,ev,xnl,xfu,xs,exc⟩:=x
     simp only at k1 hex
     generalize List.map (iv .i64) exc=X at *
     cases z
     ·have hTf:=hbad rfl
      subst hTf
      clear hbad
      repeat' (first|(refine zF fun K hK=>?_)|(refine zB fun K hK=>?_;simp (disch:=omega) [go_sem, *,zQ,zP])|(apply zC.out hK;clear hK K;try with_reducible dsimp only[zD])|(apply zC.out ht;clear ht hf Kt Kf)|(with_reducible refine zL.gcall (k1) ?_;try simp (disch:=omega) [go_sem, *])|(refine zJ ?_)|(refine zK ?_;simp only[zD])|(refine zH fun Kt Kf ht hf=>?_;simp (disch:=omega) [go_sem, *];try (refine⟨fun hc=>?_,fun hc=>?_⟩ <;> try (exfalso;omega))))
      exact zR
     ·clear hbad
      repeat' (first|(refine zF fun K hK=>?_)|(refine zB fun K hK=>?_;simp (disch:=omega) [go_sem, *,zN,zQ,zP])|(apply zC.out hK;clear hK K;try with_reducible dsimp only[zD])|(apply zC.out ht;clear ht hf Kt Kf)|(apply zC.out hf;clear ht hf Kt Kf)|(with_reducible refine zL.gcall (k1) ?_;try simp (disch:=omega) [go_sem, *])|(refine zJ ?_)|(refine zK ?_;simp only[zD,zO])|(refine zH fun Kt Kf ht hf=>?_;simp (disch:=omega) [go_sem, *];try (refine⟨fun hc=>?_,fun hc=>?_⟩ <;> try (exfalso;omega))))
      exact zV (by simp (disch:=omega) [go_sem]) (by repeat (first | exact Sub.refl _ | refine Sub.upd ?_ (by rw[zG _ _ _ _ (by omega)];exact hb.none (by omega)) _)) ⟨i + 1,_,by omega,by omega,fun j y hj hy=>by
       rcases Nat.lt_or_ge j i with h1 | h1
       ·exact hall.out j y h1 hy
       ·have:j=i:=by omega
        subst this
        rw[hxs.out] at hy;cases hy;exact hz.out,rfl⟩ (by simp[zf,go_sem];omega)
    ·have hall2:ls.all Zz=true:=by
      rw[List.all_eq_true]
      intro o ho
      obtain⟨j,hj,e⟩:=List.getElem_of_mem ho
      exact hall.out j o (by omega) (by rw[List.getElem?_eq_getElem hj,e])
     have hTs:T=if l.all jn then 0 else 7:=by rw[hTL.out,if_pos hall2]
     replace hTs:zC _:=hTs
     clear hall2 hall hTL
     repeat' (first|(refine zF fun K hK=>?_)|(refine zB fun K hK=>?_;simp (disch:=omega) [go_sem, *,zW])|(apply zC.out hK;clear hK K;try with_reducible dsimp only[zD])|(apply zC.out hf;clear ht hf Kt Kf)|(clear hK K;apply zC.out hK;clear hK K;try with_reducible dsimp only[zD])|(refine zJ ?_)|(refine zU ?_;simp only[zD,zO,if_true])|(refine zH fun Kt Kf ht hf=>?_;simp (disch:=omega) [go_sem, *];try (refine⟨fun hc=>?_,fun hc=>?_⟩ <;> try (exfalso;omega))))
     refine za (fun s'=>∃(i n2:Nat),n < n2∧i≤l.length∧(∀j o,j < i→l[j]? = some o→jn o=true)∧s'=⟨52,[(1,.ptr n 0),(29,.fslc nl fu s (l.map ZB)),(30,iv .i64 l.length),(31,iv .i64 i)],h.upd n (some (.cells [.fslc nlL fuL sL (ls.map zT),.fslc nl fu s (l.map ZB)])),n2⟩)
      (fun s'=>l.length - (zf s' 31).toNat) ?_ ?_
     ·exact zb (by simp[go_sem]) (Sub.refl _) ⟨0,_,by omega,by omega,fun j o hj=>by omega,rfl⟩
     ·rintro s' ⟨i,n2,hn2,hi,hall,rfl⟩
      replace hall:zC _:=hall
      by_cases hlt:i < l.length
      ·obtain⟨⟨nm,rk,k,f,o,nn,nl2,fu2,s2,ks⟩,hx⟩:∃o,l[i]=o:=⟨_,rfl⟩
       have hmem:∀o,l[i]=o→o ∈ l:=fun o e=>e ▸ List.getElem_mem hlt
       have hne:l≠[]:=fun e=>by rw[e] at hlt;simp at hlt
       obtain⟨rfl,rfl⟩:=hnl.out.resolve_left hne
       have hwc:=hw.out _ (hmem _ hx)
       have hsc:=hs.out _ (hmem _ hx)
       have k1:=named83 nm hsc.2
       have k2:=Zr rk 0 100
       have k3:=formed_spec _ hwc hsc.1
       have hex:ZB l[i]=.agg [sv nm,iv .i64 rk,iv .i64 k,iv .i64 f,iv .i64 o,iv .i64 nn,.fslc nl2 fu2 s2 (jE ks)]:=by rw[hx];rfl
       have hxs:l[i]? = some ⟨nm,rk,.mk k f o nn nl2 fu2 s2 ks⟩:=by rw[List.getElem?_eq_getElem hlt,hx]
       have hbad:jn ⟨nm,rk,.mk k f o nn nl2 fu2 s2 ks⟩=false→T=7:=fun hq=>by
        rw[hTs.out,if_neg]
        intro e
        have:=List.all_eq_true.1 e _ (hmem _ hx)
        rw[hq] at this;cases this
       have hok:jn ⟨nm,rk,.mk k f o nn nl2 fu2 s2 ks⟩=(ZX nm && wi rk 0 100 && Cw.formed (.mk k f o nn nl2 fu2 s2 ks)):=rfl
       simp only[Zg] at k3
       generalize ZX nm=x at *
       generalize wi rk 0 100=y at *
       generalize Cw.formed (.mk k f o nn nl2 fu2 s2 ks)=z at *
       replace hx:zC _:=hx
       replace hxs:zC _:=hxs
       clear hmem hne hwc hsc
       cases x
       ·have hTf:=hbad (by rw[hok];rfl)
        subst hTf
        clear hbad hok
        repeat' (first|(refine zF fun K hK=>?_)|(refine zB fun K hK=>?_;simp (disch:=omega) [go_sem, *,zQ,zP])|(apply zC.out hK;clear hK K;try with_reducible dsimp only[zD])|(apply zC.out ht;clear ht hf Kt Kf)|(with_reducible refine zL.gcall (k1) ?_;try simp (disch:=omega) [go_sem, *])|(refine zJ ?_)|(refine zK ?_;simp only[zD])|(refine zH fun Kt Kf ht hf=>?_;simp (disch:=omega) [go_sem, *];try (refine⟨fun hc=>?_,fun hc=>?_⟩ <;> try (exfalso;omega))))
        exact zR
       ·cases y
        ·have hTf:=hbad (by rw[hok];rfl)
         subst hTf
         clear hbad hok
         repeat' (first|(refine zF fun K hK=>?_)|(refine zB fun K hK=>?_;simp (disch:=omega) [go_sem, *,zQ,zP])|(apply zC.out hK;clear hK K;try with_reducible dsimp only[zD])|(apply zC.out ht;clear ht hf Kt Kf)|(with_reducible refine zL.gcall (k1) ?_;try simp (disch:=omega) [go_sem, *])|(with_reducible refine zL.gcall (k2) ?_;try simp (disch:=omega) [go_sem, *])|(refine zJ ?_)|(refine zK ?_;simp only[zD])|(refine zH fun Kt Kf ht hf=>?_;simp (disch:=omega) [go_sem, *];try (refine⟨fun hc=>?_,fun hc=>?_⟩ <;> try (exfalso;omega))))
         exact zR
        ·cases z
         ·have hTf:=hbad (by rw[hok];rfl)
          subst hTf
          clear hbad hok
          repeat' (first|(refine zF fun K hK=>?_)|(refine zB fun K hK=>?_;simp (disch:=omega) [go_sem, *,zQ,zP])|(apply zC.out hK;clear hK K;try with_reducible dsimp only[zD])|(apply zC.out ht;clear ht hf Kt Kf)|(with_reducible refine zL.gcall (k1) ?_;try simp (disch:=omega) [go_sem, *])|(with_reducible refine zL.gcall (k2) ?_;try simp (disch:=omega) [go_sem, *])|(with_reducible refine zL.gcall (k3) ?_;try simp (disch:=omega) [go_sem, *])|(refine zJ ?_)|(refine zK ?_;simp only[zD])|(refine zH fun Kt Kf ht hf=>?_;simp (disch:=omega) [go_sem, *];try (refine⟨fun hc=>?_,fun hc=>?_⟩ <;> try (exfalso;omega))))
          exact zR
         ·have hok2:jn ⟨nm,rk,.mk k f o nn nl2 fu2 s2 ks⟩=true:=by rw[hok];rfl
          replace hok2:zC _:=hok2
          clear hbad hok
          repeat' (first|(refine zF fun K hK=>?_)|(refine zB fun K hK=>?_;simp (disch:=omega) [go_sem, *,zN,zQ,zP])|(apply zC.out hK;clear hK K;try with_reducible dsimp only[zD])|(apply zC.out ht;clear ht hf Kt Kf)|(apply zC.out hf;clear ht hf Kt Kf)|(with_reducible refine zL.gcall (k1) ?_;try simp (disch:=omega) [go_sem, *])|(with_reducible refine zL.gcall (k2) ?_;try simp (disch:=omega) [go_sem, *])|(with_reducible refine zL.gcall (k3) ?_;try simp (disch:=omega) [go_sem, *])|(refine zJ ?_)|(refine zK ?_;simp only[zD,zO])|(refine zH fun Kt Kf ht hf=>?_;simp (disch:=omega) [go_sem, *];try (refine⟨fun hc=>?_,fun hc=>?_⟩ <;> try (exfalso;omega))))
          exact zV (by simp (disch:=omega) [go_sem]) (by repeat (first | exact Sub.refl _ | refine Sub.upd ?_ (by rw[zG _ _ _ _ (by omega)];exact hb.none (by omega)) _)) ⟨i + 1,_,by omega,by omega,fun j y hj hy=>by
           rcases Nat.lt_or_ge j i with h1 | h1
           ·exact hall.out j y h1 hy
           ·have:j=i:=by omega
            subst this
            rw[hxs.out] at hy;cases hy;exact hok2.out,rfl⟩ (by simp[zf,go_sem];omega)
      ·have hall2:l.all jn=true:=by
        rw[List.all_eq_true]
        intro o ho
        obtain⟨j,hj,e⟩:=List.getElem_of_mem ho
        exact hall.out j o (by omega) (by rw[List.getElem?_eq_getElem hj,e])
       have hT0:T=0:=by rw[hTs.out,hall2];rfl
       subst hT0
       clear hall2
       repeat' (first|(refine zF fun K hK=>?_)|(refine zB fun K hK=>?_;simp (disch:=omega) [go_sem, *,zW])|(apply zC.out hK;clear hK K;try with_reducible dsimp only[zD])|(apply zC.out hf;clear ht hf Kt Kf)|(clear hK K;apply zC.out hK;clear hK K;try with_reducible dsimp only[zD])|(refine zU ?_;simp only[zD,zO,if_true])|(refine zH fun Kt Kf ht hf=>?_;simp (disch:=omega) [go_sem, *];try (refine⟨fun hc=>?_,fun hc=>?_⟩ <;> try (exfalso;omega))))
       exact zR
end Go.AM
namespace Go.AM
open Go.Proofs Cw Du
set_option maxRecDepth 10000
set_option maxHeartbeats 4000000
theorem lineOk_ok {l:Lin} (h:Zz l=true):numOk l∧Du.kindOk l:=by
 have hd:Jl l=true∧Du.kindOk l:=by
  unfold Zz at h
  unfold Du.kindOk
  split at h
  ·rename_i hk;simp only[Bool.and_eq_true] at h;exact⟨h.2,.inl hk⟩
  ·split at h
   ·rename_i hk;simp only[Bool.and_eq_true] at h;exact⟨h.2,.inr (.inl hk)⟩
   ·split at h
    ·rename_i hk;simp only[Bool.and_eq_true] at h;exact⟨h.2,.inr (.inr (.inl hk))⟩
    ·split at h
     ·rename_i hk
      simp only[Bool.and_eq_true,Bool.not_eq_true'] at h
      refine⟨h.2,.inr (.inr (.inr ⟨hk,fun e=>?_⟩))⟩
      rw[(ZM _ _).2 e] at h
      cases h.1.2
     ·cases h
 refine⟨?_,hd.2⟩
 have:=hd.1
 simp only[Jl,Z6,wi,Bool.and_eq_true,decide_eq_true_eq] at this
 exact⟨by omega,by omega,by omega,by omega,by omega,by omega⟩
theorem JE {ls:List Lin} {l:List Ordr} (h:jj ls l=0) (hs:smL ls):(∀x ∈ ls,lnOk x)∧ls.length≤60∧l.length≤30∧l.all jn=true:=by
 unfold jj at h
 split at h
 ·cases h
 ·split at h
  ·cases h
  ·split at h
   ·rename_i h1 h2 h3
    split at h
    ·rename_i h4
     refine⟨fun x hx=>?_,by omega,by omega,h4⟩
     have:=lineOk_ok (List.all_eq_true.1 h3 x hx)
     exact⟨(hs x hx).1,this.1,this.2⟩
    ·cases h
   ·cases h
end Go.AM
