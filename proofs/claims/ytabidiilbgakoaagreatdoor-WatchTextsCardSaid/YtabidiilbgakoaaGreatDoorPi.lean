/- Watches that are few. Conditions: as each theorem says. -/
import Derived.Test.YtabidiilbgakoaaGreatDoorDd
namespace Go.AM
open Go.Proofs Cw Du
set_option maxRecDepth 10000
set_option maxHeartbeats 4000000
def litL (l:Lin):Bool:=decide (l.exc.length≤30) && decide (l.tower.size≤40) && decide (l.person.size≤40) && decide (l.other.size≤40)
def QH (a b c k:Nat):Bool:=decide (k≤a) || (decide (b < k) && decide (k≤c))
def fewW (ls:List Lin) (l:List Ordr):Bool:=ls.all litL && l.all lit && QH 14 60 100 ls.length && QH 6 30 50 l.length
theorem few_spec (nlL fuL:Bool) (sL:Nat) (ls:List Lin) (hnlL:ls=[]∨nlL=false∧sL=8) (hsL:∀x ∈ ls,QA x∧x.exc.length≤9223372036854775807) (hlL:ls.length≤9223372036854775807) (nl fu:Bool) (s:Nat) (l:List Ordr) (hnl:l=[]∨nl=false∧s=7) (hw:wfO l) (hl:l.length≤9223372036854775807) :
  zK Tryz.prog 9 [.agg [.fslc nlL fuL sL (ls.map zX),.fslc nl fu s (l.map zp)]] (bv (fewW ls l)):=by
 intro h n
 refine zQ.pure (zQ.entry (by kernel_rfl) fun hb _=>za Tryz.func9 rfl (by kernel_rfl) (by simp[Tryz.ntmps9]) ?_)
 obtain⟨T,hT⟩:∃T,zC (T=fewW ls l):=⟨_,rfl⟩
 rw[←hT.out]
 replace hnl:zC _:=hnl
 replace hnlL:zC _:=hnlL
 replace hsL:zC _:=hsL
 replace hw:zC _:=hw
 repeat' (first|(refine zF fun K hK=>?_)|(refine zA fun K hK=>?_;simp (disch:=omega) [go_sem, *,Tryz.ntmps9])|(apply zC.out hK;clear hK K;try with_reducible dsimp only[zG])|(refine zJ ?_))
 refine z8 (fun s'=>∃(i n':Nat),n < n'∧i≤ls.length∧(∀j o,j < i→ls[j]? = some o→litL o=true)∧s'=⟨99,[(1,.ptr n 0),(3,iv .i64 i)],h.upd n (some (.cells [.fslc nlL fuL sL (ls.map zX),.fslc nl fu s (l.map zp)])),n'⟩)
  (fun s'=>ls.length - (ZL s' 3).toNat) ?_ ?_
 ·exact zS (by simp[go_sem]) (Sub.refl _) ⟨0,_,by omega,by omega,fun j o hj=>by omega,rfl⟩
 ·rintro s' ⟨i,n',hn',hi,hall,rfl⟩
  replace hall:zC _:=hall
  by_cases hlt:i < ls.length
  ·obtain⟨x,hx⟩:∃o,ls[i]=o:=⟨_,rfl⟩
   have hmem:x ∈ ls:=hx ▸ List.getElem_mem hlt
   have hne:ls≠[]:=fun e=>by rw[e] at hlt;simp at hlt
   obtain⟨rfl,rfl⟩:=hnlL.out.resolve_left hne
   obtain⟨q1,q2⟩:=hsL.out _ hmem
   have hex:zX ls[i]=.agg [iv .i64 x.kind,sv x.tower,sv x.person,sv x.other,iv .i64 x.fr,iv .i64 x.to,iv .i64 x.ev,.fslc x.nl x.fu x.s (x.exc.map (iv .i64))]:=by rw[hx];rfl
   have hxs:ls[i]? = some x:=by rw[List.getElem?_eq_getElem hlt,hx]
   have hbad:litL x=false→T=false:=fun hq=>by
    rw[hT.out,fewW]
    have:ls.all litL=false:=by rw[List.all_eq_false];exact⟨_,hmem,by simp[hq]⟩
    rw[this];rfl
   replace hx:zC _:=hx
   replace hxs:zC _:=hxs
   replace hbad:zC _:=hbad
   clear hmem hne q1
   obtain⟨kd,tw,pe,ot,fr,to,ev,xnl,xfu,xs,exc⟩:=x
   simp only at q2 hex
   by_cases c1:exc.length > 30
   ·have hTf:=hbad.out (by simp[litL];omega)
    subst hTf
    clear hbad
    repeat' (first|(refine zF fun K hK=>?_)|(refine zA fun K hK=>?_;simp (disch:=omega) [go_sem, *,zO,zP])|(apply zC.out hK;clear hK K;try with_reducible dsimp only[zG])|(apply zC.out ht;clear ht hf Kt Kf)|(refine zJ ?_)|(refine zL ?_;simp only[zG])|(refine zH fun Kt Kf ht hf=>?_;simp (disch:=omega) [go_sem, *];try (refine⟨fun hc=>?_,fun hc=>?_⟩ <;> try (exfalso;omega))))
    exact zR
   ·by_cases c2:tw.size > 40
    ·have hTf:=hbad.out (by simp[litL];omega)
     subst hTf
     clear hbad
     repeat' (first|(refine zF fun K hK=>?_)|(refine zA fun K hK=>?_;simp (disch:=omega) [go_sem, *,zO,zT,zP])|(apply zC.out hK;clear hK K;try with_reducible dsimp only[zG])|(apply zC.out ht;clear ht hf Kt Kf)|(refine zJ ?_)|(refine zL ?_;simp only[zG])|(refine zH fun Kt Kf ht hf=>?_;simp (disch:=omega) [go_sem, *];try (refine⟨fun hc=>?_,fun hc=>?_⟩ <;> try (exfalso;omega))))
     exact zR
    ·by_cases c3:pe.size > 40
     ·have hTf:=hbad.out (by simp[litL];omega)
      subst hTf
      clear hbad
      repeat' (first|(refine zF fun K hK=>?_)|(refine zA fun K hK=>?_;simp (disch:=omega) [go_sem, *,zO,zT,zP])|(apply zC.out hK;clear hK K;try with_reducible dsimp only[zG])|(apply zC.out ht;clear ht hf Kt Kf)|(refine zJ ?_)|(refine zL ?_;simp only[zG])|(refine zH fun Kt Kf ht hf=>?_;simp (disch:=omega) [go_sem, *];try (refine⟨fun hc=>?_,fun hc=>?_⟩ <;> try (exfalso;omega))))
      exact zR
     ·by_cases c4:ot.size > 40
      ·have hTf:=hbad.out (by simp[litL];omega)
       subst hTf
       clear hbad
       repeat' (first|(refine zF fun K hK=>?_)|(refine zA fun K hK=>?_;simp (disch:=omega) [go_sem, *,zO,zT,zP])|(apply zC.out hK;clear hK K;try with_reducible dsimp only[zG])|(apply zC.out ht;clear ht hf Kt Kf)|(refine zJ ?_)|(refine zL ?_;simp only[zG])|(refine zH fun Kt Kf ht hf=>?_;simp (disch:=omega) [go_sem, *];try (refine⟨fun hc=>?_,fun hc=>?_⟩ <;> try (exfalso;omega))))
       exact zR
      ·have hli:zC (litL ⟨kd,tw,pe,ot,fr,to,ev,xnl,xfu,xs,exc⟩=true):=by
        show litL ⟨kd,tw,pe,ot,fr,to,ev,xnl,xfu,xs,exc⟩=true
        simp[litL];omega
       clear hbad
       repeat' (first|(refine zF fun K hK=>?_)|(refine zA fun K hK=>?_;simp (disch:=omega) [go_sem, *,zM,zO,zT,zP])|(apply zC.out hK;clear hK K;try with_reducible dsimp only[zG])|(apply zC.out ht;clear ht hf Kt Kf)|(apply zC.out hf;clear ht hf Kt Kf)|(refine zJ ?_)|(refine zL ?_;simp only[zG,zN])|(refine zH fun Kt Kf ht hf=>?_;simp (disch:=omega) [go_sem, *];try (refine⟨fun hc=>?_,fun hc=>?_⟩ <;> try (exfalso;omega))))
       exact zl (by simp (disch:=omega) [go_sem]) (by repeat (first | exact Sub.refl _ | refine Sub.upd ?_ (by rw[zB _ _ _ _ (by omega)];exact hb.none (by omega)) _)) ⟨i + 1,_,by omega,by omega,fun j y hj hy=>by
        rcases Nat.lt_or_ge j i with h1 | h1
        ·exact hall.out j y h1 hy
        ·have:j=i:=by omega
         subst this
         rw[hxs.out] at hy;cases hy;exact hli.out,rfl⟩ (by simp[ZL,go_sem];omega)
  ·have hall2:ls.all litL=true:=by
    rw[List.all_eq_true]
    intro o ho
    obtain⟨j,hj,e⟩:=List.getElem_of_mem ho
    exact hall.out j o (by omega) (by rw[List.getElem?_eq_getElem hj,e])
   have hT1:T=(l.all lit && QH 14 60 100 ls.length && QH 6 30 50 l.length):=by rw[hT.out,fewW,hall2,Bool.true_and]
   replace hT1:zC _:=hT1
   clear hall2 hall hT
   repeat' (first|(refine zF fun K hK=>?_)|(refine zA fun K hK=>?_;simp (disch:=omega) [go_sem, *,zT])|(apply zC.out hK;clear hK K;try with_reducible dsimp only[zG])|(apply zC.out hf;clear ht hf Kt Kf)|(clear hK K;apply zC.out hK;clear hK K;try with_reducible dsimp only[zG])|(refine zJ ?_)|(refine zk ?_;simp only[zG,zN,if_true])|(refine zH fun Kt Kf ht hf=>?_;simp (disch:=omega) [go_sem, *];try (refine⟨fun hc=>?_,fun hc=>?_⟩ <;> try (exfalso;omega))))
   refine z8 (fun s'=>∃(i n2:Nat),n < n2∧i≤l.length∧(∀j o,j < i→l[j]? = some o→lit o=true)∧s'=⟨99,[(1,.ptr n 0),(5,iv .i64 i)],h.upd n (some (.cells [.fslc nlL fuL sL (ls.map zX),.fslc nl fu s (l.map zp)])),n2⟩)
     (fun s'=>l.length - (ZL s' 5).toNat) ?_ ?_
   ·exact zS (by simp[go_sem]) (Sub.refl _) ⟨0,_,by omega,by omega,fun j o hj=>by omega,rfl⟩
   ·rintro s' ⟨i,n2,hn2,hi,hall,rfl⟩
    replace hall:zC _:=hall
    by_cases hlt:i < l.length
    ·obtain⟨⟨nm,rk,k,f,o,nn,nl2,fu2,s2,ks⟩,hx⟩:∃o,l[i]=o:=⟨_,rfl⟩
     have hmem:∀o,l[i]=o→o ∈ l:=fun o e=>e ▸ List.getElem_mem hlt
     have hne:l≠[]:=fun e=>by rw[e] at hlt;simp at hlt
     obtain⟨rfl,rfl⟩:=hnl.out.resolve_left hne
     have hwc:=hw.out _ (hmem _ hx)
     have k1:=small_spec _ hwc
     have hex:zp l[i]=.agg [sv nm,iv .i64 rk,iv .i64 k,iv .i64 f,iv .i64 o,iv .i64 nn,.fslc nl2 fu2 s2 (ZE ks)]:=by rw[hx];rfl
     have hxs:l[i]? = some ⟨nm,rk,.mk k f o nn nl2 fu2 s2 ks⟩:=by rw[List.getElem?_eq_getElem hlt,hx]
     have hbad:lit ⟨nm,rk,.mk k f o nn nl2 fu2 s2 ks⟩=false→T=false:=fun hq=>by
      rw[hT1.out]
      have:l.all lit=false:=by
       rw[List.all_eq_false];exact⟨_,hmem _ hx,by simp[hq]⟩
      rw[this];rfl
     have hlit:lit ⟨nm,rk,.mk k f o nn nl2 fu2 s2 ks⟩=(decide (nm.size≤40) && decide (tot (.mk k f o nn nl2 fu2 s2 ks)≤80)):=rfl
     simp only[zn] at k1
     generalize hz:decide (tot (.mk k f o nn nl2 fu2 s2 ks)≤80)=z at *
     replace hx:zC _:=hx
     replace hxs:zC _:=hxs
     replace hz:zC _:=hz
     clear hmem hne hwc
     by_cases h40:nm.size≤40
     ·rw[decide_eq_true h40,Bool.true_and] at hlit
      cases z with
      | true=>
       replace hlit:zC _:=hlit
       clear hbad
       repeat' (first|(refine zF fun K hK=>?_)|(refine zA fun K hK=>?_;simp (disch:=omega) [go_sem, *,zM,zO,zT,zP])|(apply zC.out hK;clear hK K;try with_reducible dsimp only[zG])|(apply zC.out ht;clear ht hf Kt Kf)|(apply zC.out hf;clear ht hf Kt Kf)|(with_reducible refine zK.gcall (k1) ?_;try simp (disch:=omega) [go_sem, *])|(refine zJ ?_)|(refine zL ?_;simp only[zG,zN])|(refine zH fun Kt Kf ht hf=>?_;simp (disch:=omega) [go_sem, *];try (refine⟨fun hc=>?_,fun hc=>?_⟩ <;> try (exfalso;omega))))
       exact zl (by simp (disch:=omega) [go_sem]) (Sub.refl _) ⟨i + 1,_,by omega,by omega,fun j y hj hy=>by
        rcases Nat.lt_or_ge j i with h1 | h1
        ·exact hall.out j y h1 hy
        ·have:j=i:=by omega
         subst this
         rw[hxs.out] at hy;cases hy;exact hlit.out,rfl⟩ (by simp[ZL,go_sem];omega)
      | false=>
       have hTf:=hbad hlit
       subst hTf
       clear hbad hlit
       repeat' (first|(refine zF fun K hK=>?_)|(refine zA fun K hK=>?_;simp (disch:=omega) [go_sem, *,zO,zT,zP])|(apply zC.out hK;clear hK K;try with_reducible dsimp only[zG])|(apply zC.out ht;clear ht hf Kt Kf)|(with_reducible refine zK.gcall (k1) ?_;try simp (disch:=omega) [go_sem, *])|(refine zJ ?_)|(refine zL ?_;simp only[zG])|(refine zH fun Kt Kf ht hf=>?_;simp (disch:=omega) [go_sem, *];try (refine⟨fun hc=>?_,fun hc=>?_⟩ <;> try (exfalso;omega))))
       exact zR
     ·have hTf:=hbad (by rw[hlit,decide_eq_false h40];rfl)
      subst hTf
      clear hbad hlit
      repeat' (first|(refine zF fun K hK=>?_)|(refine zA fun K hK=>?_;simp (disch:=omega) [go_sem, *,zO,zP])|(apply zC.out hK;clear hK K;try with_reducible dsimp only[zG])|(apply zC.out ht;clear ht hf Kt Kf)|(refine zJ ?_)|(refine zL ?_;simp only[zG])|(refine zH fun Kt Kf ht hf=>?_;simp (disch:=omega) [go_sem, *];try (refine⟨fun hc=>?_,fun hc=>?_⟩ <;> try (exfalso;omega))))
      exact zR
    ·have hall2:l.all lit=true:=by
      rw[List.all_eq_true]
      intro o ho
      obtain⟨j,hj,e⟩:=List.getElem_of_mem ho
      exact hall.out j o (by omega) (by rw[List.getElem?_eq_getElem hj,e])
     have hT2:T=(QH 14 60 100 ls.length && QH 6 30 50 l.length):=by rw[hT1.out,hall2,Bool.true_and]
     clear hall2 hT1
     by_cases h14:ls.length≤14
     ·by_cases h6:l.length≤6
      ·have hTt:T=true:=by rw[hT2];simp[QH];omega
       subst hTt
       clear hT2
       repeat' (first|(refine zF fun K hK=>?_)|(refine zA fun K hK=>?_;simp (disch:=omega) [go_sem, *,zT,zP])|(apply zC.out hK;clear hK K;try with_reducible dsimp only[zG])|(apply zC.out hf;clear ht hf Kt Kf)|(clear hK K;apply zC.out hK;clear hK K;try with_reducible dsimp only[zG])|(refine zk ?_;simp only[zG,zN,if_true])|(refine zH fun Kt Kf ht hf=>?_;simp (disch:=omega) [go_sem, *];try (refine⟨fun hc=>?_,fun hc=>?_⟩ <;> try (exfalso;omega))))
       exact zR
      ·by_cases h30:30 < l.length
       ·by_cases h50:l.length≤50
        ·have hTt:T=true:=by rw[hT2];simp[QH];omega
         subst hTt
         clear hT2
         repeat' (first|(refine zF fun K hK=>?_)|(refine zA fun K hK=>?_;simp (disch:=omega) [go_sem, *,zO,zT,zP,zg])|(apply zC.out hK;clear hK K;try with_reducible dsimp only[zG])|(apply zC.out hf;clear ht hf Kt Kf)|(clear hK K;apply zC.out hK;clear hK K;try with_reducible dsimp only[zG])|(refine zk ?_;simp only[zG,zN,if_true])|(refine zH fun Kt Kf ht hf=>?_;simp (disch:=omega) [go_sem, *];try (refine⟨fun hc=>?_,fun hc=>?_⟩ <;> try (exfalso;omega))))
         exact zR
        ·have hTt:T=false:=by rw[hT2];simp[QH];omega
         subst hTt
         clear hT2
         repeat' (first|(refine zF fun K hK=>?_)|(refine zA fun K hK=>?_;simp (disch:=omega) [go_sem, *,zO,zT,zP,zg])|(apply zC.out hK;clear hK K;try with_reducible dsimp only[zG])|(apply zC.out hf;clear ht hf Kt Kf)|(clear hK K;apply zC.out hK;clear hK K;try with_reducible dsimp only[zG])|(refine zk ?_;simp only[zG,zN,if_true])|(refine zH fun Kt Kf ht hf=>?_;simp (disch:=omega) [go_sem, *];try (refine⟨fun hc=>?_,fun hc=>?_⟩ <;> try (exfalso;omega))))
         exact zR
       ·have hTt:T=false:=by rw[hT2];simp[QH];omega
        subst hTt
        clear hT2
        repeat' (first|(refine zF fun K hK=>?_)|(refine zA fun K hK=>?_;simp (disch:=omega) [go_sem, *,zT,zP,zg])|(apply zC.out hK;clear hK K;try with_reducible dsimp only[zG])|(apply zC.out hf;clear ht hf Kt Kf)|(clear hK K;apply zC.out hK;clear hK K;try with_reducible dsimp only[zG])|(refine zk ?_;simp only[zG,zN,if_true])|(refine zH fun Kt Kf ht hf=>?_;simp (disch:=omega) [go_sem, *];try (refine⟨fun hc=>?_,fun hc=>?_⟩ <;> try (exfalso;omega))))
        exact zR
     ·by_cases h60:60 < ls.length
      ·by_cases h100:ls.length≤100
       ·by_cases h6:l.length≤6
        ·have hTt:T=true:=by rw[hT2];simp[QH];omega
         subst hTt
         clear hT2
         repeat' (first|(refine zF fun K hK=>?_)|(refine zA fun K hK=>?_;simp (disch:=omega) [go_sem, *,zO,zT,zP,zg])|(apply zC.out hK;clear hK K;try with_reducible dsimp only[zG])|(apply zC.out hf;clear ht hf Kt Kf)|(clear hK K;apply zC.out hK;clear hK K;try with_reducible dsimp only[zG])|(refine zk ?_;simp only[zG,zN,if_true])|(refine zH fun Kt Kf ht hf=>?_;simp (disch:=omega) [go_sem, *];try (refine⟨fun hc=>?_,fun hc=>?_⟩ <;> try (exfalso;omega))))
         exact zR
        ·by_cases h30:30 < l.length
         ·by_cases h50:l.length≤50
          ·have hTt:T=true:=by rw[hT2];simp[QH];omega
           subst hTt
           clear hT2
           repeat' (first|(refine zF fun K hK=>?_)|(refine zA fun K hK=>?_;simp (disch:=omega) [go_sem, *,zO,zT,zP,zg])|(apply zC.out hK;clear hK K;try with_reducible dsimp only[zG])|(apply zC.out hf;clear ht hf Kt Kf)|(clear hK K;apply zC.out hK;clear hK K;try with_reducible dsimp only[zG])|(refine zk ?_;simp only[zG,zN,if_true])|(refine zH fun Kt Kf ht hf=>?_;simp (disch:=omega) [go_sem, *];try (refine⟨fun hc=>?_,fun hc=>?_⟩ <;> try (exfalso;omega))))
           exact zR
          ·have hTt:T=false:=by rw[hT2];simp[QH];omega
           subst hTt
           clear hT2
           repeat' (first|(refine zF fun K hK=>?_)|(refine zA fun K hK=>?_;simp (disch:=omega) [go_sem, *,zO,zT,zP,zg])|(apply zC.out hK;clear hK K;try with_reducible dsimp only[zG])|(apply zC.out hf;clear ht hf Kt Kf)|(clear hK K;apply zC.out hK;clear hK K;try with_reducible dsimp only[zG])|(refine zk ?_;simp only[zG,zN,if_true])|(refine zH fun Kt Kf ht hf=>?_;simp (disch:=omega) [go_sem, *];try (refine⟨fun hc=>?_,fun hc=>?_⟩ <;> try (exfalso;omega))))
           exact zR
         ·have hTt:T=false:=by rw[hT2];simp[QH];omega
          subst hTt
          clear hT2
          repeat' (first|(refine zF fun K hK=>?_)|(refine zA fun K hK=>?_;simp (disch:=omega) [go_sem, *,zO,zT,zP,zg])|(apply zC.out hK;clear hK K;try with_reducible dsimp only[zG])|(apply zC.out hf;clear ht hf Kt Kf)|(clear hK K;apply zC.out hK;clear hK K;try with_reducible dsimp only[zG])|(refine zk ?_;simp only[zG,zN,if_true])|(refine zH fun Kt Kf ht hf=>?_;simp (disch:=omega) [go_sem, *];try (refine⟨fun hc=>?_,fun hc=>?_⟩ <;> try (exfalso;omega))))
          exact zR
       ·have hTt:T=false:=by rw[hT2];simp[QH];omega
        subst hTt
        clear hT2
        repeat' (first|(refine zF fun K hK=>?_)|(refine zA fun K hK=>?_;simp (disch:=omega) [go_sem, *,zO,zT,zg])|(apply zC.out hK;clear hK K;try with_reducible dsimp only[zG])|(apply zC.out hf;clear ht hf Kt Kf)|(clear hK K;apply zC.out hK;clear hK K;try with_reducible dsimp only[zG])|(refine zk ?_;simp only[zG,zN,if_true])|(refine zH fun Kt Kf ht hf=>?_;simp (disch:=omega) [go_sem, *];try (refine⟨fun hc=>?_,fun hc=>?_⟩ <;> try (exfalso;omega))))
        exact zR
      ·have hTt:T=false:=by rw[hT2];simp[QH];omega
       subst hTt
       clear hT2
       repeat' (first|(refine zF fun K hK=>?_)|(refine zA fun K hK=>?_;simp (disch:=omega) [go_sem, *,zT,zg])|(apply zC.out hK;clear hK K;try with_reducible dsimp only[zG])|(apply zC.out hf;clear ht hf Kt Kf)|(clear hK K;apply zC.out hK;clear hK K;try with_reducible dsimp only[zG])|(refine zk ?_;simp only[zG,zN,if_true])|(refine zH fun Kt Kf ht hf=>?_;simp (disch:=omega) [go_sem, *];try (refine⟨fun hc=>?_,fun hc=>?_⟩ <;> try (exfalso;omega))))
       exact zR
end Go.AM
