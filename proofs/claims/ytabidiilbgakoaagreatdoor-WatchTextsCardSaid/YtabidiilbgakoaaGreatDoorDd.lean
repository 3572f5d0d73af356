/- Lines: formed, by the program; Check, by the program. Conditions: as each theorem says. -/
import Derived.Test.YtabidiilbgakoaaGreatDoorDa
import Derived.Test.YtabidiilbgakoaaGreatDoorEc
namespace Go.AM
open Go.Proofs Cw Du
set_option maxRecDepth 10000
set_option maxHeartbeats 4000000
def ascG:Int→List Int→Bool
 | _,[]=>true
 | p,x :: r=>wi x 0 400 && decide (p < x) && ascG x r
def Ji (fr to ev:Int) (k:Nat):Bool:=decide (0≤fr) && decide (fr≤to) && decide (to≤400) && wi ev 1 400 && decide (k≤20)
def Jy (l:Lin):Bool:=Ji l.fr l.to l.ev l.exc.length && ascG (-1) l.exc
def prevI (l:List Int):Nat→Int
 | 0=>-1
 | i + 1=>l.getD i 0
theorem days_spec (l:Lin) (hw:QA l) (hl:l.exc.length≤100000):zK Tryz.prog 140 [zX l] (bv (Jy l)):=by
 intro h n
 have k1:=jD l.ev 1 400
 have k2:=fun x=>jD x 0 400
 refine zQ.pure (zQ.entry (by kernel_rfl) fun hb _=>za Tryz.func140 rfl (by kernel_rfl) (by simp[Tryz.ntmps140]) ?_)
 obtain⟨T,hT⟩:∃T,zC (T=Jy l):=⟨_,rfl⟩
 rw[←hT.out]
 obtain⟨kd,tw,pe,ot,fr,to,ev,nl,fu,s,exc⟩:=l
 have hT1:T=(Ji fr to ev exc.length && ascG (-1) exc):=hT.out
 replace hT:zC _:=trivial
 simp only at k1 hl
 simp only[zX]
 replace k2:zC _:=k2
 replace hw:zC _:=hw
 by_cases c1:0≤fr
 ·by_cases c2:fr≤to
  ·by_cases c3:to≤400
   ·cases c4:wi ev 1 400 with
    | true=>
     rw[c4] at k1
     by_cases c5:exc.length≤20
     ·have hs:Ji fr to ev exc.length=true:=by simp[Ji,c1,c2,c3,c4,c5]
      rw[hs,Bool.true_and] at hT1
      replace hT1:zC _:=hT1
      clear hs c4
      repeat' (first|(refine zF fun K hK=>?_)|(refine zA fun K hK=>?_;simp (disch:=omega) [go_sem, *,zT,Tryz.ntmps140])|(apply zC.out hK;clear hK K;try with_reducible dsimp only[zG])|(apply zC.out hf;clear ht hf Kt Kf)|(with_reducible refine zK.gcall (k1) ?_;try simp (disch:=omega) [go_sem, *,zT])|(refine zJ ?_)|(refine zL ?_;simp only[zG])|(refine zH fun Kt Kf ht hf=>?_;simp (disch:=omega) [go_sem, *];try (refine⟨fun hc=>?_,fun hc=>?_⟩ <;> try (exfalso;omega))))
      refine z8 (fun s'=>∃(i n':Nat),n < n'∧i≤exc.length∧ascG (prevI exc i) (exc.drop i)=T∧s'=⟨58,[(1,.ptr n 0),(33,.fslc nl fu s (exc.map (iv .i64))),(34,iv .i64 exc.length),(35,iv .i64 i)],h.upd n (some (.cells [iv .i64 kd,sv tw,sv pe,sv ot,iv .i64 fr,iv .i64 to,iv .i64 ev,.fslc nl fu s (exc.map (iv .i64))])),n'⟩)
       (fun s'=>exc.length - (ZL s' 35).toNat) ?_ ?_
      ·exact zS (by simp[go_sem]) (Sub.refl _) ⟨0,_,by omega,by omega,hT1.out.symm,rfl⟩
      ·rintro s' ⟨i,n',hn',hi,hc,rfl⟩
       by_cases hlt:i < exc.length
       ·obtain⟨x,hx⟩:∃x,exc[i]=x:=⟨_,rfl⟩
        have hne:exc≠[]:=fun e=>by rw[e] at hlt;simp at hlt
        obtain⟨rfl,rfl⟩:=hw.out.resolve_left hne
        have hdr:exc.drop i=x :: exc.drop (i + 1):=by rw[List.drop_eq_getElem_cons hlt,hx]
        rw[hdr,ascG] at hc
        have hp1:prevI exc (i + 1)=x:=by simp[prevI,hlt,hx]
        have k3:=k2.out x
        clear hdr hne k1
        cases c6:wi x 0 400 with
        | false=>
         rw[c6] at hc k3
         simp only[Bool.false_and] at hc
         subst hc
         replace hp1:zC _:=trivial
         replace c6:zC _:=trivial
         repeat' (first|(refine zF fun K hK=>?_)|(refine zA fun K hK=>?_;simp (disch:=omega) [go_sem, *,zO,zP])|(apply zC.out hK;clear hK K;try with_reducible dsimp only[zG])|(apply zC.out ht;clear ht hf Kt Kf)|(with_reducible refine zK.gcall (k3) ?_;try simp (disch:=omega) [go_sem, *])|(refine zJ ?_)|(refine zL ?_;simp only[zG])|(refine zH fun Kt Kf ht hf=>?_;simp (disch:=omega) [go_sem, *];try (refine⟨fun hc=>?_,fun hc=>?_⟩ <;> try (exfalso;omega))))
         exact zR
        | true=>
         rw[c6] at hc k3
         simp only[Bool.true_and] at hc
         have c6:0≤x:=by simp only[wi,Bool.and_eq_true,decide_eq_true_eq] at c6;omega
         cases i with
         | zero=>
          have hlt0:decide (prevI exc 0 < x)=true:=by
           have e0:prevI exc 0=-1:=rfl
           rw[e0,decide_eq_true_eq];omega
          rw[hlt0,Bool.true_and] at hc
          replace hc:zC _:=hc
          replace hp1:zC _:=hp1
          clear hlt0
          repeat' (first|(refine zF fun K hK=>?_)|(refine zA fun K hK=>?_;simp (disch:=omega) [go_sem, *,zM])|(apply zC.out hK;clear hK K;try with_reducible dsimp only[zG])|(apply zC.out ht;clear ht hf Kt Kf)|(apply zC.out hf;clear ht hf Kt Kf)|(with_reducible refine zK.gcall (k3) ?_;try simp (disch:=omega) [go_sem, *])|(refine zJ ?_)|(refine zL ?_;simp only[zG,zN])|(refine zH fun Kt Kf ht hf=>?_;simp (disch:=omega) [go_sem, *];try (refine⟨fun hc=>?_,fun hc=>?_⟩ <;> try (exfalso;omega))))
          exact zl (by simp (disch:=omega) [go_sem]) (Sub.refl _) ⟨0 + 1,_,by omega,by omega,by rw[hp1.out];exact hc.out,rfl⟩ (by simp[ZL,go_sem];omega)
         | succ k=>
          obtain⟨y,hy⟩:∃y,exc[k]=y:=⟨_,rfl⟩
          have hpk:prevI exc (k + 1)=y:=by simp[prevI,show k < exc.length by omega,hy]
          have e1:(((k + 1:Nat):Int) - 1)=(k:Int):=by omega
          have e2:((k:Int)).toNat=k:=by omega
          have hlk:k < exc.length:=by omega
          rw[hpk] at hc
          clear hpk
          by_cases c7:y < x
          ·rw[decide_eq_true c7,Bool.true_and] at hc
           replace hc:zC _:=hc
           replace hp1:zC _:=hp1
           repeat' (first|(refine zF fun K hK=>?_)|(refine zA fun K hK=>?_;simp (disch:=omega) [go_sem, *,zM,zO,zP])|(apply zC.out hK;clear hK K;try with_reducible dsimp only[zG])|(apply zC.out ht;clear ht hf Kt Kf)|(apply zC.out hf;clear ht hf Kt Kf)|(with_reducible refine zK.gcall (k3) ?_;try simp (disch:=omega) [go_sem, *,zM,zO,zP,zg])|(refine zJ ?_)|(refine zL ?_;simp only[zG,zN])|(refine zH fun Kt Kf ht hf=>?_;simp (disch:=omega) [go_sem, *];try (refine⟨fun hc=>?_,fun hc=>?_⟩ <;> try (exfalso;omega))))
           exact zl (by simp (disch:=omega) [go_sem]) (Sub.refl _) ⟨k + 1 + 1,_,by omega,by omega,by rw[hp1.out];exact hc.out,rfl⟩ (by simp[ZL,go_sem];omega)
          ·rw[decide_eq_false c7,Bool.false_and] at hc
           subst hc
           replace hp1:zC _:=hp1
           repeat' (first|(refine zF fun K hK=>?_)|(refine zA fun K hK=>?_;simp (disch:=omega) [go_sem, *,zO,zP])|(apply zC.out hK;clear hK K;try with_reducible dsimp only[zG])|(apply zC.out ht;clear ht hf Kt Kf)|(with_reducible refine zK.gcall (k3) ?_;try simp (disch:=omega) [go_sem, *,zM,zO,zP])|(refine zJ ?_)|(refine zL ?_;simp only[zG])|(refine zH fun Kt Kf ht hf=>?_;simp (disch:=omega) [go_sem, *];try (refine⟨fun hc=>?_,fun hc=>?_⟩ <;> try (exfalso;omega))))
           exact zR
       ·have hii:i=exc.length:=by omega
        subst hii
        rw[List.drop_length,ascG] at hc
        subst hc
        repeat' (first|(refine zF fun K hK=>?_)|(refine zA fun K hK=>?_;simp (disch:=omega) [go_sem, *])|(apply zC.out hK;clear hK K;try with_reducible dsimp only[zG])|(apply zC.out hf;clear ht hf Kt Kf)|(clear hK K;apply zC.out hK;clear hK K;try with_reducible dsimp only[zG])|(refine zk ?_;simp only[zG,zN,if_true])|(refine zH fun Kt Kf ht hf=>?_;simp (disch:=omega) [go_sem, *];try (refine⟨fun hc=>?_,fun hc=>?_⟩ <;> try (exfalso;omega))))
        exact zR
     ·have hs:Ji fr to ev exc.length=false:=by simp[Ji,c5]
      rw[hs,Bool.false_and] at hT1
      subst hT1
      clear hs c4
      repeat' (first|(refine zF fun K hK=>?_)|(refine zA fun K hK=>?_;simp (disch:=omega) [go_sem, *,zT,Tryz.ntmps140])|(apply zC.out hK;clear hK K;try with_reducible dsimp only[zG])|(apply zC.out ht;clear ht hf Kt Kf)|(with_reducible refine zK.gcall (k1) ?_;try simp (disch:=omega) [go_sem, *,zO])|(refine zH fun Kt Kf ht hf=>?_;simp (disch:=omega) [go_sem, *];try (refine⟨fun hc=>?_,fun hc=>?_⟩ <;> try (exfalso;omega))))
      exact zR
    | false=>
     rw[c4] at k1
     have hs:Ji fr to ev exc.length=false:=by simp[Ji,c4]
     rw[hs,Bool.false_and] at hT1
     subst hT1
     clear hs c4
     repeat' (first|(refine zF fun K hK=>?_)|(refine zA fun K hK=>?_;simp (disch:=omega) [go_sem, *,zT,Tryz.ntmps140])|(apply zC.out hK;clear hK K;try with_reducible dsimp only[zG])|(apply zC.out ht;clear ht hf Kt Kf)|(with_reducible refine zK.gcall (k1) ?_;try simp (disch:=omega) [go_sem, *])|(refine zH fun Kt Kf ht hf=>?_;simp (disch:=omega) [go_sem, *];try (refine⟨fun hc=>?_,fun hc=>?_⟩ <;> try (exfalso;omega))))
     exact zR
   ·have hs:Ji fr to ev exc.length=false:=by simp[Ji,c3]
    rw[hs,Bool.false_and] at hT1
    subst hT1
    clear hs k1
    repeat' (first|(refine zF fun K hK=>?_)|(refine zA fun K hK=>?_;simp (disch:=omega) [go_sem, *,zO,zT,Tryz.ntmps140])|(apply zC.out hK;clear hK K;try with_reducible dsimp only[zG])|(apply zC.out ht;clear ht hf Kt Kf)|(refine zH fun Kt Kf ht hf=>?_;simp (disch:=omega) [go_sem, *];try (refine⟨fun hc=>?_,fun hc=>?_⟩ <;> try (exfalso;omega))))
    exact zR
  ·have hs:Ji fr to ev exc.length=false:=by simp[Ji,c2]
   rw[hs,Bool.false_and] at hT1
   subst hT1
   clear hs k1
   repeat' (first|(refine zF fun K hK=>?_)|(refine zA fun K hK=>?_;simp (disch:=omega) [go_sem, *,zO,zT,Tryz.ntmps140])|(apply zC.out hK;clear hK K;try with_reducible dsimp only[zG])|(apply zC.out ht;clear ht hf Kt Kf)|(refine zH fun Kt Kf ht hf=>?_;simp (disch:=omega) [go_sem, *];try (refine⟨fun hc=>?_,fun hc=>?_⟩ <;> try (exfalso;omega))))
   exact zR
 ·have hs:Ji fr to ev exc.length=false:=by simp[Ji,c1]
  rw[hs,Bool.false_and] at hT1
  subst hT1
  clear hs k1
  repeat' (first|(refine zF fun K hK=>?_)|(refine zA fun K hK=>?_;simp (disch:=omega) [go_sem, *,zO,Tryz.ntmps140])|(apply zC.out hK;clear hK K;try with_reducible dsimp only[zG])|(apply zC.out ht;clear ht hf Kt Kf)|(refine zH fun Kt Kf ht hf=>?_;simp (disch:=omega) [go_sem, *];try (refine⟨fun hc=>?_,fun hc=>?_⟩ <;> try (exfalso;omega))))
  exact zR
end Go.AM
namespace Go.AM
open Go.Proofs Cw Du
set_option maxRecDepth 10000
set_option maxHeartbeats 4000000
def empB (s:ByteArray):Bool:=s.toList.isEmpty
def ZQ (l:Lin):Bool:=
 if l.kind=1 then Zn l.tower && Zn l.person && empB l.other && Jy l
 else if l.kind=2 then empB l.tower && Zn l.person && empB l.other && Jy l
 else if l.kind=3 then Zn l.tower && empB l.person && empB l.other && Jy l
 else if l.kind=4 then empB l.tower && Zn l.person && Zn l.other && !eqB l.person l.other && Jy l
 else false
theorem line_spec (l:Lin) (hw:QA l) (hl:l.exc.length≤100000) (h1:l.tower.size≤1000000) (h2:l.person.size≤1000000) (h3:l.other.size≤1000000):zK Tryz.prog 74 [zX l] (bv (ZQ l)):=by
 intro h n
 have k1:=named83 l.tower h1
 have k2:=named83 l.person h2
 have k3:=named83 l.other h3
 have k4:=days_spec l hw hl
 refine zQ.pure (zQ.entry (by kernel_rfl) fun hb _=>za Tryz.func74 rfl (by kernel_rfl) (by simp[Tryz.ntmps74]) ?_)
 obtain⟨T,hT⟩:∃T,zC (T=ZQ l):=⟨_,rfl⟩
 rw[←hT.out]
 have hT1:=hT.out
 replace hT:zC _:=trivial
 unfold ZQ at hT1
 generalize Jy l=dy at *
 obtain⟨kd,tw,pe,ot,fr,to,ev,nl,fu,s,exc⟩:=l
 simp only[empB,eqB,zX] at *
 clear h1 h2 h3 hw hl
 generalize Zn tw=a at *
 generalize Zn pe=b at *
 generalize Zn ot=c at *
 generalize te:tw.toList.isEmpty=x at *
 generalize pt:pe.toList.isEmpty=y at *
 generalize oe:ot.toList.isEmpty=z at *
 generalize pq:(pe.toList == ot.toList)=q at *
 generalize List.map (iv .i64) exc=L at *
 by_cases hk1:kd=1
 ·subst hk1
  cases a with
  | true=>
   cases b with
   | true=>
    cases z with
    | true=>
     cases dy with
     | true=>
      simp at hT1
      subst hT1
      repeat' (first|(refine zF fun K hK=>?_)|(refine zA fun K hK=>?_;simp (disch:=omega) [go_sem, *,Tryz.ntmps74])|(refine z6 mixed (by kernel_rfl) fun K hK=>?_;simp (disch:=omega) [go_sem, *])|(apply zC.out hK;clear hK K;try with_reducible dsimp only[zG])|(apply zC.out ht;clear ht hf Kt Kf)|(with_reducible refine zK.gcall (k1) ?_;try simp (disch:=omega) [go_sem, *])|(with_reducible refine zK.gcall (k2) ?_;try simp (disch:=omega) [go_sem, *])|(with_reducible refine zK.gcall (k4) ?_;try simp (disch:=omega) [go_sem, *])|(refine zJ ?_)|(refine zH fun Kt Kf ht hf=>?_;simp (disch:=omega) [go_sem, *];try (refine⟨fun hc=>?_,fun hc=>?_⟩ <;> try (exfalso;omega))))
      exact zR
     | false=>
      simp at hT1
      subst hT1
      repeat' (first|(refine zF fun K hK=>?_)|(refine zA fun K hK=>?_;simp (disch:=omega) [go_sem, *,Tryz.ntmps74])|(refine z6 mixed (by kernel_rfl) fun K hK=>?_;simp (disch:=omega) [go_sem, *])|(apply zC.out hK;clear hK K;try with_reducible dsimp only[zG])|(apply zC.out ht;clear ht hf Kt Kf)|(with_reducible refine zK.gcall (k1) ?_;try simp (disch:=omega) [go_sem, *])|(with_reducible refine zK.gcall (k2) ?_;try simp (disch:=omega) [go_sem, *])|(with_reducible refine zK.gcall (k4) ?_;try simp (disch:=omega) [go_sem, *])|(refine zJ ?_)|(refine zH fun Kt Kf ht hf=>?_;simp (disch:=omega) [go_sem, *];try (refine⟨fun hc=>?_,fun hc=>?_⟩ <;> try (exfalso;omega))))
      exact zR
    | false=>
     simp at hT1
     subst hT1
     repeat' (first|(refine zF fun K hK=>?_)|(refine zA fun K hK=>?_;simp (disch:=omega) [go_sem, *,Tryz.ntmps74])|(refine z6 mixed (by kernel_rfl) fun K hK=>?_;simp (disch:=omega) [go_sem, *])|(apply zC.out hK;clear hK K;try with_reducible dsimp only[zG])|(apply zC.out ht;clear ht hf Kt Kf)|(with_reducible refine zK.gcall (k1) ?_;try simp (disch:=omega) [go_sem, *])|(with_reducible refine zK.gcall (k2) ?_;try simp (disch:=omega) [go_sem, *])|(refine zJ ?_)|(refine zH fun Kt Kf ht hf=>?_;simp (disch:=omega) [go_sem, *];try (refine⟨fun hc=>?_,fun hc=>?_⟩ <;> try (exfalso;omega))))
     exact zR
   | false=>
    simp at hT1
    subst hT1
    repeat' (first|(refine zF fun K hK=>?_)|(refine zA fun K hK=>?_;simp (disch:=omega) [go_sem, *,Tryz.ntmps74])|(refine z6 mixed (by kernel_rfl) fun K hK=>?_;simp (disch:=omega) [go_sem, *])|(apply zC.out hK;clear hK K;try with_reducible dsimp only[zG])|(apply zC.out ht;clear ht hf Kt Kf)|(with_reducible refine zK.gcall (k1) ?_;try simp (disch:=omega) [go_sem, *])|(with_reducible refine zK.gcall (k2) ?_;try simp (disch:=omega) [go_sem, *])|(refine zJ ?_)|(refine zH fun Kt Kf ht hf=>?_;simp (disch:=omega) [go_sem, *];try (refine⟨fun hc=>?_,fun hc=>?_⟩ <;> try (exfalso;omega))))
    exact zR
  | false=>
   simp at hT1
   subst hT1
   repeat' (first|(refine zF fun K hK=>?_)|(refine zA fun K hK=>?_;simp (disch:=omega) [go_sem, *,Tryz.ntmps74])|(refine z6 mixed (by kernel_rfl) fun K hK=>?_;simp (disch:=omega) [go_sem, *])|(apply zC.out hK;clear hK K;try with_reducible dsimp only[zG])|(apply zC.out ht;clear ht hf Kt Kf)|(with_reducible refine zK.gcall (k1) ?_;try simp (disch:=omega) [go_sem, *])|(refine zJ ?_)|(refine zH fun Kt Kf ht hf=>?_;simp (disch:=omega) [go_sem, *];try (refine⟨fun hc=>?_,fun hc=>?_⟩ <;> try (exfalso;omega))))
   exact zR
 ·rw[if_neg hk1] at hT1
  have hb1:(kd == 1)=false:=by simpa using hk1
  clear hk1
  by_cases hk2:kd=2
  ·subst hk2
   cases x with
   | true=>
    cases b with
    | true=>
     cases z with
     | true=>
      cases dy with
      | true=>
       simp at hT1
       subst hT1
       repeat' (first|(refine zF fun K hK=>?_)|(refine zA fun K hK=>?_;simp (disch:=omega) [go_sem, *,Tryz.ntmps74])|(refine z6 mixed (by kernel_rfl) fun K hK=>?_;simp (disch:=omega) [go_sem, *])|(apply zC.out hK;clear hK K;try with_reducible dsimp only[zG])|(apply zC.out ht;clear ht hf Kt Kf)|(apply zC.out hf;clear ht hf Kt Kf)|(with_reducible refine zK.gcall (k2) ?_;try simp (disch:=omega) [go_sem, *])|(with_reducible refine zK.gcall (k4) ?_;try simp (disch:=omega) [go_sem, *])|(refine zJ ?_)|(refine zH fun Kt Kf ht hf=>?_;simp (disch:=omega) [go_sem, *];try (refine⟨fun hc=>?_,fun hc=>?_⟩ <;> try (exfalso;omega))))
       exact zR
      | false=>
       simp at hT1
       subst hT1
       repeat' (first|(refine zF fun K hK=>?_)|(refine zA fun K hK=>?_;simp (disch:=omega) [go_sem, *,Tryz.ntmps74])|(refine z6 mixed (by kernel_rfl) fun K hK=>?_;simp (disch:=omega) [go_sem, *])|(apply zC.out hK;clear hK K;try with_reducible dsimp only[zG])|(apply zC.out ht;clear ht hf Kt Kf)|(apply zC.out hf;clear ht hf Kt Kf)|(with_reducible refine zK.gcall (k2) ?_;try simp (disch:=omega) [go_sem, *])|(with_reducible refine zK.gcall (k4) ?_;try simp (disch:=omega) [go_sem, *])|(refine zJ ?_)|(refine zH fun Kt Kf ht hf=>?_;simp (disch:=omega) [go_sem, *];try (refine⟨fun hc=>?_,fun hc=>?_⟩ <;> try (exfalso;omega))))
       exact zR
     | false=>
      simp at hT1
      subst hT1
      repeat' (first|(refine zF fun K hK=>?_)|(refine zA fun K hK=>?_;simp (disch:=omega) [go_sem, *,Tryz.ntmps74])|(refine z6 mixed (by kernel_rfl) fun K hK=>?_;simp (disch:=omega) [go_sem, *])|(apply zC.out hK;clear hK K;try with_reducible dsimp only[zG])|(apply zC.out ht;clear ht hf Kt Kf)|(apply zC.out hf;clear ht hf Kt Kf)|(with_reducible refine zK.gcall (k2) ?_;try simp (disch:=omega) [go_sem, *])|(refine zJ ?_)|(refine zH fun Kt Kf ht hf=>?_;simp (disch:=omega) [go_sem, *];try (refine⟨fun hc=>?_,fun hc=>?_⟩ <;> try (exfalso;omega))))
      exact zR
    | false=>
     simp at hT1
     subst hT1
     repeat' (first|(refine zF fun K hK=>?_)|(refine zA fun K hK=>?_;simp (disch:=omega) [go_sem, *,Tryz.ntmps74])|(refine z6 mixed (by kernel_rfl) fun K hK=>?_;simp (disch:=omega) [go_sem, *])|(apply zC.out hK;clear hK K;try with_reducible dsimp only[zG])|(apply zC.out ht;clear ht hf Kt Kf)|(apply zC.out hf;clear ht hf Kt Kf)|(with_reducible refine zK.gcall (k2) ?_;try simp (disch:=omega) [go_sem, *])|(refine zJ ?_)|(refine zH fun Kt Kf ht hf=>?_;simp (disch:=omega) [go_sem, *];try (refine⟨fun hc=>?_,fun hc=>?_⟩ <;> try (exfalso;omega))))
     exact zR
   | false=>
    simp at hT1
    subst hT1
    repeat' (first|(refine zF fun K hK=>?_)|(refine zA fun K hK=>?_;simp (disch:=omega) [go_sem, *,Tryz.ntmps74])|(refine z6 mixed (by kernel_rfl) fun K hK=>?_;simp (disch:=omega) [go_sem, *])|(apply zC.out hK;clear hK K;try with_reducible dsimp only[zG])|(apply zC.out ht;clear ht hf Kt Kf)|(apply zC.out hf;clear ht hf Kt Kf)|(refine zJ ?_)|(refine zH fun Kt Kf ht hf=>?_;simp (disch:=omega) [go_sem, *];try (refine⟨fun hc=>?_,fun hc=>?_⟩ <;> try (exfalso;omega))))
    exact zR
  ·rw[if_neg hk2] at hT1
   have hb2:(kd == 2)=false:=by simpa using hk2
   clear hk2
   by_cases hk3:kd=3
   ·subst hk3
    cases a with
    | true=>
     cases y with
     | true=>
      cases z with
      | true=>
       cases dy with
       | true=>
        simp at hT1
        subst hT1
        repeat' (first|(refine zF fun K hK=>?_)|(refine zA fun K hK=>?_;simp (disch:=omega) [go_sem, *,Tryz.ntmps74])|(refine z6 mixed (by kernel_rfl) fun K hK=>?_;simp (disch:=omega) [go_sem, *])|(apply zC.out hK;clear hK K;try with_reducible dsimp only[zG])|(apply zC.out ht;clear ht hf Kt Kf)|(apply zC.out hf;clear ht hf Kt Kf)|(with_reducible refine zK.gcall (k1) ?_;try simp (disch:=omega) [go_sem, *])|(with_reducible refine zK.gcall (k4) ?_;try simp (disch:=omega) [go_sem, *])|(refine zJ ?_)|(refine zH fun Kt Kf ht hf=>?_;simp (disch:=omega) [go_sem, *];try (refine⟨fun hc=>?_,fun hc=>?_⟩ <;> try (exfalso;omega))))
        exact zR
       | false=>
        simp at hT1
        subst hT1
        repeat' (first|(refine zF fun K hK=>?_)|(refine zA fun K hK=>?_;simp (disch:=omega) [go_sem, *,Tryz.ntmps74])|(refine z6 mixed (by kernel_rfl) fun K hK=>?_;simp (disch:=omega) [go_sem, *])|(apply zC.out hK;clear hK K;try with_reducible dsimp only[zG])|(apply zC.out ht;clear ht hf Kt Kf)|(apply zC.out hf;clear ht hf Kt Kf)|(with_reducible refine zK.gcall (k1) ?_;try simp (disch:=omega) [go_sem, *])|(with_reducible refine zK.gcall (k4) ?_;try simp (disch:=omega) [go_sem, *])|(refine zJ ?_)|(refine zH fun Kt Kf ht hf=>?_;simp (disch:=omega) [go_sem, *];try (refine⟨fun hc=>?_,fun hc=>?_⟩ <;> try (exfalso;omega))))
        exact zR
      | false=>
       simp at hT1
       subst hT1
       repeat' (first|(refine zF fun K hK=>?_)|(refine zA fun K hK=>?_;simp (disch:=omega) [go_sem, *,Tryz.ntmps74])|(refine z6 mixed (by kernel_rfl) fun K hK=>?_;simp (disch:=omega) [go_sem, *])|(apply zC.out hK;clear hK K;try with_reducible dsimp only[zG])|(apply zC.out ht;clear ht hf Kt Kf)|(apply zC.out hf;clear ht hf Kt Kf)|(with_reducible refine zK.gcall (k1) ?_;try simp (disch:=omega) [go_sem, *])|(refine zJ ?_)|(refine zH fun Kt Kf ht hf=>?_;simp (disch:=omega) [go_sem, *];try (refine⟨fun hc=>?_,fun hc=>?_⟩ <;> try (exfalso;omega))))
       exact zR
     | false=>
      simp at hT1
      subst hT1
      repeat' (first|(refine zF fun K hK=>?_)|(refine zA fun K hK=>?_;simp (disch:=omega) [go_sem, *,Tryz.ntmps74])|(refine z6 mixed (by kernel_rfl) fun K hK=>?_;simp (disch:=omega) [go_sem, *])|(apply zC.out hK;clear hK K;try with_reducible dsimp only[zG])|(apply zC.out ht;clear ht hf Kt Kf)|(apply zC.out hf;clear ht hf Kt Kf)|(with_reducible refine zK.gcall (k1) ?_;try simp (disch:=omega) [go_sem, *])|(refine zJ ?_)|(refine zH fun Kt Kf ht hf=>?_;simp (disch:=omega) [go_sem, *];try (refine⟨fun hc=>?_,fun hc=>?_⟩ <;> try (exfalso;omega))))
      exact zR
    | false=>
     simp at hT1
     subst hT1
     repeat' (first|(refine zF fun K hK=>?_)|(refine zA fun K hK=>?_;simp (disch:=omega) [go_sem, *,Tryz.ntmps74])|(refine z6 mixed (by kernel_rfl) fun K hK=>?_;simp (disch:=omega) [go_sem, *])|(apply zC.out hK;clear hK K;try with_reducible dsimp only[zG])|(apply zC.out ht;clear ht hf Kt Kf)|(apply zC.out hf;clear ht hf Kt Kf)|(with_reducible refine zK.gcall (k1) ?_;try simp (disch:=omega) [go_sem, *])|(refine zJ ?_)|(refine zH fun Kt Kf ht hf=>?_;simp (disch:=omega) [go_sem, *];try (refine⟨fun hc=>?_,fun hc=>?_⟩ <;> try (exfalso;omega))))
     exact zR
   ·rw[if_neg hk3] at hT1
    have hb3:(kd == 3)=false:=by simpa using hk3
    clear hk3
    by_cases hk4:kd=4
    ·subst hk4
     cases x with
     | true=>
      cases b with
      | true=>
       cases c with
       | true=>
        cases q with
        | true=>
         simp at hT1
         subst hT1
         repeat' (first|(refine zF fun K hK=>?_)|(refine zA fun K hK=>?_;simp (disch:=omega) [go_sem, *,Tryz.ntmps74])|(refine z6 mixed (by kernel_rfl) fun K hK=>?_;simp (disch:=omega) [go_sem, *])|(apply zC.out hK;clear hK K;try with_reducible dsimp only[zG])|(apply zC.out ht;clear ht hf Kt Kf)|(apply zC.out hf;clear ht hf Kt Kf)|(with_reducible refine zK.gcall (k2) ?_;try simp (disch:=omega) [go_sem, *])|(with_reducible refine zK.gcall (k3) ?_;try simp (disch:=omega) [go_sem, *])|(refine zJ ?_)|(refine zH fun Kt Kf ht hf=>?_;simp (disch:=omega) [go_sem, *];try (refine⟨fun hc=>?_,fun hc=>?_⟩ <;> try (exfalso;omega))))
         exact zR
        | false=>
         cases dy with
         | true=>
          simp at hT1
          subst hT1
          repeat' (first|(refine zF fun K hK=>?_)|(refine zA fun K hK=>?_;simp (disch:=omega) [go_sem, *,Tryz.ntmps74])|(refine z6 mixed (by kernel_rfl) fun K hK=>?_;simp (disch:=omega) [go_sem, *])|(apply zC.out hK;clear hK K;try with_reducible dsimp only[zG])|(apply zC.out ht;clear ht hf Kt Kf)|(apply zC.out hf;clear ht hf Kt Kf)|(with_reducible refine zK.gcall (k2) ?_;try simp (disch:=omega) [go_sem, *])|(with_reducible refine zK.gcall (k3) ?_;try simp (disch:=omega) [go_sem, *])|(with_reducible refine zK.gcall (k4) ?_;try simp (disch:=omega) [go_sem, *])|(refine zJ ?_)|(refine zH fun Kt Kf ht hf=>?_;simp (disch:=omega) [go_sem, *];try (refine⟨fun hc=>?_,fun hc=>?_⟩ <;> try (exfalso;omega))))
          exact zR
         | false=>
          simp at hT1
          subst hT1
          repeat' (first|(refine zF fun K hK=>?_)|(refine zA fun K hK=>?_;simp (disch:=omega) [go_sem, *,Tryz.ntmps74])|(refine z6 mixed (by kernel_rfl) fun K hK=>?_;simp (disch:=omega) [go_sem, *])|(apply zC.out hK;clear hK K;try with_reducible dsimp only[zG])|(apply zC.out ht;clear ht hf Kt Kf)|(apply zC.out hf;clear ht hf Kt Kf)|(with_reducible refine zK.gcall (k2) ?_;try simp (disch:=omega) [go_sem, *])|(with_reducible refine zK.gcall (k3) ?_;try simp (disch:=omega) [go_sem, *])|(with_reducible refine zK.gcall (k4) ?_;try simp (disch:=omega) [go_sem, *])|(refine zJ ?_)|(refine zH fun Kt Kf ht hf=>?_;simp (disch:=omega) [go_sem, *];try (refine⟨fun hc=>?_,fun hc=>?_⟩ <;> try (exfalso;omega))))
          exact zR
       | false=>
        simp at hT1
        subst hT1
        repeat' (first|(refine zF fun K hK=>?_)|(refine zA fun K hK=>?_;simp (disch:=omega) [go_sem, *,Tryz.ntmps74])|(refine z6 mixed (by kernel_rfl) fun K hK=>?_;simp (disch:=omega) [go_sem, *])|(apply zC.out hK;clear hK K;try with_reducible dsimp only[zG])|(apply zC.out ht;clear ht hf Kt Kf)|(apply zC.out hf;clear ht hf Kt Kf)|(with_reducible refine zK.gcall (k2) ?_;try simp (disch:=omega) [go_sem, *])|(with_reducible refine zK.gcall (k3) ?_;try simp (disch:=omega) [go_sem, *])|(refine zJ ?_)|(refine zH fun Kt Kf ht hf=>?_;simp (disch:=omega) [go_sem, *];try (refine⟨fun hc=>?_,fun hc=>?_⟩ <;> try (exfalso;omega))))
        exact zR
      | false=>
       simp at hT1
       subst hT1
       repeat' (first|(refine zF fun K hK=>?_)|(refine zA fun K hK=>?_;simp (disch:=omega) [go_sem, *,Tryz.ntmps74])|(refine z6 mixed (by kernel_rfl) fun K hK=>?_;simp (disch:=omega) [go_sem, *])|(apply zC.out hK;clear hK K;try with_reducible dsimp only[zG])|(apply zC.out ht;clear ht hf Kt Kf)|(apply zC.out hf;clear ht hf Kt Kf)|(with_reducible refine zK.gcall (k2) ?_;try simp (disch:=omega) [go_sem, *])|(refine zJ ?_)|(refine zH fun Kt Kf ht hf=>?_;simp (disch:=omega) [go_sem, *];try (refine⟨fun hc=>?_,fun hc=>?_⟩ <;> try (exfalso;omega))))
       exact zR
     | false=>
      simp at hT1
      subst hT1
      repeat' (first|(refine zF fun K hK=>?_)|(refine zA fun K hK=>?_;simp (disch:=omega) [go_sem, *,Tryz.ntmps74])|(refine z6 mixed (by kernel_rfl) fun K hK=>?_;simp (disch:=omega) [go_sem, *])|(apply zC.out hK;clear hK K;try with_reducible dsimp only[zG])|(apply zC.out ht;clear ht hf Kt Kf)|(apply zC.out hf;clear ht hf Kt Kf)|(refine zJ ?_)|(refine zH fun Kt Kf ht hf=>?_;simp (disch:=omega) [go_sem, *];try (refine⟨fun hc=>?_,fun hc=>?_⟩ <;> try (exfalso;omega))))
      exact zR
    ·rw[if_neg hk4] at hT1
     have hb4:(kd == 4)=false:=by simpa using hk4
     clear hk4
     subst hT1
     repeat' (first|(refine zF fun K hK=>?_)|(refine zA fun K hK=>?_;simp (disch:=omega) [go_sem, *,Tryz.ntmps74])|(refine z6 mixed (by kernel_rfl) fun K hK=>?_;simp (disch:=omega) [go_sem, *])|(apply zC.out hK;clear hK K;try with_reducible dsimp only[zG])|(apply zC.out hf;clear ht hf Kt Kf)|(refine zJ ?_)|(refine zL ?_;simp only[zG,zN])|(refine zH fun Kt Kf ht hf=>?_;simp (disch:=omega) [go_sem, *];try (refine⟨fun hc=>?_,fun hc=>?_⟩ <;> try (exfalso;omega))))
     exact zR
end Go.AM
namespace Go.AM
open Go.Proofs Cw Du
set_option maxRecDepth 10000
set_option maxHeartbeats 4000000
def ji (ls:List Lin) (l:List Ordr):Int:=if 60 < ls.length then 2 else if 30 < l.length then 2 else if ls.all ZQ then (if l.all Zz then 0 else 7) else 7
def smL (ls:List Lin):Prop:=∀x ∈ ls,QA x∧x.exc.length≤100000∧x.tower.size≤1000000∧x.person.size≤1000000∧x.other.size≤1000000
theorem check_spec (nlL fuL:Bool) (sL:Nat) (ls:List Lin) (hnlL:ls=[]∨nlL=false∧sL=8) (hsL:smL ls) (hlL:ls.length≤1000000) (nl fu:Bool) (s:Nat) (l:List Ordr) (hnl:l=[]∨nl=false∧s=7) (hw:wfO l) (hs:smO l) (hl:l.length≤1000000) :
  zK Tryz.prog 29 [.agg [.fslc nlL fuL sL (ls.map zX),.fslc nl fu s (l.map zp)]] (iv .i64 (ji ls l)):=by
 intro h n
 refine zQ.pure (zQ.entry (by kernel_rfl) fun hb _=>za Tryz.func29 rfl (by kernel_rfl) (by simp[Tryz.ntmps29]) ?_)
 obtain⟨T,hT⟩:∃T,zC (T=ji ls l):=⟨_,rfl⟩
 rw[←hT.out]
 replace hnl:zC _:=hnl
 replace hnlL:zC _:=hnlL
 replace hsL:zC _:=hsL
 replace hw:zC _:=hw
 replace hs:zC _:=hs
 by_cases h60:60 < ls.length
 ·have hT2:T=2:=by rw[hT.out,ji,if_pos h60]
  subst hT2
  repeat' (first|(refine zF fun K hK=>?_)|(refine zA fun K hK=>?_;simp (disch:=omega) [go_sem, *,zO,Tryz.ntmps29])|(apply zC.out hK;clear hK K;try with_reducible dsimp only[zG])|(apply zC.out ht;clear ht hf Kt Kf)|(refine zH fun Kt Kf ht hf=>?_;simp (disch:=omega) [go_sem, *];try (refine⟨fun hc=>?_,fun hc=>?_⟩ <;> try (exfalso;omega))))
  exact zR
 ·by_cases h30:30 < l.length
  ·have hT2:T=2:=by rw[hT.out,ji,if_neg h60,if_pos h30]
   subst hT2
   repeat' (first|(refine zF fun K hK=>?_)|(refine zA fun K hK=>?_;simp (disch:=omega) [go_sem, *,zO,zT,Tryz.ntmps29])|(apply zC.out hK;clear hK K;try with_reducible dsimp only[zG])|(apply zC.out ht;clear ht hf Kt Kf)|(refine zH fun Kt Kf ht hf=>?_;simp (disch:=omega) [go_sem, *];try (refine⟨fun hc=>?_,fun hc=>?_⟩ <;> try (exfalso;omega))))
   exact zR
  ·have hTL:T=if ls.all ZQ then (if l.all Zz then 0 else 7) else 7:=by rw[hT.out,ji,if_neg h60,if_neg h30]
   replace hTL:zC _:=hTL
   repeat' (first|(refine zF fun K hK=>?_)|(refine zA fun K hK=>?_;simp (disch:=omega) [go_sem, *,zT,Tryz.ntmps29])|(apply zC.out hK;clear hK K;try with_reducible dsimp only[zG])|(apply zC.out hf;clear ht hf Kt Kf)|(refine zJ ?_)|(refine zL ?_;simp only[zG])|(refine zH fun Kt Kf ht hf=>?_;simp (disch:=omega) [go_sem, *];try (refine⟨fun hc=>?_,fun hc=>?_⟩ <;> try (exfalso;omega))))
   refine z8 (fun s'=>∃(i n':Nat),n < n'∧i≤ls.length∧(∀j o,j < i→ls[j]? = some o→ZQ o=true)∧s'=⟨52,[(1,.ptr n 0),(18,.fslc nlL fuL sL (ls.map zX)),(19,iv .i64 ls.length),(20,iv .i64 i)],h.upd n (some (.cells [.fslc nlL fuL sL (ls.map zX),.fslc nl fu s (l.map zp)])),n'⟩)
    (fun s'=>ls.length - (ZL s' 20).toNat) ?_ ?_
   ·exact zS (by simp[go_sem]) (Sub.refl _) ⟨0,_,by omega,by omega,fun j o hj=>by omega,rfl⟩
   ·rintro s' ⟨i,n',hn',hi,hall,rfl⟩
    replace hall:zC _:=hall
    by_cases hlt:i < ls.length
    ·obtain⟨x,hx⟩:∃o,ls[i]=o:=⟨_,rfl⟩
     have hmem:x ∈ ls:=hx ▸ List.getElem_mem hlt
     have hne:ls≠[]:=fun e=>by rw[e] at hlt;simp at hlt
     obtain⟨rfl,rfl⟩:=hnlL.out.resolve_left hne
     obtain⟨q1,q2,q3,q4,q5⟩:=hsL.out _ hmem
     have k1:=line_spec x q1 q2 q3 q4 q5
     have hex:zX ls[i]=.agg [iv .i64 x.kind,sv x.tower,sv x.person,sv x.other,iv .i64 x.fr,iv .i64 x.to,iv .i64 x.ev,.fslc x.nl x.fu x.s (x.exc.map (iv .i64))]:=by rw[hx];rfl
     have hxs:ls[i]? = some x:=by rw[List.getElem?_eq_getElem hlt,hx]
     have hbad:ZQ x=false→T=7:=fun hq=>by
      rw[hTL.out,if_neg]
      intro e
      have:=List.all_eq_true.1 e _ hmem
      rw[hq] at this;cases this
     simp only[zX] at k1
     generalize hz:ZQ x=z at *
     replace hx:zC _:=hx
     replace hxs:zC _:=hxs
     replace hz:zC _:=hz
     clear hmem hne q1 q2 q3 q4 q5
     obtain⟨kd,tw,pe,ot,fr,to,ev,xnl,xfu,xs,exc⟩:=x
     simp only at k1 hex
     generalize List.map (iv .i64) exc=X at *
     cases z
     ·have hTf:=hbad rfl
      subst hTf
      clear hbad
      repeat' (first|(refine zF fun K hK=>?_)|(refine zA fun K hK=>?_;simp (disch:=omega) [go_sem, *,zO,zP])|(apply zC.out hK;clear hK K;try with_reducible dsimp only[zG])|(apply zC.out ht;clear ht hf Kt Kf)|(with_reducible refine zK.gcall (k1) ?_;try simp (disch:=omega) [go_sem, *])|(refine zJ ?_)|(refine zL ?_;simp only[zG])|(refine zH fun Kt Kf ht hf=>?_;simp (disch:=omega) [go_sem, *];try (refine⟨fun hc=>?_,fun hc=>?_⟩ <;> try (exfalso;omega))))
      exact zR
     ·clear hbad
      repeat' (first|(refine zF fun K hK=>?_)|(refine zA fun K hK=>?_;simp (disch:=omega) [go_sem, *,zM,zO,zP])|(apply zC.out hK;clear hK K;try with_reducible dsimp only[zG])|(apply zC.out ht;clear ht hf Kt Kf)|(apply zC.out hf;clear ht hf Kt Kf)|(with_reducible refine zK.gcall (k1) ?_;try simp (disch:=omega) [go_sem, *])|(refine zJ ?_)|(refine zL ?_;simp only[zG,zN])|(refine zH fun Kt Kf ht hf=>?_;simp (disch:=omega) [go_sem, *];try (refine⟨fun hc=>?_,fun hc=>?_⟩ <;> try (exfalso;omega))))
      exact zl (by simp (disch:=omega) [go_sem]) (by repeat (first | exact Sub.refl _ | refine Sub.upd ?_ (by rw[zB _ _ _ _ (by omega)];exact hb.none (by omega)) _)) ⟨i + 1,_,by omega,by omega,fun j y hj hy=>by
       rcases Nat.lt_or_ge j i with h1 | h1
       ·exact hall.out j y h1 hy
       ·have:j=i:=by omega
        subst this
        rw[hxs.out] at hy;cases hy;exact hz.out,rfl⟩ (by simp[ZL,go_sem];omega)
    ·have hall2:ls.all ZQ=true:=by
      rw[List.all_eq_true]
      intro o ho
      obtain⟨j,hj,e⟩:=List.getElem_of_mem ho
      exact hall.out j o (by omega) (by rw[List.getElem?_eq_getElem hj,e])
     have hTs:T=if l.all Zz then 0 else 7:=by rw[hTL.out,if_pos hall2]
     replace hTs:zC _:=hTs
     clear hall2 hall hTL
     repeat' (first|(refine zF fun K hK=>?_)|(refine zA fun K hK=>?_;simp (disch:=omega) [go_sem, *,zT])|(apply zC.out hK;clear hK K;try with_reducible dsimp only[zG])|(apply zC.out hf;clear ht hf Kt Kf)|(clear hK K;apply zC.out hK;clear hK K;try with_reducible dsimp only[zG])|(refine zJ ?_)|(refine zk ?_;simp only[zG,zN,if_true])|(refine zH fun Kt Kf ht hf=>?_;simp (disch:=omega) [go_sem, *];try (refine⟨fun hc=>?_,fun hc=>?_⟩ <;> try (exfalso;omega))))
     refine z8 (fun s'=>∃(i n2:Nat),n < n2∧i≤l.length∧(∀j o,j < i→l[j]? = some o→Zz o=true)∧s'=⟨52,[(1,.ptr n 0),(29,.fslc nl fu s (l.map zp)),(30,iv .i64 l.length),(31,iv .i64 i)],h.upd n (some (.cells [.fslc nlL fuL sL (ls.map zX),.fslc nl fu s (l.map zp)])),n2⟩)
      (fun s'=>l.length - (ZL s' 31).toNat) ?_ ?_
     ·exact zS (by simp[go_sem]) (Sub.refl _) ⟨0,_,by omega,by omega,fun j o hj=>by omega,rfl⟩
     ·rintro s' ⟨i,n2,hn2,hi,hall,rfl⟩
      replace hall:zC _:=hall
      by_cases hlt:i < l.length
      ·obtain⟨⟨nm,rk,k,f,o,nn,nl2,fu2,s2,ks⟩,hx⟩:∃o,l[i]=o:=⟨_,rfl⟩
       have hmem:∀o,l[i]=o→o ∈ l:=fun o e=>e ▸ List.getElem_mem hlt
       have hne:l≠[]:=fun e=>by rw[e] at hlt;simp at hlt
       obtain⟨rfl,rfl⟩:=hnl.out.resolve_left hne
       have hwc:=hw.out _ (hmem _ hx)
       have hsc:=hs.out _ (hmem _ hx)
       have k1:=named83 nm hsc.2
       have k2:=jD rk 0 100
       have k3:=qB _ hwc hsc.1
       have hex:zp l[i]=.agg [sv nm,iv .i64 rk,iv .i64 k,iv .i64 f,iv .i64 o,iv .i64 nn,.fslc nl2 fu2 s2 (ZE ks)]:=by rw[hx];rfl
       have hxs:l[i]? = some ⟨nm,rk,.mk k f o nn nl2 fu2 s2 ks⟩:=by rw[List.getElem?_eq_getElem hlt,hx]
       have hbad:Zz ⟨nm,rk,.mk k f o nn nl2 fu2 s2 ks⟩=false→T=7:=fun hq=>by
        rw[hTs.out,if_neg]
        intro e
        have:=List.all_eq_true.1 e _ (hmem _ hx)
        rw[hq] at this;cases this
       have hok:Zz ⟨nm,rk,.mk k f o nn nl2 fu2 s2 ks⟩=(Zn nm && wi rk 0 100 && Cw.formed (.mk k f o nn nl2 fu2 s2 ks)):=rfl
       simp only[zn] at k3
       generalize Zn nm=x at *
       generalize wi rk 0 100=y at *
       generalize Cw.formed (.mk k f o nn nl2 fu2 s2 ks)=z at *
       replace hx:zC _:=hx
       replace hxs:zC _:=hxs
       clear hmem hne hwc hsc
       cases x
       ·have hTf:=hbad (by rw[hok];rfl)
        subst hTf
        clear hbad hok
        repeat' (first|(refine zF fun K hK=>?_)|(refine zA fun K hK=>?_;simp (disch:=omega) [go_sem, *,zO,zP])|(apply zC.out hK;clear hK K;try with_reducible dsimp only[zG])|(apply zC.out ht;clear ht hf Kt Kf)|(with_reducible refine zK.gcall (k1) ?_;try simp (disch:=omega) [go_sem, *])|(refine zJ ?_)|(refine zL ?_;simp only[zG])|(refine zH fun Kt Kf ht hf=>?_;simp (disch:=omega) [go_sem, *];try (refine⟨fun hc=>?_,fun hc=>?_⟩ <;> try (exfalso;omega))))
        exact zR
       ·cases y
        ·have hTf:=hbad (by rw[hok];rfl)
         subst hTf
         clear hbad hok
         repeat' (first|(refine zF fun K hK=>?_)|(refine zA fun K hK=>?_;simp (disch:=omega) [go_sem, *,zO,zP])|(apply zC.out hK;clear hK K;try with_reducible dsimp only[zG])|(apply zC.out ht;clear ht hf Kt Kf)|(with_reducible refine zK.gcall (k1) ?_;try simp (disch:=omega) [go_sem, *])|(with_reducible refine zK.gcall (k2) ?_;try simp (disch:=omega) [go_sem, *])|(refine zJ ?_)|(refine zL ?_;simp only[zG])|(refine zH fun Kt Kf ht hf=>?_;simp (disch:=omega) [go_sem, *];try (refine⟨fun hc=>?_,fun hc=>?_⟩ <;> try (exfalso;omega))))
         exact zR
        ·cases z
         ·have hTf:=hbad (by rw[hok];rfl)
          subst hTf
          clear hbad hok
          repeat' (first|(refine zF fun K hK=>?_)|(refine zA fun K hK=>?_;simp (disch:=omega) [go_sem, *,zO,zP])|(apply zC.out hK;clear hK K;try with_reducible dsimp only[zG])|(apply zC.out ht;clear ht hf Kt Kf)|(with_reducible refine zK.gcall (k1) ?_;try simp (disch:=omega) [go_sem, *])|(with_reducible refine zK.gcall (k2) ?_;try simp (disch:=omega) [go_sem, *])|(with_reducible refine zK.gcall (k3) ?_;try simp (disch:=omega) [go_sem, *])|(refine zJ ?_)|(refine zL ?_;simp only[zG])|(refine zH fun Kt Kf ht hf=>?_;simp (disch:=omega) [go_sem, *];try (refine⟨fun hc=>?_,fun hc=>?_⟩ <;> try (exfalso;omega))))
          exact zR
         ·have hok2:Zz ⟨nm,rk,.mk k f o nn nl2 fu2 s2 ks⟩=true:=by rw[hok];rfl
          replace hok2:zC _:=hok2
          clear hbad hok
          repeat' (first|(refine zF fun K hK=>?_)|(refine zA fun K hK=>?_;simp (disch:=omega) [go_sem, *,zM,zO,zP])|(apply zC.out hK;clear hK K;try with_reducible dsimp only[zG])|(apply zC.out ht;clear ht hf Kt Kf)|(apply zC.out hf;clear ht hf Kt Kf)|(with_reducible refine zK.gcall (k1) ?_;try simp (disch:=omega) [go_sem, *])|(with_reducible refine zK.gcall (k2) ?_;try simp (disch:=omega) [go_sem, *])|(with_reducible refine zK.gcall (k3) ?_;try simp (disch:=omega) [go_sem, *])|(refine zJ ?_)|(refine zL ?_;simp only[zG,zN])|(refine zH fun Kt Kf ht hf=>?_;simp (disch:=omega) [go_sem, *];try (refine⟨fun hc=>?_,fun hc=>?_⟩ <;> try (exfalso;omega))))
          exact zl (by simp (disch:=omega) [go_sem]) (by repeat (first | exact Sub.refl _ | refine Sub.upd ?_ (by rw[zB _ _ _ _ (by omega)];exact hb.none (by omega)) _)) ⟨i + 1,_,by omega,by omega,fun j y hj hy=>by
           rcases Nat.lt_or_ge j i with h1 | h1
           ·exact hall.out j y h1 hy
           ·have:j=i:=by omega
            subst this
            rw[hxs.out] at hy;cases hy;exact hok2.out,rfl⟩ (by simp[ZL,go_sem];omega)
      ·have hall2:l.all Zz=true:=by
        rw[List.all_eq_true]
        intro o ho
        obtain⟨j,hj,e⟩:=List.getElem_of_mem ho
        exact hall.out j o (by omega) (by rw[List.getElem?_eq_getElem hj,e])
       have hT0:T=0:=by rw[hTs.out,hall2];rfl
       subst hT0
       clear hall2
       repeat' (first|(refine zF fun K hK=>?_)|(refine zA fun K hK=>?_;simp (disch:=omega) [go_sem, *,zT])|(apply zC.out hK;clear hK K;try with_reducible dsimp only[zG])|(apply zC.out hf;clear ht hf Kt Kf)|(clear hK K;apply zC.out hK;clear hK K;try with_reducible dsimp only[zG])|(refine zk ?_;simp only[zG,zN,if_true])|(refine zH fun Kt Kf ht hf=>?_;simp (disch:=omega) [go_sem, *];try (refine⟨fun hc=>?_,fun hc=>?_⟩ <;> try (exfalso;omega))))
       exact zR
end Go.AM
