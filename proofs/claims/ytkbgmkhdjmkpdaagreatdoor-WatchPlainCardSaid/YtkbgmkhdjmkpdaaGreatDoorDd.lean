/- Lines: formed, by the program. Conditions: as each theorem says. -/
import Derived.Test.YtkbgmkhdjmkpdaaGreatDoorDa
import Derived.Test.YtkbgmkhdjmkpdaaGreatDoorEb
namespace Go.AM
open Go.Proofs Cw Du
set_option maxRecDepth 10000
set_option maxHeartbeats 4000000
def ascG:Int→List Int→Bool
 | _,[]=>true
 | p,x :: r=>wi x 0 400 && decide (p < x) && ascG x r
def Z6 (fr to ev:Int) (k:Nat):Bool:=decide (0≤fr) && decide (fr≤to) && decide (to≤400) && wi ev 1 400 && decide (k≤20)
def Jl (l:Lin):Bool:=Z6 l.fr l.to l.ev l.exc.length && ascG (-1) l.exc
def Jc (l:List Int):Nat→Int
 | 0=>-1
 | i + 1=>l.getD i 0
theorem days_spec (l:Lin) (hw:j9 l) (hl:l.exc.length≤100000):zL Tryz.prog 145 [zT l] (bv (Jl l)):=by
 intro h n
 have k1:=Zr l.ev 1 400
 have k2:=fun x=>Zr x 0 400
 refine zS.pure (zS.entry (by kernel_rfl) fun hb _=>zX Tryz.func145 rfl (by kernel_rfl) (by simp[Tryz.ntmps145]) ?_)
 obtain⟨T,hT⟩:∃T,zC (T=Jl l):=⟨_,rfl⟩
 rw[←hT.out]
 obtain⟨kd,tw,pe,ot,fr,to,ev,nl,fu,s,exc⟩:=l
 have hT1:T=(Z6 fr to ev exc.length && ascG (-1) exc):=hT.out
 replace hT:zC _:=trivial
 simp only at k1 hl
 simp only[zT]
 replace k2:zC _:=k2
 replace hw:zC _:=hw
 by_cases c1:0≤fr
 ·by_cases c2:fr≤to
  ·by_cases c3:to≤400
   ·cases c4:wi ev 1 400 with
    | true=>
     rw[c4] at k1
     by_cases c5:exc.length≤20
     ·have hs:Z6 fr to ev exc.length=true:=by simp[Z6,c1,c2,c3,c4,c5]
      rw[hs,Bool.true_and] at hT1
      replace hT1:zC _:=hT1
      clear hs c4
      repeat' (first|(refine zF fun K hK=>?_)|(refine zB fun K hK=>?_;simp (disch:=omega) [go_sem, *,zW,Tryz.ntmps145])|(apply zC.out hK;clear hK K;try with_reducible dsimp only[zD])|(apply zC.out hf;clear ht hf Kt Kf)|(with_reducible refine zL.gcall (k1) ?_;try simp (disch:=omega) [go_sem, *,zW])|(refine zJ ?_)|(refine zK ?_;simp only[zD])|(refine zH fun Kt Kf ht hf=>?_;simp (disch:=omega) [go_sem, *];try (refine⟨fun hc=>?_,fun hc=>?_⟩ <;> try (exfalso;omega))))
      refine za (fun s'=>∃(i n':Nat),n < n'∧i≤exc.length∧ascG (Jc exc i) (exc.drop i)=T∧s'=⟨58,[(1,.ptr n 0),(33,.fslc nl fu s (exc.map (iv .i64))),(34,iv .i64 exc.length),(35,iv .i64 i)],h.upd n (some (.cells [iv .i64 kd,sv tw,sv pe,sv ot,iv .i64 fr,iv .i64 to,iv .i64 ev,.fslc nl fu s (exc.map (iv .i64))])),n'⟩)
       (fun s'=>exc.length - (zf s' 35).toNat) ?_ ?_
      ·exact zb (by simp[go_sem]) (Sub.refl _) ⟨0,_,by omega,by omega,hT1.out.symm,rfl⟩
      ·rintro s' ⟨i,n',hn',hi,hc,rfl⟩
       by_cases hlt:i < exc.length
       ·obtain⟨x,hx⟩:∃x,exc[i]=x:=⟨_,rfl⟩
        have hne:exc≠[]:=fun e=>by rw[e] at hlt;simp at hlt
        obtain⟨rfl,rfl⟩:=hw.out.resolve_left hne
        have hdr:exc.drop i=x :: exc.drop (i + 1):=by rw[List.drop_eq_getElem_cons hlt,hx]
        rw[hdr,ascG] at hc
        have hp1:Jc exc (i + 1)=x:=by simp[Jc,hlt,hx]
        have k3:=k2.out x
        clear hdr hne k1
        cases c6:wi x 0 400 with
        | false=>
         rw[c6] at hc k3
         simp only[Bool.false_and] at hc
         subst hc
         replace hp1:zC _:=trivial
         replace c6:zC _:=trivial
         repeat' (first|(refine zF fun K hK=>?_)|(refine zB fun K hK=>?_;simp (disch:=omega) [go_sem, *,zQ,zP])|(apply zC.out hK;clear hK K;try with_reducible dsimp only[zD])|(apply zC.out ht;clear ht hf Kt Kf)|(with_reducible refine zL.gcall (k3) ?_;try simp (disch:=omega) [go_sem, *])|(refine zJ ?_)|(refine zK ?_;simp only[zD])|(refine zH fun Kt Kf ht hf=>?_;simp (disch:=omega) [go_sem, *];try (refine⟨fun hc=>?_,fun hc=>?_⟩ <;> try (exfalso;omega))))
         exact zR
        | true=>
         rw[c6] at hc k3
         simp only[Bool.true_and] at hc
         have c6:0≤x:=by simp only[wi,Bool.and_eq_true,decide_eq_true_eq] at c6;omega
         cases i with
         | zero=>
          have hlt0:decide (Jc exc 0 < x)=true:=by
           have e0:Jc exc 0=-1:=rfl
           rw[e0,decide_eq_true_eq];omega
          rw[hlt0,Bool.true_and] at hc
          replace hc:zC _:=hc
          replace hp1:zC _:=hp1
          clear hlt0
          repeat' (first|(refine zF fun K hK=>?_)|(refine zB fun K hK=>?_;simp (disch:=omega) [go_sem, *,zN])|(apply zC.out hK;clear hK K;try with_reducible dsimp only[zD])|(apply zC.out ht;clear ht hf Kt Kf)|(apply zC.out hf;clear ht hf Kt Kf)|(with_reducible refine zL.gcall (k3) ?_;try simp (disch:=omega) [go_sem, *])|(refine zJ ?_)|(refine zK ?_;simp only[zD,zO])|(refine zH fun Kt Kf ht hf=>?_;simp (disch:=omega) [go_sem, *];try (refine⟨fun hc=>?_,fun hc=>?_⟩ <;> try (exfalso;omega))))
          exact zV (by simp (disch:=omega) [go_sem]) (Sub.refl _) ⟨0 + 1,_,by omega,by omega,by rw[hp1.out];exact hc.out,rfl⟩ (by simp[zf,go_sem];omega)
         | succ k=>
          obtain⟨y,hy⟩:∃y,exc[k]=y:=⟨_,rfl⟩
          have hpk:Jc exc (k + 1)=y:=by simp[Jc,show k < exc.length by omega,hy]
          have e1:(((k + 1:Nat):Int) - 1)=(k:Int):=by omega
          have e2:((k:Int)).toNat=k:=by omega
          have hlk:k < exc.length:=by omega
          rw[hpk] at hc
          clear hpk
          by_cases c7:y < x
          ·rw[decide_eq_true c7,Bool.true_and] at hc
           replace hc:zC _:=hc
           replace hp1:zC _:=hp1
           repeat' (first|(refine zF fun K hK=>?_)|(refine zB fun K hK=>?_;simp (disch:=omega) [go_sem, *,zN,zQ,zP])|(apply zC.out hK;clear hK K;try with_reducible dsimp only[zD])|(apply zC.out ht;clear ht hf Kt Kf)|(apply zC.out hf;clear ht hf Kt Kf)|(with_reducible refine zL.gcall (k3) ?_;try simp (disch:=omega) [go_sem, *,zN,zQ,zP,zk])|(refine zJ ?_)|(refine zK ?_;simp only[zD,zO])|(refine zH fun Kt Kf ht hf=>?_;simp (disch:=omega) [go_sem, *];try (refine⟨fun hc=>?_,fun hc=>?_⟩ <;> try (exfalso;omega))))
           exact zV (by simp (disch:=omega) [go_sem]) (Sub.refl _) ⟨k + 1 + 1,_,by omega,by omega,by rw[hp1.out];exact hc.out,rfl⟩ (by simp[zf,go_sem];omega)
          ·rw[decide_eq_false c7,Bool.false_and] at hc
           subst hc
           replace hp1:zC _:=hp1
           repeat' (first|(refine zF fun K hK=>?_)|(refine zB fun K hK=>?_;simp (disch:=omega) [go_sem, *,zQ,zP])|(apply zC.out hK;clear hK K;try with_reducible dsimp only[zD])|(apply zC.out ht;clear ht hf Kt Kf)|(with_reducible refine zL.gcall (k3) ?_;try simp (disch:=omega) [go_sem, *,zN,zQ,zP])|(refine zJ ?_)|(refine zK ?_;simp only[zD])|(refine zH fun Kt Kf ht hf=>?_;simp (disch:=omega) [go_sem, *];try (refine⟨fun hc=>?_,fun hc=>?_⟩ <;> try (exfalso;omega))))
           exact zR
       ·have hii:i=exc.length:=by omega
        subst hii
        rw[List.drop_length,ascG] at hc
        subst hc
        repeat' (first|(refine zF fun K hK=>?_)|(refine zB fun K hK=>?_;simp (disch:=omega) [go_sem, *])|(apply zC.out hK;clear hK K;try with_reducible dsimp only[zD])|(apply zC.out hf;clear ht hf Kt Kf)|(clear hK K;apply zC.out hK;clear hK K;try with_reducible dsimp only[zD])|(refine zU ?_;simp only[zD,zO,if_true])|(refine zH fun Kt Kf ht hf=>?_;simp (disch:=omega) [go_sem, *];try (refine⟨fun hc=>?_,fun hc=>?_⟩ <;> try (exfalso;omega))))
        exact zR
     ·have hs:Z6 fr to ev exc.length=false:=by simp[Z6,c5]
      rw[hs,Bool.false_and] at hT1
      subst hT1
      clear hs c4
      repeat' (first|(refine zF fun K hK=>?_)|(refine zB fun K hK=>?_;simp (disch:=omega) [go_sem, *,zW,Tryz.ntmps145])|(apply zC.out hK;clear hK K;try with_reducible dsimp only[zD])|(apply zC.out ht;clear ht hf Kt Kf)|(with_reducible refine zL.gcall (k1) ?_;try simp (disch:=omega) [go_sem, *,zQ])|(refine zH fun Kt Kf ht hf=>?_;simp (disch:=omega) [go_sem, *];try (refine⟨fun hc=>?_,fun hc=>?_⟩ <;> try (exfalso;omega))))
      exact zR
    | false=>
     rw[c4] at k1
     have hs:Z6 fr to ev exc.length=false:=by simp[Z6,c4]
     rw[hs,Bool.false_and] at hT1
     subst hT1
     clear hs c4
     repeat' (first|(refine zF fun K hK=>?_)|(refine zB fun K hK=>?_;simp (disch:=omega) [go_sem, *,zW,Tryz.ntmps145])|(apply zC.out hK;clear hK K;try with_reducible dsimp only[zD])|(apply zC.out ht;clear ht hf Kt Kf)|(with_reducible refine zL.gcall (k1) ?_;try simp (disch:=omega) [go_sem, *])|(refine zH fun Kt Kf ht hf=>?_;simp (disch:=omega) [go_sem, *];try (refine⟨fun hc=>?_,fun hc=>?_⟩ <;> try (exfalso;omega))))
     exact zR
   ·have hs:Z6 fr to ev exc.length=false:=by simp[Z6,c3]
    rw[hs,Bool.false_and] at hT1
    subst hT1
    clear hs k1
    repeat' (first|(refine zF fun K hK=>?_)|(refine zB fun K hK=>?_;simp (disch:=omega) [go_sem, *,zQ,zW,Tryz.ntmps145])|(apply zC.out hK;clear hK K;try with_reducible dsimp only[zD])|(apply zC.out ht;clear ht hf Kt Kf)|(refine zH fun Kt Kf ht hf=>?_;simp (disch:=omega) [go_sem, *];try (refine⟨fun hc=>?_,fun hc=>?_⟩ <;> try (exfalso;omega))))
    exact zR
  ·have hs:Z6 fr to ev exc.length=false:=by simp[Z6,c2]
   rw[hs,Bool.false_and] at hT1
   subst hT1
   clear hs k1
   repeat' (first|(refine zF fun K hK=>?_)|(refine zB fun K hK=>?_;simp (disch:=omega) [go_sem, *,zQ,zW,Tryz.ntmps145])|(apply zC.out hK;clear hK K;try with_reducible dsimp only[zD])|(apply zC.out ht;clear ht hf Kt Kf)|(refine zH fun Kt Kf ht hf=>?_;simp (disch:=omega) [go_sem, *];try (refine⟨fun hc=>?_,fun hc=>?_⟩ <;> try (exfalso;omega))))
   exact zR
 ·have hs:Z6 fr to ev exc.length=false:=by simp[Z6,c1]
  rw[hs,Bool.false_and] at hT1
  subst hT1
  clear hs k1
  repeat' (first|(refine zF fun K hK=>?_)|(refine zB fun K hK=>?_;simp (disch:=omega) [go_sem, *,zQ,Tryz.ntmps145])|(apply zC.out hK;clear hK K;try with_reducible dsimp only[zD])|(apply zC.out ht;clear ht hf Kt Kf)|(refine zH fun Kt Kf ht hf=>?_;simp (disch:=omega) [go_sem, *];try (refine⟨fun hc=>?_,fun hc=>?_⟩ <;> try (exfalso;omega))))
  exact zR
end Go.AM
namespace Go.AM
open Go.Proofs Cw Du
set_option maxRecDepth 10000
set_option maxHeartbeats 4000000
def empB (s:ByteArray):Bool:=s.toList.isEmpty
def Zz (l:Lin):Bool:=
 if l.kind=1 then ZX l.tower && ZX l.person && empB l.other && Jl l
 else if l.kind=2 then empB l.tower && ZX l.person && empB l.other && Jl l
 else if l.kind=3 then ZX l.tower && empB l.person && empB l.other && Jl l
 else if l.kind=4 then empB l.tower && ZX l.person && ZX l.other && !eqB l.person l.other && Jl l
 else false
theorem line_spec (l:Lin) (hw:j9 l) (hl:l.exc.length≤100000) (h1:l.tower.size≤1000000) (h2:l.person.size≤1000000) (h3:l.other.size≤1000000):zL Tryz.prog 92 [zT l] (bv (Zz l)):=by
 intro h n
 have k1:=named83 l.tower h1
 have k2:=named83 l.person h2
 have k3:=named83 l.other h3
 have k4:=days_spec l hw hl
 refine zS.pure (zS.entry (by kernel_rfl) fun hb _=>zX Tryz.func92 rfl (by kernel_rfl) (by simp[Tryz.ntmps92]) ?_)
 obtain⟨T,hT⟩:∃T,zC (T=Zz l):=⟨_,rfl⟩
 rw[←hT.out]
 have hT1:=hT.out
 replace hT:zC _:=trivial
 unfold Zz at hT1
 generalize Jl l=dy at *
 obtain⟨kd,tw,pe,ot,fr,to,ev,nl,fu,s,exc⟩:=l
 simp only[empB,eqB,zT] at *
 clear h1 h2 h3 hw hl
 generalize ZX tw=a at *
 generalize ZX pe=b at *
 generalize ZX ot=c at *
 generalize te:tw.toList.isEmpty=x at *
 generalize pt:pe.toList.isEmpty=y at *
 generalize oe:ot.toList.isEmpty=z at *
 generalize pq:(pe.toList == ot.toList)=q at *
 generalize List.map (iv .i64) exc=L at *
 by_cases hk1:kd=1
 ·subst hk1
  cases a with
  | true=>
   cases b with
   | true=>
    cases z with
    | true=>
     cases dy with
     | true=>
      simp at hT1
      subst hT1
      repeat' (first|(refine zF fun K hK=>?_)|(refine zB fun K hK=>?_;simp (disch:=omega) [go_sem, *,Tryz.ntmps92])|(refine zl mixed (by kernel_rfl) fun K hK=>?_;simp (disch:=omega) [go_sem, *])|(apply zC.out hK;clear hK K;try with_reducible dsimp only[zD])|(apply zC.out ht;clear ht hf Kt Kf)|(with_reducible refine zL.gcall (k1) ?_;try simp (disch:=omega) [go_sem, *])|(with_reducible refine zL.gcall (k2) ?_;try simp (disch:=omega) [go_sem, *])|(with_reducible refine zL.gcall (k4) ?_;try simp (disch:=omega) [go_sem, *])|(refine zJ ?_)|(refine zH fun Kt Kf ht hf=>?_;simp (disch:=omega) [go_sem, *];try (refine⟨fun hc=>?_,fun hc=>?_⟩ <;> try (exfalso;omega))))
      exact zR
     | false=>
      simp at hT1
      subst hT1
      repeat' (first|(refine zF fun K hK=>?_)|(refine zB fun K hK=>?_;simp (disch:=omega) [go_sem, *,Tryz.ntmps92])|(refine zl mixed (by kernel_rfl) fun K hK=>?_;simp (disch:=omega) [go_sem, *])|(apply zC.out hK;clear hK K;try with_reducible dsimp only[zD])|(apply zC.out ht;clear ht hf Kt Kf)|(with_reducible refine zL.gcall (k1) ?_;try simp (disch:=omega) [go_sem, *])|(with_reducible refine zL.gcall (k2) ?_;try simp (disch:=omega) [go_sem, *])|(with_reducible refine zL.gcall (k4) ?_;try simp (disch:=omega) [go_sem, *])|(refine zJ ?_)|(refine zH fun Kt Kf ht hf=>?_;simp (disch:=omega) [go_sem, *];try (refine⟨fun hc=>?_,fun hc=>?_⟩ <;> try (exfalso;omega))))
      exact zR
    | false=>
     simp at hT1
     subst hT1
     repeat' (first|(refine zF fun K hK=>?_)|(refine zB fun K hK=>?_;simp (disch:=omega) [go_sem, *,Tryz.ntmps92])|(refine zl mixed (by kernel_rfl) fun K hK=>?_;simp (disch:=omega) [go_sem, *])|(apply zC.out hK;clear hK K;try with_reducible dsimp only[zD])|(apply zC.out ht;clear ht hf Kt Kf)|(with_reducible refine zL.gcall (k1) ?_;try simp (disch:=omega) [go_sem, *])|(with_reducible refine zL.gcall (k2) ?_;try simp (disch:=omega) [go_sem, *])|(refine zJ ?_)|(refine zH fun Kt Kf ht hf=>?_;simp (disch:=omega) [go_sem, *];try (refine⟨fun hc=>?_,fun hc=>?_⟩ <;> try (exfalso;omega))))
     exact zR
   | false=>
    simp at hT1
    subst hT1
    repeat' (first|(refine zF fun K hK=>?_)|(refine zB fun K hK=>?_;simp (disch:=omega) [go_sem, *,Tryz.ntmps92])|(refine zl mixed (by kernel_rfl) fun K hK=>?_;simp (disch:=omega) [go_sem, *])|(apply zC.out hK;clear hK K;try with_reducible dsimp only[zD])|(apply zC.out ht;clear ht hf Kt Kf)|(with_reducible refine zL.gcall (k1) ?_;try simp (disch:=omega) [go_sem, *])|(with_reducible refine zL.gcall (k2) ?_;try simp (disch:=omega) [go_sem, *])|(refine zJ ?_)|(refine zH fun Kt Kf ht hf=>?_;simp (disch:=omega) [go_sem, *];try (refine⟨fun hc=>?_,fun hc=>?_⟩ <;> try (exfalso;omega))))
    exact zR
  | false=>
   simp at hT1
   subst hT1
   repeat' (first|(refine zF fun K hK=>?_)|(refine zB fun K hK=>?_;simp (disch:=omega) [go_sem, *,Tryz.ntmps92])|(refine zl mixed (by kernel_rfl) fun K hK=>?_;simp (disch:=omega) [go_sem, *])|(apply zC.out hK;clear hK K;try with_reducible dsimp only[zD])|(apply zC.out ht;clear ht hf Kt Kf)|(with_reducible refine zL.gcall (k1) ?_;try simp (disch:=omega) [go_sem, *])|(refine zJ ?_)|(refine zH fun Kt Kf ht hf=>?_;simp (disch:=omega) [go_sem, *];try (refine⟨fun hc=>?_,fun hc=>?_⟩ <;> try (exfalso;omega))))
   exact zR
 ·rw[if_neg hk1] at hT1
  have hb1:(kd == 1)=false:=by simpa using hk1
  clear hk1
  by_cases hk2:kd=2
  ·subst hk2
   cases x with
   | true=>
    cases b with
    | true=>
     cases z with
     | true=>
      cases dy with
      | true=>
       simp at hT1
       subst hT1
       repeat' (first|(refine zF fun K hK=>?_)|(refine zB fun K hK=>?_;simp (disch:=omega) [go_sem, *,Tryz.ntmps92])|(refine zl mixed (by kernel_rfl) fun K hK=>?_;simp (disch:=omega) [go_sem, *])|(apply zC.out hK;clear hK K;try with_reducible dsimp only[zD])|(apply zC.out ht;clear ht hf Kt Kf)|(apply zC.out hf;clear ht hf Kt Kf)|(with_reducible refine zL.gcall (k2) ?_;try simp (disch:=omega) [go_sem, *])|(with_reducible refine zL.gcall (k4) ?_;try simp (disch:=omega) [go_sem, *])|(refine zJ ?_)|(refine zH fun Kt Kf ht hf=>?_;simp (disch:=omega) [go_sem, *];try (refine⟨fun hc=>?_,fun hc=>?_⟩ <;> try (exfalso;omega))))
       exact zR
      | false=>
       simp at hT1
       subst hT1
       repeat' (first|(refine zF fun K hK=>?_)|(refine zB fun K hK=>?_;simp (disch:=omega) [go_sem, *,Tryz.ntmps92])|(refine zl mixed (by kernel_rfl) fun K hK=>?_;simp (disch:=omega) [go_sem, *])|(apply zC.out hK;clear hK K;try with_reducible dsimp only[zD])|(apply zC.out ht;clear ht hf Kt Kf)|(apply zC.out hf;clear ht hf Kt Kf)|(with_reducible refine zL.gcall (k2) ?_;try simp (disch:=omega) [go_sem, *])|(with_reducible refine zL.gcall (k4) ?_;try simp (disch:=omega) [go_sem, *])|(refine zJ ?_)|(refine zH fun Kt Kf ht hf=>?_;simp (disch:=omega) [go_sem, *];try (refine⟨fun hc=>?_,fun hc=>?_⟩ <;> try (exfalso;omega))))
       exact zR
     | false=>
      simp at hT1
      subst hT1
      repeat' (first|(refine zF fun K hK=>?_)|(refine zB fun K hK=>?_;simp (disch:=omega) [go_sem, *,Tryz.ntmps92])|(refine zl mixed (by kernel_rfl) fun K hK=>?_;simp (disch:=omega) [go_sem, *])|(apply zC.out hK;clear hK K;try with_reducible dsimp only[zD])|(apply zC.out ht;clear ht hf Kt Kf)|(apply zC.out hf;clear ht hf Kt Kf)|(with_reducible refine zL.gcall (k2) ?_;try simp (disch:=omega) [go_sem, *])|(refine zJ ?_)|(refine zH fun Kt Kf ht hf=>?_;simp (disch:=omega) [go_sem, *];try (refine⟨fun hc=>?_,fun hc=>?_⟩ <;> try (exfalso;omega))))
      exact zR
    | false=>
     simp at hT1
     subst hT1
     repeat' (first|(refine zF fun K hK=>?_)|(refine zB fun K hK=>?_;simp (disch:=omega) [go_sem, *,Tryz.ntmps92])|(refine zl mixed (by kernel_rfl) fun K hK=>?_;simp (disch:=omega) [go_sem, *])|(apply zC.out hK;clear hK K;try with_reducible dsimp only[zD])|(apply zC.out ht;clear ht hf Kt Kf)|(apply zC.out hf;clear ht hf Kt Kf)|(with_reducible refine zL.gcall (k2) ?_;try simp (disch:=omega) [go_sem, *])|(refine zJ ?_)|(refine zH fun Kt Kf ht hf=>?_;simp (disch:=omega) [go_sem, *];try (refine⟨fun hc=>?_,fun hc=>?_⟩ <;> try (exfalso;omega))))
     exact zR
   | false=>
    simp at hT1
    subst hT1
    repeat' (first|(refine zF fun K hK=>?_)|(refine zB fun K hK=>?_;simp (disch:=omega) [go_sem, *,Tryz.ntmps92])|(refine zl mixed (by kernel_rfl) fun K hK=>?_;simp (disch:=omega) [go_sem, *])|(apply zC.out hK;clear hK K;try with_reducible dsimp only[zD])|(apply zC.out ht;clear ht hf Kt Kf)|(apply zC.out hf;clear ht hf Kt Kf)|(refine zJ ?_)|(refine zH fun Kt Kf ht hf=>?_;simp (disch:=omega) [go_sem, *];try (refine⟨fun hc=>?_,fun hc=>?_⟩ <;> try (exfalso;omega))))
    exact zR
  ·rw[if_neg hk2] at hT1
   have hb2:(kd == 2)=false:=by simpa using hk2
   clear hk2
   by_cases hk3:kd=3
   ·subst hk3
    cases a with
    | true=>
     cases y with
     | true=>
      cases z with
      | true=>
       cases dy with
       | true=>
        simp at hT1
        subst hT1
        repeat' (first|(refine zF fun K hK=>?_)|(refine zB fun K hK=>?_;simp (disch:=omega) [go_sem, *,Tryz.ntmps92])|(refine zl mixed (by kernel_rfl) fun K hK=>?_;simp (disch:=omega) [go_sem, *])|(apply zC.out hK;clear hK K;try with_reducible dsimp only[zD])|(apply zC.out ht;clear ht hf Kt Kf)|(apply zC.out hf;clear ht hf Kt Kf)|(with_reducible refine zL.gcall (k1) ?_;try simp (disch:=omega) [go_sem, *])|(with_reducible refine zL.gcall (k4) ?_;try simp (disch:=omega) [go_sem, *])|(refine zJ ?_)|(refine zH fun Kt Kf ht hf=>?_;simp (disch:=omega) [go_sem, *];try (refine⟨fun hc=>?_,fun hc=>?_⟩ <;> try (exfalso;omega))))
        exact zR
       | false=>
        simp at hT1
        subst hT1
        repeat' (first|(refine zF fun K hK=>?_)|(refine zB fun K hK=>?_;simp (disch:=omega) [go_sem, *,Tryz.ntmps92])|(refine zl mixed (by kernel_rfl) fun K hK=>?_;simp (disch:=omega) [go_sem, *])|(apply zC.out hK;clear hK K;try with_reducible dsimp only[zD])|(apply zC.out ht;clear ht hf Kt Kf)|(apply zC.out hf;clear ht hf Kt Kf)|(with_reducible refine zL.gcall (k1) ?_;try simp (disch:=omega) [go_sem, *])|(with_reducible refine zL.gcall (k4) ?_;try simp (disch:=omega) [go_sem, *])|(refine zJ ?_)|(refine zH fun Kt Kf ht hf=>?_;simp (disch:=omega) [go_sem, *];try (refine⟨fun hc=>?_,fun hc=>?_⟩ <;> try (exfalso;omega))))
        exact zR
      | false=>
       simp at hT1
       subst hT1
       repeat' (first|(refine zF fun K hK=>?_)|(refine zB fun K hK=>?_;simp (disch:=omega) [go_sem, *,Tryz.ntmps92])|(refine zl mixed (by kernel_rfl) fun K hK=>?_;simp (disch:=omega) [go_sem, *])|(apply zC.out hK;clear hK K;try with_reducible dsimp only[zD])|(apply zC.out ht;clear ht hf Kt Kf)|(apply zC.out hf;clear ht hf Kt Kf)|(with_reducible refine zL.gcall (k1) ?_;try simp (disch:=omega) [go_sem, *])|(refine zJ ?_)|(refine zH fun Kt Kf ht hf=>?_;simp (disch:=omega) [go_sem, *];try (refine⟨fun hc=>?_,fun hc=>?_⟩ <;> try (exfalso;omega))))
       exact zR
     | false=>
      simp at hT1
      subst hT1
      repeat' (first|(refine zF fun K hK=>?_)|(refine zB fun K hK=>?_;simp (disch:=omega) [go_sem, *,Tryz.ntmps92])|(refine zl mixed (by kernel_rfl) fun K hK=>?_;simp (disch:=omega) [go_sem, *])|(apply zC.out hK;clear hK K;try with_reducible dsimp only[zD])|(apply zC.out ht;clear ht hf Kt Kf)|(apply zC.out hf;clear ht hf Kt Kf)|(with_reducible refine zL.gcall (k1) ?_;try simp (disch:=omega) [go_sem, *])|(refine zJ ?_)|(refine zH fun Kt Kf ht hf=>?_;simp (disch:=omega) [go_sem, *];try (refine⟨fun hc=>?_,fun hc=>?_⟩ <;> try (exfalso;omega))))
      exact zR
    | false=>
     simp at hT1
     subst hT1
     repeat' (first|(refine zF fun K hK=>?_)|(refine zB fun K hK=>?_;simp (disch:=omega) [go_sem, *,Tryz.ntmps92])|(refine zl mixed (by kernel_rfl) fun K hK=>?_;simp (disch:=omega) [go_sem, *])|(apply zC.out hK;clear hK K;try with_reducible dsimp only[zD])|(apply zC.out ht;clear ht hf Kt Kf)|(apply zC.out hf;clear ht hf Kt Kf)|(with_reducible refine zL.gcall (k1) ?_;try simp (disch:=omega) [go_sem, *])|(refine zJ ?_)|(refine zH fun Kt Kf ht hf=>?_;simp (disch:=omega) [go_sem, *];try (refine⟨fun hc=>?_,fun hc=>?_⟩ <;> try (exfalso;omega))))
     exact zR
   ·rw[if_neg hk3] at hT1
    have hb3:(kd == 3)=false:=by simpa using hk3
    clear hk3
    by_cases hk4:kd=4
    ·subst hk4
     cases x with
     | true=>
      cases b with
      | true=>
       cases c with
       | true=>
        cases q with
        | true=>
         simp at hT1
         subst hT1
         repeat' (first|(refine zF fun K hK=>?_)|(refine zB fun K hK=>?_;simp (disch:=omega) [go_sem, *,Tryz.ntmps92])|(refine zl mixed (by kernel_rfl) fun K hK=>?_;simp (disch:=omega) [go_sem, *])|(apply zC.out hK;clear hK K;try with_reducible dsimp only[zD])|(apply zC.out ht;clear ht hf Kt Kf)|(apply zC.out hf;clear ht hf Kt Kf)|(with_reducible refine zL.gcall (k2) ?_;try simp (disch:=omega) [go_sem, *])|(with_reducible refine zL.gcall (k3) ?_;try simp (disch:=omega) [go_sem, *])|(refine zJ ?_)|(refine zH fun Kt Kf ht hf=>?_;simp (disch:=omega) [go_sem, *];try (refine⟨fun hc=>?_,fun hc=>?_⟩ <;> try (exfalso;omega))))
         exact zR
        | false=>
         cases dy with
         | true=>
          simp at hT1
          subst hT1
          repeat' (first|(refine zF fun K hK=>?_)|(refine zB fun K hK=>?_;simp (disch:=omega) [go_sem, *,Tryz.ntmps92])|(refine zl mixed (by kernel_rfl) fun K hK=>?_;simp (disch:=omega) [go_sem, *])|(apply zC.out hK;clear hK K;try with_reducible dsimp only[zD])|(apply zC.out ht;clear ht hf Kt Kf)|(apply zC.out hf;clear ht hf Kt Kf)|(with_reducible refine zL.gcall (k2) ?_;try simp (disch:=omega) [go_sem, *])|(with_reducible refine zL.gcall (k3) ?_;try simp (disch:=omega) [go_sem, *])|(with_reducible refine zL.gcall (k4) ?_;try simp (disch:=omega) [go_sem, *])|(refine zJ ?_)|(refine zH fun Kt Kf ht hf=>?_;simp (disch:=omega) [go_sem, *];try (refine⟨fun hc=>?_,fun hc=>?_⟩ <;> try (exfalso;omega))))
          exact zR
         | false=>
          simp at hT1
          subst hT1
          repeat' (first|(refine zF fun K hK=>?_)|(refine zB fun K hK=>?_;simp (disch:=omega) [go_sem, *,Tryz.ntmps92])|(refine zl mixed (by kernel_rfl) fun K hK=>?_;simp (disch:=omega) [go_sem, *])|(apply zC.out hK;clear hK K;try with_reducible dsimp only[zD])|(apply zC.out ht;clear ht hf Kt Kf)|(apply zC.out hf;clear ht hf Kt Kf)|(with_reducible refine zL.gcall (k2) ?_;try simp (disch:=omega) [go_sem, *])|(with_reducible refine zL.gcall (k3) ?_;try simp (disch:=omega) [go_sem, *])|(with_reducible refine zL.gcall (k4) ?_;try simp (disch:=omega) [go_sem, *])|(refine zJ ?_)|(refine zH fun Kt Kf ht hf=>?_;simp (disch:=omega) [go_sem, *];try (refine⟨fun hc=>?_,fun hc=>?_⟩ <;> try (exfalso;omega))))
          exact zR
       | false=>
        simp at hT1
        subst hT1
        repeat' (first|(refine zF fun K hK=>?_)|(refine zB fun K hK=>?_;simp (disch:=omega) [go_sem, *,Tryz.ntmps92])|(refine zl mixed (by kernel_rfl) fun K hK=>?_;simp (disch:=omega) [go_sem, *])|(apply zC.out hK;clear hK K;try with_reducible dsimp only[zD])|(apply zC.out ht;clear ht hf Kt Kf)|(apply zC.out hf;clear ht hf Kt Kf)|(with_reducible refine zL.gcall (k2) ?_;try simp (disch:=omega) [go_sem, *])|(with_reducible refine zL.gcall (k3) ?_;try simp (disch:=omega) [go_sem, *])|(refine zJ ?_)|(refine zH fun Kt Kf ht hf=>?_;simp (disch:=omega) [go_sem, *];try (refine⟨fun hc=>?_,fun hc=>?_⟩ <;> try (exfalso;omega))))
        exact zR
      | false=>
       simp at hT1
       subst hT1
       repeat' (first|(refine zF fun K hK=>?_)|(refine zB fun K hK=>?_;simp (disch:=omega) [go_sem, *,Tryz.ntmps92])|(refine zl mixed (by kernel_rfl) fun K hK=>?_;simp (disch:=omega) [go_sem, *])|(apply zC.out hK;clear hK K;try with_reducible dsimp only[zD])|(apply zC.out ht;clear ht hf Kt Kf)|(apply zC.out hf;clear ht hf Kt Kf)|(with_reducible refine zL.gcall (k2) ?_;try simp (disch:=omega) [go_sem, *])|(refine zJ ?_)|(refine zH fun Kt Kf ht hf=>?_;simp (disch:=omega) [go_sem, *];try (refine⟨fun hc=>?_,fun hc=>?_⟩ <;> try (exfalso;omega))))
       exact zR
     | false=>
      simp at hT1
      subst hT1
      repeat' (first|(refine zF fun K hK=>?_)|(refine zB fun K hK=>?_;simp (disch:=omega) [go_sem, *,Tryz.ntmps92])|(refine zl mixed (by kernel_rfl) fun K hK=>?_;simp (disch:=omega) [go_sem, *])|(apply zC.out hK;clear hK K;try with_reducible dsimp only[zD])|(apply zC.out ht;clear ht hf Kt Kf)|(apply zC.out hf;clear ht hf Kt Kf)|(refine zJ ?_)|(refine zH fun Kt Kf ht hf=>?_;simp (disch:=omega) [go_sem, *];try (refine⟨fun hc=>?_,fun hc=>?_⟩ <;> try (exfalso;omega))))
      exact zR
    ·rw[if_neg hk4] at hT1
     have hb4:(kd == 4)=false:=by simpa using hk4
     clear hk4
     subst hT1
     repeat' (first|(refine zF fun K hK=>?_)|(refine zB fun K hK=>?_;simp (disch:=omega) [go_sem, *,Tryz.ntmps92])|(refine zl mixed (by kernel_rfl) fun K hK=>?_;simp (disch:=omega) [go_sem, *])|(apply zC.out hK;clear hK K;try with_reducible dsimp only[zD])|(apply zC.out hf;clear ht hf Kt Kf)|(refine zJ ?_)|(refine zK ?_;simp only[zD,zO])|(refine zH fun Kt Kf ht hf=>?_;simp (disch:=omega) [go_sem, *];try (refine⟨fun hc=>?_,fun hc=>?_⟩ <;> try (exfalso;omega))))
     exact zR
end Go.AM
