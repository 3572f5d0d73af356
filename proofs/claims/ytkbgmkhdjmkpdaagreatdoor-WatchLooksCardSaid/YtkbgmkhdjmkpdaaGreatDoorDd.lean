/- Lines: formed, by the program. Conditions: as each theorem says. -/
import Derived.Test.YtkbgmkhdjmkpdaaGreatDoorDa
import Derived.Test.YtkbgmkhdjmkpdaaGreatDoorEb
namespace Go.AM
open Go.Proofs Cw Du
set_option maxRecDepth 10000
set_option maxHeartbeats 4000000
def ascG:Int→List Int→Bool
 | _,[]=>true
 | p,x :: r=>wi x 0 400 && decide (p < x) && ascG x r
def Z9 (fr to ev:Int) (k:Nat):Bool:=decide (0≤fr) && decide (fr≤to) && decide (to≤400) && wi ev 1 400 && decide (k≤20)
def Jg (l:Lin):Bool:=Z9 l.fr l.to l.ev l.exc.length && ascG (-1) l.exc
def JZ (l:List Int):Nat→Int
 | 0=>-1
 | i + 1=>l.getD i 0
theorem days_spec (l:Lin) (hw:Qe l) (hl:l.exc.length≤100000):zJ Tryz.prog 145 [zg l] (bv (Jg l)):=by
 intro h n
 have k1:=Zj l.ev 1 400
 have k2:=fun x=>Zj x 0 400
 refine zQ.pure (zQ.entry (by kernel_rfl) fun hb _=>zV Tryz.func145 rfl (by kernel_rfl) (by simp[Tryz.ntmps145]) ?_)
 obtain⟨T,hT⟩:∃T,zB (T=Jg l):=⟨_,rfl⟩
 rw[←hT.out]
 obtain⟨kd,tw,pe,ot,fr,to,ev,nl,fu,s,exc⟩:=l
 have hT1:T=(Z9 fr to ev exc.length && ascG (-1) exc):=hT.out
 replace hT:zB _:=trivial
 simp only at k1 hl
 simp only[zg]
 replace k2:zB _:=k2
 replace hw:zB _:=hw
 by_cases c1:0≤fr
 ·by_cases c2:fr≤to
  ·by_cases c3:to≤400
   ·cases c4:wi ev 1 400 with
    | true=>
     rw[c4] at k1
     by_cases c5:exc.length≤20
     ·have hs:Z9 fr to ev exc.length=true:=by simp[Z9,c1,c2,c3,c4,c5]
      rw[hs,Bool.true_and] at hT1
      replace hT1:zB _:=hT1
      clear hs c4
      repeat' (first|(refine zD fun K hK=>?_)|(refine zA fun K hK=>?_;simp (disch:=omega) [go_sem, *,zU,Tryz.ntmps145])|(apply zB.out hK;clear hK K;try with_reducible dsimp only[zC])|(apply zB.out hf;clear ht hf Kt Kf)|(with_reducible refine zJ.gcall (k1) ?_;try simp (disch:=omega) [go_sem, *,zU])|(refine zI ?_)|(refine zK ?_;simp only[zC])|(refine zF fun Kt Kf ht hf=>?_;simp (disch:=omega) [go_sem, *];try (refine⟨fun hc=>?_,fun hc=>?_⟩ <;> try (exfalso;omega))))
      refine zW (fun s'=>∃(i n':Nat),n < n'∧i≤exc.length∧ascG (JZ exc i) (exc.drop i)=T∧s'=⟨58,[(1,.ptr n 0),(33,.fslc nl fu s (exc.map (iv .i64))),(34,iv .i64 exc.length),(35,iv .i64 i)],h.upd n (some (.cells [iv .i64 kd,sv tw,sv pe,sv ot,iv .i64 fr,iv .i64 to,iv .i64 ev,.fslc nl fu s (exc.map (iv .i64))])),n'⟩)
       (fun s'=>exc.length - (zY s' 35).toNat) ?_ ?_
      ·exact zX (by simp[go_sem]) (Sub.refl _) ⟨0,_,by omega,by omega,hT1.out.symm,rfl⟩
      ·rintro s' ⟨i,n',hn',hi,hc,rfl⟩
       by_cases hlt:i < exc.length
       ·obtain⟨x,hx⟩:∃x,exc[i]=x:=⟨_,rfl⟩
        have hne:exc≠[]:=fun e=>by rw[e] at hlt;simp at hlt
        obtain⟨rfl,rfl⟩:=hw.out.resolve_left hne
        have hdr:exc.drop i=x :: exc.drop (i + 1):=by rw[List.drop_eq_getElem_cons hlt,hx]
        rw[hdr,ascG] at hc
        have hp1:JZ exc (i + 1)=x:=by simp[JZ,hlt,hx]
        have k3:=k2.out x
        clear hdr hne k1
        cases c6:wi x 0 400 with
        | false=>
         rw[c6] at hc k3
         simp only[Bool.false_and] at hc
         subst hc
         replace hp1:zB _:=trivial
         replace c6:zB _:=trivial
         repeat' (first|(refine zD fun K hK=>?_)|(refine zA fun K hK=>?_;simp (disch:=omega) [go_sem, *,zN,zO])|(apply zB.out hK;clear hK K;try with_reducible dsimp only[zC])|(apply zB.out ht;clear ht hf Kt Kf)|(with_reducible refine zJ.gcall (k3) ?_;try simp (disch:=omega) [go_sem, *])|(refine zI ?_)|(refine zK ?_;simp only[zC])|(refine zF fun Kt Kf ht hf=>?_;simp (disch:=omega) [go_sem, *];try (refine⟨fun hc=>?_,fun hc=>?_⟩ <;> try (exfalso;omega))))
         exact zR
        | true=>
         rw[c6] at hc k3
         simp only[Bool.true_and] at hc
         have c6:0≤x:=by simp only[wi,Bool.and_eq_true,decide_eq_true_eq] at c6;omega
         cases i with
         | zero=>
          have hlt0:decide (JZ exc 0 < x)=true:=by
           have e0:JZ exc 0=-1:=rfl
           rw[e0,decide_eq_true_eq];omega
          rw[hlt0,Bool.true_and] at hc
          replace hc:zB _:=hc
          replace hp1:zB _:=hp1
          clear hlt0
          repeat' (first|(refine zD fun K hK=>?_)|(refine zA fun K hK=>?_;simp (disch:=omega) [go_sem, *,zM])|(apply zB.out hK;clear hK K;try with_reducible dsimp only[zC])|(apply zB.out ht;clear ht hf Kt Kf)|(apply zB.out hf;clear ht hf Kt Kf)|(with_reducible refine zJ.gcall (k3) ?_;try simp (disch:=omega) [go_sem, *])|(refine zI ?_)|(refine zK ?_;simp only[zC,zP])|(refine zF fun Kt Kf ht hf=>?_;simp (disch:=omega) [go_sem, *];try (refine⟨fun hc=>?_,fun hc=>?_⟩ <;> try (exfalso;omega))))
          exact zS (by simp (disch:=omega) [go_sem]) (Sub.refl _) ⟨0 + 1,_,by omega,by omega,by rw[hp1.out];exact hc.out,rfl⟩ (by simp[zY,go_sem];omega)
         | succ k=>
          obtain⟨y,hy⟩:∃y,exc[k]=y:=⟨_,rfl⟩
          have hpk:JZ exc (k + 1)=y:=by simp[JZ,show k < exc.length by omega,hy]
          have e1:(((k + 1:Nat):Int) - 1)=(k:Int):=by omega
          have e2:((k:Int)).toNat=k:=by omega
          have hlk:k < exc.length:=by omega
          rw[hpk] at hc
          clear hpk
          by_cases c7:y < x
          ·rw[decide_eq_true c7,Bool.true_and] at hc
           replace hc:zB _:=hc
           replace hp1:zB _:=hp1
           repeat' (first|(refine zD fun K hK=>?_)|(refine zA fun K hK=>?_;simp (disch:=omega) [go_sem, *,zM,zN,zO])|(apply zB.out hK;clear hK K;try with_reducible dsimp only[zC])|(apply zB.out ht;clear ht hf Kt Kf)|(apply zB.out hf;clear ht hf Kt Kf)|(with_reducible refine zJ.gcall (k3) ?_;try simp (disch:=omega) [go_sem, *,zM,zN,zO,ze])|(refine zI ?_)|(refine zK ?_;simp only[zC,zP])|(refine zF fun Kt Kf ht hf=>?_;simp (disch:=omega) [go_sem, *];try (refine⟨fun hc=>?_,fun hc=>?_⟩ <;> try (exfalso;omega))))
           exact zS (by simp (disch:=omega) [go_sem]) (Sub.refl _) ⟨k + 1 + 1,_,by omega,by omega,by rw[hp1.out];exact hc.out,rfl⟩ (by simp[zY,go_sem];omega)
          ·rw[decide_eq_false c7,Bool.false_and] at hc
           subst hc
           replace hp1:zB _:=hp1
           repeat' (first|(refine zD fun K hK=>?_)|(refine zA fun K hK=>?_;simp (disch:=omega) [go_sem, *,zN,zO])|(apply zB.out hK;clear hK K;try with_reducible dsimp only[zC])|(apply zB.out ht;clear ht hf Kt Kf)|(with_reducible refine zJ.gcall (k3) ?_;try simp (disch:=omega) [go_sem, *,zM,zN,zO])|(refine zI ?_)|(refine zK ?_;simp only[zC])|(refine zF fun Kt Kf ht hf=>?_;simp (disch:=omega) [go_sem, *];try (refine⟨fun hc=>?_,fun hc=>?_⟩ <;> try (exfalso;omega))))
           exact zR
       ·have hii:i=exc.length:=by omega
        subst hii
        rw[List.drop_length,ascG] at hc
        subst hc
        repeat' (first|(refine zD fun K hK=>?_)|(refine zA fun K hK=>?_;simp (disch:=omega) [go_sem, *])|(apply zB.out hK;clear hK K;try with_reducible dsimp only[zC])|(apply zB.out hf;clear ht hf Kt Kf)|(clear hK K;apply zB.out hK;clear hK K;try with_reducible dsimp only[zC])|(refine zT ?_;simp only[zC,zP,if_true])|(refine zF fun Kt Kf ht hf=>?_;simp (disch:=omega) [go_sem, *];try (refine⟨fun hc=>?_,fun hc=>?_⟩ <;> try (exfalso;omega))))
        exact zR
     ·have hs:Z9 fr to ev exc.length=false:=by simp[Z9,c5]
      rw[hs,Bool.false_and] at hT1
      subst hT1
      clear hs c4
      repeat' (first|(refine zD fun K hK=>?_)|(refine zA fun K hK=>?_;simp (disch:=omega) [go_sem, *,zU,Tryz.ntmps145])|(apply zB.out hK;clear hK K;try with_reducible dsimp only[zC])|(apply zB.out ht;clear ht hf Kt Kf)|(with_reducible refine zJ.gcall (k1) ?_;try simp (disch:=omega) [go_sem, *,zN])|(refine zF fun Kt Kf ht hf=>?_;simp (disch:=omega) [go_sem, *];try (refine⟨fun hc=>?_,fun hc=>?_⟩ <;> try (exfalso;omega))))
      exact zR
    | false=>
     rw[c4] at k1
     have hs:Z9 fr to ev exc.length=false:=by simp[Z9,c4]
     rw[hs,Bool.false_and] at hT1
     subst hT1
     clear hs c4
     repeat' (first|(refine zD fun K hK=>?_)|(refine zA fun K hK=>?_;simp (disch:=omega) [go_sem, *,zU,Tryz.ntmps145])|(apply zB.out hK;clear hK K;try with_reducible dsimp only[zC])|(apply zB.out ht;clear ht hf Kt Kf)|(with_reducible refine zJ.gcall (k1) ?_;try simp (disch:=omega) [go_sem, *])|(refine zF fun Kt Kf ht hf=>?_;simp (disch:=omega) [go_sem, *];try (refine⟨fun hc=>?_,fun hc=>?_⟩ <;> try (exfalso;omega))))
     exact zR
   ·have hs:Z9 fr to ev exc.length=false:=by simp[Z9,c3]
    rw[hs,Bool.false_and] at hT1
    subst hT1
    clear hs k1
    repeat' (first|(refine zD fun K hK=>?_)|(refine zA fun K hK=>?_;simp (disch:=omega) [go_sem, *,zN,zU,Tryz.ntmps145])|(apply zB.out hK;clear hK K;try with_reducible dsimp only[zC])|(apply zB.out ht;clear ht hf Kt Kf)|(refine zF fun Kt Kf ht hf=>?_;simp (disch:=omega) [go_sem, *];try (refine⟨fun hc=>?_,fun hc=>?_⟩ <;> try (exfalso;omega))))
    exact zR
  ·have hs:Z9 fr to ev exc.length=false:=by simp[Z9,c2]
   rw[hs,Bool.false_and] at hT1
   subst hT1
   clear hs k1
   repeat' (first|(refine zD fun K hK=>?_)|(refine zA fun K hK=>?_;simp (disch:=omega) [go_sem, *,zN,zU,Tryz.ntmps145])|(apply zB.out hK;clear hK K;try with_reducible dsimp only[zC])|(apply zB.out ht;clear ht hf Kt Kf)|(refine zF fun Kt Kf ht hf=>?_;simp (disch:=omega) [go_sem, *];try (refine⟨fun hc=>?_,fun hc=>?_⟩ <;> try (exfalso;omega))))
   exact zR
 ·have hs:Z9 fr to ev exc.length=false:=by simp[Z9,c1]
  rw[hs,Bool.false_and] at hT1
  subst hT1
  clear hs k1
  repeat' (first|(refine zD fun K hK=>?_)|(refine zA fun K hK=>?_;simp (disch:=omega) [go_sem, *,zN,Tryz.ntmps145])|(apply zB.out hK;clear hK K;try with_reducible dsimp only[zC])|(apply zB.out ht;clear ht hf Kt Kf)|(refine zF fun Kt Kf ht hf=>?_;simp (disch:=omega) [go_sem, *];try (refine⟨fun hc=>?_,fun hc=>?_⟩ <;> try (exfalso;omega))))
  exact zR
end Go.AM
namespace Go.AM
open Go.Proofs Cw Du
set_option maxRecDepth 10000
set_option maxHeartbeats 4000000
def empB (s:ByteArray):Bool:=s.toList.isEmpty
def Zl (l:Lin):Bool:=
 if l.kind=1 then z8 l.tower && z8 l.person && empB l.other && Jg l
 else if l.kind=2 then empB l.tower && z8 l.person && empB l.other && Jg l
 else if l.kind=3 then z8 l.tower && empB l.person && empB l.other && Jg l
 else if l.kind=4 then empB l.tower && z8 l.person && z8 l.other && !eqB l.person l.other && Jg l
 else false
theorem line_spec (l:Lin) (hw:Qe l) (hl:l.exc.length≤100000) (h1:l.tower.size≤1000000) (h2:l.person.size≤1000000) (h3:l.other.size≤1000000):zJ Tryz.prog 92 [zg l] (bv (Zl l)):=by
 intro h n
 have k1:=named83 l.tower h1
 have k2:=named83 l.person h2
 have k3:=named83 l.other h3
 have k4:=days_spec l hw hl
 refine zQ.pure (zQ.entry (by kernel_rfl) fun hb _=>zV Tryz.func92 rfl (by kernel_rfl) (by simp[Tryz.ntmps92]) ?_)
 obtain⟨T,hT⟩:∃T,zB (T=Zl l):=⟨_,rfl⟩
 rw[←hT.out]
 have hT1:=hT.out
 replace hT:zB _:=trivial
 unfold Zl at hT1
 generalize Jg l=dy at *
 obtain⟨kd,tw,pe,ot,fr,to,ev,nl,fu,s,exc⟩:=l
 simp only[empB,eqB,zg] at *
 clear h1 h2 h3 hw hl
 generalize z8 tw=a at *
 generalize z8 pe=b at *
 generalize z8 ot=c at *
 generalize te:tw.toList.isEmpty=x at *
 generalize pt:pe.toList.isEmpty=y at *
 generalize oe:ot.toList.isEmpty=z at *
 generalize pq:(pe.toList == ot.toList)=q at *
 generalize List.map (iv .i64) exc=L at *
 by_cases hk1:kd=1
 ·subst hk1
  cases a with
  | true=>
   cases b with
   | true=>
    cases z with
    | true=>
     cases dy with
     | true=>
      simp at hT1
      subst hT1
      repeat' (first|(refine zD fun K hK=>?_)|(refine zA fun K hK=>?_;simp (disch:=omega) [go_sem, *,Tryz.ntmps92])|(refine zj mixed (by kernel_rfl) fun K hK=>?_;simp (disch:=omega) [go_sem, *])|(apply zB.out hK;clear hK K;try with_reducible dsimp only[zC])|(apply zB.out ht;clear ht hf Kt Kf)|(with_reducible refine zJ.gcall (k1) ?_;try simp (disch:=omega) [go_sem, *])|(with_reducible refine zJ.gcall (k2) ?_;try simp (disch:=omega) [go_sem, *])|(with_reducible refine zJ.gcall (k4) ?_;try simp (disch:=omega) [go_sem, *])|(refine zI ?_)|(refine zF fun Kt Kf ht hf=>?_;simp (disch:=omega) [go_sem, *];try (refine⟨fun hc=>?_,fun hc=>?_⟩ <;> try (exfalso;omega))))
      exact zR
     | false=>
      simp at hT1
      subst hT1
      repeat' (first|(refine zD fun K hK=>?_)|(refine zA fun K hK=>?_;simp (disch:=omega) [go_sem, *,Tryz.ntmps92])|(refine zj mixed (by kernel_rfl) fun K hK=>?_;simp (disch:=omega) [go_sem, *])|(apply zB.out hK;clear hK K;try with_reducible dsimp only[zC])|(apply zB.out ht;clear ht hf Kt Kf)|(with_reducible refine zJ.gcall (k1) ?_;try simp (disch:=omega) [go_sem, *])|(with_reducible refine zJ.gcall (k2) ?_;try simp (disch:=omega) [go_sem, *])|(with_reducible refine zJ.gcall (k4) ?_;try simp (disch:=omega) [go_sem, *])|(refine zI ?_)|(refine zF fun Kt Kf ht hf=>?_;simp (disch:=omega) [go_sem, *];try (refine⟨fun hc=>?_,fun hc=>?_⟩ <;> try (exfalso;omega))))
      exact zR
    | false=>
     simp at hT1
     subst hT1
     repeat' (first|(refine zD fun K hK=>?_)|(refine zA fun K hK=>?_;simp (disch:=omega) [go_sem, *,Tryz.ntmps92])|(refine zj mixed (by kernel_rfl) fun K hK=>?_;simp (disch:=omega) [go_sem, *])|(apply zB.out hK;clear hK K;try with_reducible dsimp only[zC])|(apply zB.out ht;clear ht hf Kt Kf)|(with_reducible refine zJ.gcall (k1) ?_;try simp (disch:=omega) [go_sem, *])|(with_reducible refine zJ.gcall (k2) ?_;try simp (disch:=omega) [go_sem, *])|(refine zI ?_)|(refine zF fun Kt Kf ht hf=>?_;simp (disch:=omega) [go_sem, *];try (refine⟨fun hc=>?_,fun hc=>?_⟩ <;> try (exfalso;omega))))
     exact zR
   | false=>
    simp at hT1
    subst hT1
    repeat' (first|(refine zD fun K hK=>?_)|(refine zA fun K hK=>?_;simp (disch:=omega) [go_sem, *,Tryz.ntmps92])|(refine zj mixed (by kernel_rfl) fun K hK=>?_;simp (disch:=omega) [go_sem, *])|(apply zB.out hK;clear hK K;try with_reducible dsimp only[zC])|(apply zB.out ht;clear ht hf Kt Kf)|(with_reducible refine zJ.gcall (k1) ?_;try simp (disch:=omega) [go_sem, *])|(with_reducible refine zJ.gcall (k2) ?_;try simp (disch:=omega) [go_sem, *])|(refine zI ?_)|(refine zF fun Kt Kf ht hf=>?_;simp (disch:=omega) [go_sem, *];try (refine⟨fun hc=>?_,fun hc=>?_⟩ <;> try (exfalso;omega))))
    exact zR
  | false=>
   simp at hT1
   subst hT1
   repeat' (first|(refine zD fun K hK=>?_)|(refine zA fun K hK=>?_;simp (disch:=omega) [go_sem, *,Tryz.ntmps92])|(refine zj mixed (by kernel_rfl) fun K hK=>?_;simp (disch:=omega) [go_sem, *])|(apply zB.out hK;clear hK K;try with_reducible dsimp only[zC])|(apply zB.out ht;clear ht hf Kt Kf)|(with_reducible refine zJ.gcall (k1) ?_;try simp (disch:=omega) [go_sem, *])|(refine zI ?_)|(refine zF fun Kt Kf ht hf=>?_;simp (disch:=omega) [go_sem, *];try (refine⟨fun hc=>?_,fun hc=>?_⟩ <;> try (exfalso;omega))))
   exact zR
 ·rw[if_neg hk1] at hT1
  have hb1:(kd == 1)=false:=by simpa using hk1
  clear hk1
  by_cases hk2:kd=2
  ·subst hk2
   cases x with
   | true=>
    cases b with
    | true=>
     cases z with
     | true=>
      cases dy with
      | true=>
       simp at hT1
       subst hT1
       repeat' (first|(refine zD fun K hK=>?_)|(refine zA fun K hK=>?_;simp (disch:=omega) [go_sem, *,Tryz.ntmps92])|(refine zj mixed (by kernel_rfl) fun K hK=>?_;simp (disch:=omega) [go_sem, *])|(apply zB.out hK;clear hK K;try with_reducible dsimp only[zC])|(apply zB.out ht;clear ht hf Kt Kf)|(apply zB.out hf;clear ht hf Kt Kf)|(with_reducible refine zJ.gcall (k2) ?_;try simp (disch:=omega) [go_sem, *])|(with_reducible refine zJ.gcall (k4) ?_;try simp (disch:=omega) [go_sem, *])|(refine zI ?_)|(refine zF fun Kt Kf ht hf=>?_;simp (disch:=omega) [go_sem, *];try (refine⟨fun hc=>?_,fun hc=>?_⟩ <;> try (exfalso;omega))))
       exact zR
      | false=>
       simp at hT1
       subst hT1
       repeat' (first|(refine zD fun K hK=>?_)|(refine zA fun K hK=>?_;simp (disch:=omega) [go_sem, *,Tryz.ntmps92])|(refine zj mixed (by kernel_rfl) fun K hK=>?_;simp (disch:=omega) [go_sem, *])|(apply zB.out hK;clear hK K;try with_reducible dsimp only[zC])|(apply zB.out ht;clear ht hf Kt Kf)|(apply zB.out hf;clear ht hf Kt Kf)|(with_reducible refine zJ.gcall (k2) ?_;try simp (disch:=omega) [go_sem, *])|(with_reducible refine zJ.gcall (k4) ?_;try simp (disch:=omega) [go_sem, *])|(refine zI ?_)|(refine zF fun Kt Kf ht hf=>?_;simp (disch:=omega) [go_sem, *];try (refine⟨fun hc=>?_,fun hc=>?_⟩ <;> try (exfalso;omega))))
       exact zR
     | false=>
      simp at hT1
      subst hT1
      repeat' (first|(refine zD fun K hK=>?_)|(refine zA fun K hK=>?_;simp (disch:=omega) [go_sem, *,Tryz.ntmps92])|(refine zj mixed (by kernel_rfl) fun K hK=>?_;simp (disch:=omega) [go_sem, *])|(apply zB.out hK;clear hK K;try with_reducible dsimp only[zC])|(apply zB.out ht;clear ht hf Kt Kf)|(apply zB.out hf;clear ht hf Kt Kf)|(with_reducible refine zJ.gcall (k2) ?_;try simp (disch:=omega) [go_sem, *])|(refine zI ?_)|(refine zF fun Kt Kf ht hf=>?_;simp (disch:=omega) [go_sem, *];try (refine⟨fun hc=>?_,fun hc=>?_⟩ <;> try (exfalso;omega))))
      exact zR
    | false=>
     simp at hT1
     subst hT1
     repeat' (first|(refine zD fun K hK=>?_)|(refine zA fun K hK=>?_;simp (disch:=omega) [go_sem, *,Tryz.ntmps92])|(refine zj mixed (by kernel_rfl) fun K hK=>?_;simp (disch:=omega) [go_sem, *])|(apply zB.out hK;clear hK K;try with_reducible dsimp only[zC])|(apply zB.out ht;clear ht hf Kt Kf)|(apply zB.out hf;clear ht hf Kt Kf)|(with_reducible refine zJ.gcall (k2) ?_;try simp (disch:=omega) [go_sem, *])|(refine zI ?_)|(refine zF fun Kt Kf ht hf=>?_;simp (disch:=omega) [go_sem, *];try (refine⟨fun hc=>?_,fun hc=>?_⟩ <;> try (exfalso;omega))))
     exact zR
   | false=>
    simp at hT1
    subst hT1
    repeat' (first|(refine zD fun K hK=>?_)|(refine zA fun K hK=>?_;simp (disch:=omega) [go_sem, *,Tryz.ntmps92])|(refine zj mixed (by kernel_rfl) fun K hK=>?_;simp (disch:=omega) [go_sem, *])|(apply zB.out hK;clear hK K;try with_reducible dsimp only[zC])|(apply zB.out ht;clear ht hf Kt Kf)|(apply zB.out hf;clear ht hf Kt Kf)|(refine zI ?_)|(refine zF fun Kt Kf ht hf=>?_;simp (disch:=omega) [go_sem, *];try (refine⟨fun hc=>?_,fun hc=>?_⟩ <;> try (exfalso;omega))))
    exact zR
  ·rw[if_neg hk2] at hT1
   have hb2:(kd == 2)=false:=by simpa using hk2
   clear hk2
   by_cases hk3:kd=3
   ·subst hk3
    cases a with
    | true=>
     cases y with
     | true=>
      cases z with
      | true=>
       cases dy with
       | true=>
        simp at hT1
        subst hT1
        repeat' (first|(refine zD fun K hK=>?_)|(refine zA fun K hK=>?_;simp (disch:=omega) [go_sem, *,Tryz.ntmps92])|(refine zj mixed (by kernel_rfl) fun K hK=>?_;simp (disch:=omega) [go_sem, *])|(apply zB.out hK;clear hK K;try with_reducible dsimp only[zC])|(apply zB.out ht;clear ht hf Kt Kf)|(apply zB.out hf;clear ht hf Kt Kf)|(with_reducible refine zJ.gcall (k1) ?_;try simp (disch:=omega) [go_sem, *])|(with_reducible refine zJ.gcall (k4) ?_;try simp (disch:=omega) [go_sem, *])|(refine zI ?_)|(refine zF fun Kt Kf ht hf=>?_;simp (disch:=omega) [go_sem, *];try (refine⟨fun hc=>?_,fun hc=>?_⟩ <;> try (exfalso;omega))))
        exact zR
       | false=>
        simp at hT1
        subst hT1
        repeat' (first|(refine zD fun K hK=>?_)|(refine zA fun K hK=>?_;simp (disch:=omega) [go_sem, *,Tryz.ntmps92])|(refine zj mixed (by kernel_rfl) fun K hK=>?_;simp (disch:=omega) [go_sem, *])|(apply zB.out hK;clear hK K;try with_reducible dsimp only[zC])|(apply zB.out ht;clear ht hf Kt Kf)|(apply zB.out hf;clear ht hf Kt Kf)|(with_reducible refine zJ.gcall (k1) ?_;try simp (disch:=omega) [go_sem, *])|(with_reducible refine zJ.gcall (k4) ?_;try simp (disch:=omega) [go_sem, *])|(refine zI ?_)|(refine zF fun Kt Kf ht hf=>?_;simp (disch:=omega) [go_sem, *];try (refine⟨fun hc=>?_,fun hc=>?_⟩ <;> try (exfalso;omega))))
        exact zR
      | false=>
       simp at hT1
       subst hT1
       repeat' (first|(refine zD fun K hK=>?_)|(refine zA fun K hK=>?_;simp (disch:=omega) [go_sem, *,Tryz.ntmps92])|(refine zj mixed (by kernel_rfl) fun K hK=>?_;simp (disch:=omega) [go_sem, *])|(apply zB.out hK;clear hK K;try with_reducible dsimp only[zC])|(apply zB.out ht;clear ht hf Kt Kf)|(apply zB.out hf;clear ht hf Kt Kf)|(with_reducible refine zJ.gcall (k1) ?_;try simp (disch:=omega) [go_sem, *])|(refine zI ?_)|(refine zF fun Kt Kf ht hf=>?_;simp (disch:=omega) [go_sem, *];try (refine⟨fun hc=>?_,fun hc=>?_⟩ <;> try (exfalso;omega))))
       exact zR
     | false=>
      simp at hT1
      subst hT1
      repeat' (first|(refine zD fun K hK=>?_)|(refine zA fun K hK=>?_;simp (disch:=omega) [go_sem, *,Tryz.ntmps92])|(refine zj mixed (by kernel_rfl) fun K hK=>?_;simp (disch:=omega) [go_sem, *])|(apply zB.out hK;clear hK K;try with_reducible dsimp only[zC])|(apply zB.out ht;clear ht hf Kt Kf)|(apply zB.out hf;clear ht hf Kt Kf)|(with_reducible refine zJ.gcall (k1) ?_;try simp (disch:=omega) [go_sem, *])|(refine zI ?_)|(refine zF fun Kt Kf ht hf=>?_;simp (disch:=omega) [go_sem, *];try (refine⟨fun hc=>?_,fun hc=>?_⟩ <;> try (exfalso;omega))))
      exact zR
    | false=>
     simp at hT1
     subst hT1
     repeat' (first|(refine zD fun K hK=>?_)|(refine zA fun K hK=>?_;simp (disch:=omega) [go_sem, *,Tryz.ntmps92])|(refine zj mixed (by kernel_rfl) fun K hK=>?_;simp (disch:=omega) [go_sem, *])|(apply zB.out hK;clear hK K;try with_reducible dsimp only[zC])|(apply zB.out ht;clear ht hf Kt Kf)|(apply zB.out hf;clear ht hf Kt Kf)|(with_reducible refine zJ.gcall (k1) ?_;try simp (disch:=omega) [go_sem, *])|(refine zI ?_)|(refine zF fun Kt Kf ht hf=>?_;simp (disch:=omega) [go_sem, *];try (refine⟨fun hc=>?_,fun hc=>?_⟩ <;> try (exfalso;omega))))
     exact zR
   ·rw[if_neg hk3] at hT1
    have hb3:(kd == 3)=false:=by simpa using hk3
    clear hk3
    by_cases hk4:kd=4
    ·subst hk4
     cases x with
     | true=>
      cases b with
      | true=>
       cases c with
       | true=>
        cases q with
        | true=>
         simp at hT1
         subst hT1
         repeat' (first|(refine zD fun K hK=>?_)|(refine zA fun K hK=>?_;simp (disch:=omega) [go_sem, *,Tryz.ntmps92])|(refine zj mixed (by kernel_rfl) fun K hK=>?_;simp (disch:=omega) [go_sem, *])|(apply zB.out hK;clear hK K;try with_reducible dsimp only[zC])|(apply zB.out ht;clear ht hf Kt Kf)|(apply zB.out hf;clear ht hf Kt Kf)|(with_reducible refine zJ.gcall (k2) ?_;try simp (disch:=omega) [go_sem, *])|(with_reducible refine zJ.gcall (k3) ?_;try simp (disch:=omega) [go_sem, *])|(refine zI ?_)|(refine zF fun Kt Kf ht hf=>?_;simp (disch:=omega) [go_sem, *];try (refine⟨fun hc=>?_,fun hc=>?_⟩ <;> try (exfalso;omega))))
         exact zR
        | false=>
         cases dy with
         | true=>
          simp at hT1
          subst hT1
          repeat' (first|(refine zD fun K hK=>?_)|(refine zA fun K hK=>?_;simp (disch:=omega) [go_sem, *,Tryz.ntmps92])|(refine zj mixed (by kernel_rfl) fun K hK=>?_;simp (disch:=omega) [go_sem, *])|(apply zB.out hK;clear hK K;try with_reducible dsimp only[zC])|(apply zB.out ht;clear ht hf Kt Kf)|(apply zB.out hf;clear ht hf Kt Kf)|(with_reducible refine zJ.gcall (k2) ?_;try simp (disch:=omega) [go_sem, *])|(with_reducible refine zJ.gcall (k3) ?_;try simp (disch:=omega) [go_sem, *])|(with_reducible refine zJ.gcall (k4) ?_;try simp (disch:=omega) [go_sem, *])|(refine zI ?_)|(refine zF fun Kt Kf ht hf=>?_;simp (disch:=omega) [go_sem, *];try (refine⟨fun hc=>?_,fun hc=>?_⟩ <;> try (exfalso;omega))))
          exact zR
         | false=>
          simp at hT1
          subst hT1
          repeat' (first|(refine zD fun K hK=>?_)|(refine zA fun K hK=>?_;simp (disch:=omega) [go_sem, *,Tryz.ntmps92])|(refine zj mixed (by kernel_rfl) fun K hK=>?_;simp (disch:=omega) [go_sem, *])|(apply zB.out hK;clear hK K;try with_reducible dsimp only[zC])|(apply zB.out ht;clear ht hf Kt Kf)|(apply zB.out hf;clear ht hf Kt Kf)|(with_reducible refine zJ.gcall (k2) ?_;try simp (disch:=omega) [go_sem, *])|(with_reducible refine zJ.gcall (k3) ?_;try simp (disch:=omega) [go_sem, *])|(with_reducible refine zJ.gcall (k4) ?_;try simp (disch:=omega) [go_sem, *])|(refine zI ?_)|(refine zF fun Kt Kf ht hf=>?_;simp (disch:=omega) [go_sem, *];try (refine⟨fun hc=>?_,fun hc=>?_⟩ <;> try (exfalso;omega))))
          exact zR
       | false=>
        simp at hT1
        subst hT1
        repeat' (first|(refine zD fun K hK=>?_)|(refine zA fun K hK=>?_;simp (disch:=omega) [go_sem, *,Tryz.ntmps92])|(refine zj mixed (by kernel_rfl) fun K hK=>?_;simp (disch:=omega) [go_sem, *])|(apply zB.out hK;clear hK K;try with_reducible dsimp only[zC])|(apply zB.out ht;clear ht hf Kt Kf)|(apply zB.out hf;clear ht hf Kt Kf)|(with_reducible refine zJ.gcall (k2) ?_;try simp (disch:=omega) [go_sem, *])|(with_reducible refine zJ.gcall (k3) ?_;try simp (disch:=omega) [go_sem, *])|(refine zI ?_)|(refine zF fun Kt Kf ht hf=>?_;simp (disch:=omega) [go_sem, *];try (refine⟨fun hc=>?_,fun hc=>?_⟩ <;> try (exfalso;omega))))
        exact zR
      | false=>
       simp at hT1
       subst hT1
       repeat' (first|(refine zD fun K hK=>?_)|(refine zA fun K hK=>?_;simp (disch:=omega) [go_sem, *,Tryz.ntmps92])|(refine zj mixed (by kernel_rfl) fun K hK=>?_;simp (disch:=omega) [go_sem, *])|(apply zB.out hK;clear hK K;try with_reducible dsimp only[zC])|(apply zB.out ht;clear ht hf Kt Kf)|(apply zB.out hf;clear ht hf Kt Kf)|(with_reducible refine zJ.gcall (k2) ?_;try simp (disch:=omega) [go_sem, *])|(refine zI ?_)|(refine zF fun Kt Kf ht hf=>?_;simp (disch:=omega) [go_sem, *];try (refine⟨fun hc=>?_,fun hc=>?_⟩ <;> try (exfalso;omega))))
       exact zR
     | false=>
      simp at hT1
      subst hT1
      repeat' (first|(refine zD fun K hK=>?_)|(refine zA fun K hK=>?_;simp (disch:=omega) [go_sem, *,Tryz.ntmps92])|(refine zj mixed (by kernel_rfl) fun K hK=>?_;simp (disch:=omega) [go_sem, *])|(apply zB.out hK;clear hK K;try with_reducible dsimp only[zC])|(apply zB.out ht;clear ht hf Kt Kf)|(apply zB.out hf;clear ht hf Kt Kf)|(refine zI ?_)|(refine zF fun Kt Kf ht hf=>?_;simp (disch:=omega) [go_sem, *];try (refine⟨fun hc=>?_,fun hc=>?_⟩ <;> try (exfalso;omega))))
      exact zR
    ·rw[if_neg hk4] at hT1
     have hb4:(kd == 4)=false:=by simpa using hk4
     clear hk4
     subst hT1
     repeat' (first|(refine zD fun K hK=>?_)|(refine zA fun K hK=>?_;simp (disch:=omega) [go_sem, *,Tryz.ntmps92])|(refine zj mixed (by kernel_rfl) fun K hK=>?_;simp (disch:=omega) [go_sem, *])|(apply zB.out hK;clear hK K;try with_reducible dsimp only[zC])|(apply zB.out hf;clear ht hf Kt Kf)|(refine zI ?_)|(refine zK ?_;simp only[zC,zP])|(refine zF fun Kt Kf ht hf=>?_;simp (disch:=omega) [go_sem, *];try (refine⟨fun hc=>?_,fun hc=>?_⟩ <;> try (exfalso;omega))))
     exact zR
end Go.AM
