/- Duties of a day, by the specification. Conditions: as each theorem says. -/
import Derived.Test.YtkbgmkhdjmkpdaaGreatDoorDc
namespace Du
theorem insP_at:∀(l:List Pr) (p:Pr) (i:Nat),i≤l.length→(∀(j:Nat) (x:Pr),j < i→l[j]? = some x→ltP x p=true)→(∀x:Pr,l[i]? = some x→ltP x p=false)→Z3 l p=if (∃x,l[i]? = some x∧jr x p=true) then l else l.take i ++ p :: l.drop i
 | [],p,i,hi,_,_=>by
  have:i=0:=by simpa using hi
  subst this;simp[Z3]
 | y :: r,p,0,_,_,h2=>by
  have hy:=h2 y (by simp)
  simp only[Z3,hy]
  rw[if_neg (by simp)]
  simp
 | y :: r,p,i + 1,hi,h1,h2=>by
  have hy:=h1 0 y (by omega) (by simp)
  have ih:=insP_at r p i (by simpa using hi) (fun j x hj hx=>h1 (j + 1) x (by omega) (by simpa using hx)) (fun x hx=>h2 x (by simpa using hx))
  simp only[Z3]
  rw[if_pos hy,ih]
  simp only[List.getElem?_cons_succ,List.take_succ_cons,List.drop_succ_cons,List.cons_append]
  split <;> rfl
theorem insP_len (p:Pr):∀l:List Pr,(Z3 l p).length≤l.length + 1
 | []=>by simp[Z3]
 | x :: r=>by
  have:=insP_len p r
  rw[Z3]
  split
  ·simp only[List.length_cons];omega
  ·split
   ·omega
   ·simp
theorem doneF_len (l:Lin):∀(D A:List Pr),(D.foldl (jC l) A).length≤A.length + D.length
 | [],A=>by simp
 | x :: r,A=>by
  have h1:=doneF_len l r (jC l A x)
  have h2:(jC l A x).length≤A.length + 1:=by
   unfold jC;split
   ·omega
   ·exact insP_len _ _
  rw[List.foldl_cons,List.length_cons];omega
theorem doneR_len (l:Lin) (D:List Pr):(je l D).length≤D.length + 1:=by
 have h:=doneF_len l D []
 simp only[List.length_nil,Nat.zero_add] at h
 unfold je
 split
 ·have:=insP_len (l.tower,l.person) (D.foldl (jC l) []);omega
 ·omega
theorem dayR_len (d:Int):∀(ls:List Lin) (R:List Pr),(ls.foldl (JJ d) R).length≤R.length + ls.length
 | [],R=>by simp
 | x :: r,R=>by
  have h1:=dayR_len d r (JJ d R x)
  have h2:(JJ d R x).length≤R.length + 1:=by
   unfold JJ;split
   ·exact doneR_len _ _
   ·omega
  rw[List.foldl_cons,List.length_cons];omega
end Du
namespace Go.AM
open Go.Proofs Cw Du Go.RowKit
set_option maxRecDepth 10000
set_option maxHeartbeats 4000000
theorem rless_spec (a b:Int) (p q:Pr):zL Tryz.prog 123 [zY a p,zY b q] (bv (ltP p q)):=by
 intro h n
 refine zS.pure (zS.entry (by kernel_rfl) fun hb _=>zX Tryz.func123 rfl (by kernel_rfl) (by simp[Tryz.ntmps123]) ?_)
 obtain⟨p1,p2⟩:=p
 obtain⟨q1,q2⟩:=q
 simp only[ltP,bl,eqB,zY]
 cases c1:Op.bytesLess p1.toList q1.toList with
 | true=>
  simp only[Bool.true_or]
  repeat' (first|(refine zF fun K hK=>?_)|(refine zB fun K hK=>?_;simp (disch:=omega) [go_sem, *,zG,Tryz.ntmps123])|(apply zC.out hK;clear hK K;try with_reducible dsimp only[zD]))
  exact zR
 | false=>
  simp only[Bool.false_or]
  cases c2:(p1.toList == q1.toList) with
  | true=>
   simp only[Bool.true_and]
   repeat' (first|(refine zF fun K hK=>?_)|(refine zB fun K hK=>?_;simp (disch:=omega) [go_sem, *,zG,Tryz.ntmps123])|(apply zC.out hK;clear hK K;try with_reducible dsimp only[zD]))
   exact zR
  | false=>
   simp only[Bool.false_and]
   repeat' (first|(refine zF fun K hK=>?_)|(refine zB fun K hK=>?_;simp (disch:=omega) [go_sem, *,zG,Tryz.ntmps123])|(apply zC.out hK;clear hK K;try with_reducible dsimp only[zD]))
   exact zR
theorem is_spec (l:Lin) (hw:j9 l) (hn:numOk l) (d:Int) (h0:0≤d) (h4:d≤400):zL Tryz.prog 102 [zT l,iv .i64 d] (bv (onL l d)):=by
 intro h n
 obtain⟨q1,q2,q3,q4,q5,q6⟩:=hn
 refine zS.pure (zS.entry (by kernel_rfl) fun hb _=>zX Tryz.func102 rfl (by kernel_rfl) (by simp[Tryz.ntmps102]) ?_)
 obtain⟨T,hT⟩:∃T,zC (T=onL l d):=⟨_,rfl⟩
 rw[←hT.out]
 have hT2:T=(decide (l.fr≤d) && decide (d≤l.to) && decide ((d - l.fr) % l.ev=0) && !decide (d ∈ l.exc)):=by rw[hT.out,onL]
 replace hT:zC _:=trivial
 obtain⟨kd,tw,pe,ot,fr,to,ev,nl,fu,s,exc⟩:=l
 simp only[j9] at q1 q2 q3 q4 q5 q6 hT2 hw
 simp only[zT]
 replace hw:zC _:=hw
 by_cases c1:d < fr
 ·have hTT:T=false:=by rw[hT2,show decide (fr≤d)=false from by simpa using c1];simp
  subst hTT
  clear hT2
  repeat' (first|(refine zF fun K hK=>?_)|(refine zB fun K hK=>?_;simp (disch:=omega) [go_sem, *,Tryz.ntmps102])|(apply zC.out hK;clear hK K;try with_reducible dsimp only[zD])|(apply zC.out ht;clear ht hf Kt Kf)|(refine zH fun Kt Kf ht hf=>?_;simp (disch:=omega) [go_sem, *];try (refine⟨fun hc=>?_,fun hc=>?_⟩ <;> try (exfalso;omega))))
  exact zR
 ·by_cases c2:d > to
  ·have hTT:T=false:=by rw[hT2,show decide (d≤to)=false from by simpa using c2];simp
   subst hTT
   clear hT2
   repeat' (first|(refine zF fun K hK=>?_)|(refine zB fun K hK=>?_;simp (disch:=omega) [go_sem, *,Tryz.ntmps102])|(apply zC.out hK;clear hK K;try with_reducible dsimp only[zD])|(apply zC.out ht;clear ht hf Kt Kf)|(refine zH fun Kt Kf ht hf=>?_;simp (disch:=omega) [go_sem, *];try (refine⟨fun hc=>?_,fun hc=>?_⟩ <;> try (exfalso;omega))))
   exact zR
  ·have e1:decide (fr≤d)=true:=by simpa using c1
   have e2:decide (d≤to)=true:=by simpa using c2
   rw[e1,e2] at hT2
   have hmod:(d - fr).tmod ev=(d - fr) % ev:=by
    obtain⟨a,ha⟩:=Int.eq_ofNat_of_zero_le (show 0≤d - fr by omega)
    obtain⟨b,hb⟩:=Int.eq_ofNat_of_zero_le (show 0≤ev by omega)
    rw[ha,hb];rfl
   have hm0:0≤(d - fr) % ev:=Int.emod_nonneg _ (by omega)
   have hm1:(d - fr) % ev < ev:=Int.emod_lt_of_pos _ (by omega)
   have hev:¬ev=0:=by omega
   generalize hr:(d - fr) % ev=r at *
   clear hr e1 e2
   by_cases r0:r=0
   ·have hTT:T = !decide (d ∈ exc):=by rw[hT2,r0];simp
    subst r0
    replace hTT:zC _:=hTT
    clear hT2
    repeat' (first|(refine zF fun K hK=>?_)|(refine zB fun K hK=>?_;simp (disch:=omega) [go_sem, *,zN,Tryz.ntmps102])|(apply zC.out hK;clear hK K;try with_reducible dsimp only[zD])|(apply zC.out hf;clear ht hf Kt Kf)|(refine zJ ?_)|(refine zK ?_;simp only[zD])|(refine zH fun Kt Kf ht hf=>?_;simp (disch:=omega) [go_sem, *];try (refine⟨fun hc=>?_,fun hc=>?_⟩ <;> try (exfalso;omega))))
    refine za (fun s'=>∃(i n':Nat),n < n'∧i≤exc.length∧(∀j x,j < i→exc[j]? = some x→x≠d)∧s'=⟨40,[(1,iv .i64 d),(2,.ptr n 0),(5,iv .i64 i)],h.upd n (some (.cells [iv .i64 kd,sv tw,sv pe,sv ot,iv .i64 fr,iv .i64 to,iv .i64 ev,.fslc nl fu s (exc.map (iv .i64))])),n'⟩)
     (fun s'=>exc.length - (zf s' 5).toNat) ?_ ?_
    ·exact zb (by simp[go_sem]) (Sub.refl _) ⟨0,_,by omega,by omega,fun j x hj=>by omega,rfl⟩
    ·rintro s' ⟨i,n',hn',hi,hall,rfl⟩
     replace hall:zC _:=hall
     by_cases hlt:i < exc.length
     ·obtain⟨x,hx⟩:∃x,exc[i]=x:=⟨_,rfl⟩
      have hmem:x ∈ exc:=hx ▸ List.getElem_mem hlt
      have hne:exc≠[]:=fun e=>by rw[e] at hlt;simp at hlt
      obtain⟨rfl,rfl⟩:=hw.out.resolve_left hne
      have hxs:exc[i]? = some x:=by rw[List.getElem?_eq_getElem hlt,hx]
      by_cases he:x=d
      ·have hTf:T=false:=by rw[hTT.out];simp;exact he ▸ hmem
       subst hTf
       subst he
       clear hne hmem
       replace hxs:zC _:=hxs
       repeat' (first|(refine zF fun K hK=>?_)|(refine zB fun K hK=>?_;simp (disch:=omega) [go_sem, *,zQ,zP])|(apply zC.out hK;clear hK K;try with_reducible dsimp only[zD])|(apply zC.out ht;clear ht hf Kt Kf)|(refine zJ ?_)|(refine zK ?_;simp only[zD])|(refine zH fun Kt Kf ht hf=>?_;simp (disch:=omega) [go_sem, *];try (refine⟨fun hc=>?_,fun hc=>?_⟩ <;> try (exfalso;omega))))
       exact zR
      ·have hef:(x == d)=false:=by simpa using he
       clear hne hmem
       replace hxs:zC _:=hxs
       replace he:zC _:=he
       repeat' (first|(refine zF fun K hK=>?_)|(refine zB fun K hK=>?_;simp (disch:=omega) [go_sem, *,zN,zQ,zP])|(apply zC.out hK;clear hK K;try with_reducible dsimp only[zD])|(apply zC.out ht;clear ht hf Kt Kf)|(apply zC.out hf;clear ht hf Kt Kf)|(refine zJ ?_)|(refine zK ?_;simp only[zD,zO])|(refine zH fun Kt Kf ht hf=>?_;simp (disch:=omega) [go_sem, *];try (refine⟨fun hc=>?_,fun hc=>?_⟩ <;> try (exfalso;omega))))
       exact zV (by simp (disch:=omega) [go_sem]) (Sub.refl _) ⟨i + 1,_,by omega,by omega,fun j y hj hy=>by
        rcases Nat.lt_or_ge j i with h1 | h1
        ·exact hall.out j y h1 hy
        ·have:j=i:=by omega
         subst this
         rw[hxs.out] at hy;cases hy;exact he.out,rfl⟩ (by simp[zf,go_sem];omega)
     ·have hTt:T=true:=by
       rw[hTT.out];simp
       intro hm
       obtain⟨j,hj,e⟩:=List.getElem_of_mem hm
       exact hall.out j d (by omega) (by rw[List.getElem?_eq_getElem hj,e]) rfl
      subst hTt
      repeat' (first|(refine zF fun K hK=>?_)|(refine zB fun K hK=>?_;simp (disch:=omega) [go_sem, *,zW])|(apply zC.out hK;clear hK K;try with_reducible dsimp only[zD])|(apply zC.out hf;clear ht hf Kt Kf)|(clear hK K;apply zC.out hK;clear hK K;try with_reducible dsimp only[zD])|(refine zU ?_;simp only[zD,zO,if_true])|(refine zH fun Kt Kf ht hf=>?_;simp (disch:=omega) [go_sem, *];try (refine⟨fun hc=>?_,fun hc=>?_⟩ <;> try (exfalso;omega))))
      exact zR
   ·have hTT:T=false:=by rw[hT2];simp[r0]
    subst hTT
    clear hT2
    repeat' (first|(refine zF fun K hK=>?_)|(refine zB fun K hK=>?_;simp (disch:=omega) [go_sem, *,zN,Tryz.ntmps102])|(apply zC.out hK;clear hK K;try with_reducible dsimp only[zD])|(apply zC.out ht;clear ht hf Kt Kf)|(refine zH fun Kt Kf ht hf=>?_;simp (disch:=omega) [go_sem, *];try (refine⟨fun hc=>?_,fun hc=>?_⟩ <;> try (exfalso;omega))))
    exact zR
end Go.AM
namespace Go.AM
open Go.Proofs Cw Du
set_option maxRecDepth 10000
theorem qh (d:Int) (L:List Pr):(flat (L.map (zY d))).length=L.length * 3:=by
 have:=Jw (s:=3) (L:=L.map (zY d)) (fun y hy=>by obtain⟨o,_,rfl⟩:=List.mem_map.1 hy;exact duty_len d o)
 rw[this,List.length_map]
theorem apD_0 (nm:Nat) (h:zI) (nl nl' fu':Bool) (s s':Nat) (hs:s'=0∨s'=3):ZF Tryz.prog nm 28 (.fslc nl true s []) (.fslc nl' fu' s' []) h=some (.fslc nl true s [],h):=by
 rcases hs with rfl | rfl <;> simp[ZF,eltOf28,szOf51,byOf51,zerOf51,ZU,cellsOf,AV.scalar,flat]
theorem apD_F (nm:Nat) (h:zI) (nl nl' fu':Bool) (s:Nat) (xs:List AV) (hx:xs.length≠0) (hl:xs.length≤67108864) :
  ZF Tryz.prog nm 28 (.fslc nl true s []) (.fslc nl' fu' 3 xs) h=some (.slc nm 0 xs.length 3,h.upd nm (some (.cells (flat xs)))):=by
 simp[ZF,eltOf28,szOf51,byOf51,zerOf51,ZU,cellsOf,AV.scalar,hx,hl,flat]
theorem apD_S (nm m:Nat) (h:zI) (nl' fu':Bool) (c xs:List AV) (len:Nat) (hc:c.length=len * 3) (hx:xs.length≠0) (hl:len + xs.length≤67108864) :
  ZF Tryz.prog nm 28 (.slc m 0 len 3) (.fslc nl' fu' 3 xs) (h.upd m (some (.cells c)))=some (.slc nm 0 (len + xs.length) 3,((h.upd m (some (.cells c))).upd m none).upd nm (some (.cells (c ++ flat xs)))):=by
 have h1:¬(len + xs.length) * 3≤len * 3:=by omega
 simp[ZF,eltOf28,szOf51,byOf51,zerOf51,ZU,cellsOf,AV.scalar,h1,hl,zM,hc]
theorem apD_S0 (nm m:Nat) (h:zI) (nl' fu':Bool) (s':Nat) (hs:s'=0∨s'=3) (c:List AV) (len:Nat) (hc:c.length=len * 3) :
  ZF Tryz.prog nm 28 (.slc m 0 len 3) (.fslc nl' fu' s' []) (h.upd m (some (.cells c)))=some (.slc m 0 len 3,(h.upd m (some (.cells c))).upd m (some (.cells c))):=by
 have e:z8 c (len * 3) []=c:=by simp[z8,←hc]
 rcases hs with rfl | rfl <;> simp[ZF,eltOf28,szOf51,byOf51,zerOf51,ZU,cellsOf,AV.scalar,flat,zM,hc,e]
theorem ret_dut {fl:Nat} {K:AV→zI→Nat→Prop} {m len:Nat} {d:Int} {ts:List Pr} {h:zI} {n:Nat} [Vars] (hm:h m=some (.cells (flat (ts.map (zY d))))) (hl:len=ts.length) (hne:ts≠[]) (hk:ZI fl K (ZW d ts) (h.upd m none) n):ZI fl K (.slc m 0 len 3) h n:=by
 subst hl
 refine ret_fzD true hm ?_
 have hfl:=qh d ts
 have ef:fzD m (flat (ts.map (zY d))) true (.slc m 0 ts.length 3)=.fslc false false 3 (ts.map (zY d)):=by
  simp only[fzD,Nat.zero_add,List.drop_zero]
  rw[if_pos ⟨trivial,by omega,by simp⟩,elemsD]
 rw[ef]
 simpa [ZW,hne] using hk
@[go_sem] theorem aggEqD (d:Int) (p1 p2 q1 q2:ByteArray):aggEq Tryz.prog 51 [iv .i64 d,sv p1,sv p2] [iv .i64 d,sv q1,sv q2]=some ((p1.toList == q1.toList) && (p2.toList == q2.toList)):=by
 have g1:Tryz.prog.stoodInHeld 51=false:=by kernel_rfl
 have g2:Tryz.prog.eqGuardType Tryz.prog.depth 51=false:=by kernel_rfl
 have g3:Q9 Tryz.prog 3=.int:=by kernel_rfl
 simp only[aggEq,Tryz.underlying51,g1,g2,fldEq]
 simp only[and_self,if_true,List.getElem?_cons_zero,List.getElem?_cons_succ,skStr,g3,jZ]
 simp
 cases (p1.toList == q1.toList) <;> cases (p2.toList == q2.toList) <;> simp
end Go.AM
namespace Go.AM
open Go.Proofs Cw Du
set_option maxRecDepth 10000
set_option maxHeartbeats 4000000
theorem JH (x:AV) (r:List AV):flat (x :: r)=cellsOf x ++ flat r:=by simp[flat]
theorem flat_nilD:flat []=[]:=rfl
theorem below_dut (n:Nat) (d:Int) (L:List Pr) (nl fu:Bool) (s:Nat):below n (.fslc nl fu s (L.map (zY d))):=by
 simp only[below];rw[Zl];intro y hy;obtain⟨o,_,rfl⟩:=List.mem_map.1 hy;simp[zY,below,belowL]
theorem dutF_ne (d:Int) {L:List Pr} (h:L≠[]):ZW d L=.fslc false false 3 (L.map (zY d)):=by rw[ZW,if_neg h]
theorem put_spec (d:Int) (L:List Pr) (p:Pr) (hl:L.length≤100000):zL Tryz.prog 66 [ZW d L,zY d p] (ZW d (Z3 L p)):=by
 intro h n
 refine zS.pure (zS.entry (by kernel_rfl) fun hb _=>zX Tryz.func66 rfl (by kernel_rfl) (by simp[Tryz.ntmps66]) ?_)
 obtain⟨T,hT⟩:∃T,zC (T=ZW d (Z3 L p)):=⟨_,rfl⟩
 rw[←hT.out]
 obtain⟨p1,p2⟩:=p
 have ep:zY d (p1,p2)=.agg [iv .i64 d,sv p1,sv p2]:=rfl
 rw[ep]
 have ef:flat [zY d (p1,p2)]=[iv .i64 d,sv p1,sv p2]:=rfl
 by_cases hL:L=[]
 ·subst hL
  have hTT:T=ZW d [(p1,p2)]:=by rw[hT.out];rfl
  have e0:ZW d []=.fslc true true 0 []:=rfl
  have hap1:=fun nm (h0:zI) (a b c:Bool) (s:Nat)=>apD_0 nm h0 a b c s 0 (.inl rfl)
  have hap2:∀(nm:Nat) (h0:zI) (a b c:Bool) (s:Nat),ZF Tryz.prog nm 28 (.fslc a true s []) (.fslc b c 3 [.agg [iv .i64 d,sv p1,sv p2]]) h0=some (.slc nm 0 1 3,h0.upd nm (some (.cells [iv .i64 d,sv p1,sv p2]))):=fun nm (h0:zI) (a b c:Bool) (s:Nat)=>apD_F nm h0 a b c s [.agg [iv .i64 d,sv p1,sv p2]] (by simp) (by simp)
  have hap3:=fun nm m (h0:zI) (b c:Bool)=>apD_S0 nm m h0 b c 0 (.inl rfl) [iv .i64 d,sv p1,sv p2] 1 rfl
  rw[e0]
  replace hTT:zC _:=hTT
  replace hT:zC _:=trivial
  replace ep:zC _:=trivial
  replace ef:zC _:=trivial
  replace e0:zC _:=trivial
  replace hap1:zC _:=hap1
  replace hap2:zC _:=hap2
  replace hap3:zC _:=hap3
  repeat' (first|(refine zF fun K hK=>?_)|(refine zB fun K hK=>?_;simp (disch:=omega) [go_sem, *,Tryz.ntmps66])|(apply zC.out hK;clear hK K;try with_reducible dsimp only[zD])|(refine zJ ?_))
  refine Z1 (t:=3) (m:=n) (c:=[iv .i64 d,sv p1,sv p2]) (zM _ _ _) (by simp[go_sem]) ?_
  refine zz 1 ?_
  unfold zx
  repeat' (first|(refine zF fun K hK=>?_))
  refine zq mixed (by kernel_rfl) fun K hK=>?_
  simp (disch:=omega) [go_sem, *]
  repeat' (first|(refine zF fun K hK=>?_)|(refine jm (by simp[go_sem]) (by simp (disch:=omega) [go_sem, *];first | exact rfl | exact⟨rfl,rfl,rfl⟩) ?_;try simp only[zm])|(refine ZR ?_)|(apply zC.out hK;clear hK K;try with_reducible dsimp only[zD])|(apply zC.out hf;clear ht hf Kt Kf)|(clear hK K;apply zC.out hK;clear hK K;try with_reducible dsimp only[zD])|(refine zU ?_;simp only[zD,zO,if_true])|(refine zH fun Kt Kf ht hf=>?_;simp (disch:=omega) [go_sem, *];try (refine⟨fun hc=>?_,fun hc=>?_⟩ <;> try (exfalso;omega))))
  refine zq mixed (by kernel_rfl) fun K hK=>?_
  simp (disch:=omega) [go_sem, *]
  repeat' (first|(refine zF fun K hK=>?_)|(refine jm (by simp[go_sem]) (by simp (disch:=omega) [go_sem, *];first | exact rfl | exact⟨rfl,rfl,rfl⟩) ?_;try simp only[zm])|(refine ZR ?_)|(apply zC.out hK;clear hK K;try with_reducible dsimp only[zD])|(apply zC.out hf;clear ht hf Kt Kf)|(refine zK ?_;simp only[zD])|(refine zH fun Kt Kf ht hf=>?_;simp (disch:=omega) [go_sem, *];try (refine⟨fun hc=>?_,fun hc=>?_⟩ <;> try (exfalso;omega))))
  refine J8 [3] mixed (by kernel_rfl) (fun x hx=>by simp at hx;subst hx;exact⟨_,by simp[go_sem];rfl⟩) fun K hK=>?_
  simp (disch:=omega) [go_sem,hap1.out,hap2.out,hap3.out]
  repeat' (first|(apply zC.out hK;clear hK K;try with_reducible dsimp only[zD]))
  refine zg ?_
  try dsimp only[zD,zO]
  refine⟨by simp,_,(by first | rfl|(simp (disch:=omega) [go_sem,zG] <;> rfl)),?_⟩
  rw[hTT.out]
  refine ret_dut (d:=d) (ts:=[(p1,p2)]) (by simp (disch:=omega) [zM];rfl) rfl (by simp) ?_
  refine zc ⟨fun k hk=>?_,?_,rfl,by simp,by simp⟩
  ·simp (disch:=omega) only[zG]
  ·simp[ZW,zY,below,belowL]
 ·have eL:ZW d L=.fslc false false 3 (L.map (zY d)):=dutF_ne d hL
  rw[eL]
  have hL1:1≤L.length:=List.length_pos_iff.2 hL
  replace eL:zC _:=eL
  replace ep:zC _:=ep
  replace ef:zC _:=ef
  clear hL
  repeat' (first|(refine zF fun K hK=>?_)|(refine zB fun K hK=>?_;simp (disch:=omega) [go_sem, *,Tryz.ntmps66])|(apply zC.out hK;clear hK K;try with_reducible dsimp only[zD])|(refine zJ ?_))
  refine Z1 (t:=3) (m:=n) (c:=[iv .i64 d,sv p1,sv p2]) (zM _ _ _) (by simp[go_sem]) ?_
  refine za (fun s'=>∃(i:Nat) (n':Nat),n < n'∧i≤L.length∧(∀(j:Nat) (x:Pr),j < i→L[j]? = some x→ltP x (p1,p2)=true)∧s'=⟨45,[(0,.fslc false false 3 (L.map (zY d))),(3,.fptr [iv .i64 d,sv p1,sv p2]),(5,iv .i64 i)],(h.upd n (some (.cells [iv .i64 d,sv p1,sv p2]))).upd n none,n'⟩)
   (fun s'=>L.length - (zf s' 5).toNat) ?_ ?_
  ·exact zb (by simp[go_sem, *]) (Sub.refl _) ⟨0,_,by show n < n + 2 + 1;omega,by omega,fun j x hj=>by omega,rfl⟩
  ·rintro s' ⟨i,n',hn',hi,hall,rfl⟩
   replace hall:zC _:=hall
   by_cases hlt:i < L.length
   ·obtain⟨⟨x1,x2⟩,hx⟩:∃x,L[i]=x:=⟨_,rfl⟩
    have hxs:L[i]? = some (x1,x2):=by rw[List.getElem?_eq_getElem hlt,hx]
    have hex:zY d L[i]=.agg [iv .i64 d,sv x1,sv x2]:=by rw[hx];rfl
    have k1:=rless_spec d d (x1,x2) (p1,p2)
    simp only[zY] at k1
    cases hb1:ltP (x1,x2) (p1,p2) with
    | true=>
     rw[hb1] at k1
     replace hb1:zC _:=hb1
     replace hxs:zC _:=hxs
     replace hx:zC _:=hx
     repeat' (first|(refine zF fun K hK=>?_))
     refine zq mixed (by kernel_rfl) fun K hK=>?_
     simp (disch:=omega) [go_sem, *]
     repeat' (first|(refine zB fun K hK=>?_;simp (disch:=omega) [go_sem, *,zN])|(refine jm (by simp[go_sem]) (by simp (disch:=omega) [go_sem, *,zQ,zP];first | exact rfl | exact⟨rfl,rfl,rfl⟩ | exact (k1).gcall ⟨rfl,rfl,rfl⟩) ?_;try simp only[zm])|(refine ZR ?_)|(apply zC.out hK;clear hK K;try with_reducible dsimp only[zD])|(apply zC.out ht;clear ht hf Kt Kf)|(refine zJ ?_)|(refine zK ?_;simp only[zD])|(refine zH fun Kt Kf ht hf=>?_;simp (disch:=omega) [go_sem, *];try (refine⟨fun hc=>?_,fun hc=>?_⟩ <;> try (exfalso;omega))))
     exact zV (by simp (disch:=omega) [go_sem]) (Sub.refl _) ⟨i + 1,_,by omega,by omega,fun j y hj hy=>by
      rcases Nat.lt_or_ge j i with h1 | h1
      ·exact hall.out j y h1 hy
      ·have:j=i:=by omega
       subst this
       rw[hxs.out] at hy;cases hy;exact hb1.out,rfl⟩ (by simp[zf,go_sem];omega)
    | false=>
     rw[hb1] at k1
     have hr:=insP_at L (p1,p2) i hi hall.out (fun y hy=>by rw[hxs] at hy;cases hy;exact hb1)
     cases hq:((x1.toList == p1.toList) && (x2.toList == p2.toList)) with
     | true=>
      rw[if_pos ⟨_,hxs,hq⟩] at hr
      have hTv:T=.fslc false false 3 (L.map (zY d)):=by rw[hT.out,hr];exact eL.out
      subst hTv
      replace hT:zC _:=trivial
      replace hr:zC _:=trivial
      replace hb1:zC _:=trivial
      replace hxs:zC _:=hxs
      replace hx:zC _:=hx
      repeat' (first|(refine zF fun K hK=>?_))
      refine zq mixed (by kernel_rfl) fun K hK=>?_
      simp (disch:=omega) [go_sem, *]
      repeat' (first|(refine zF fun K hK=>?_)|(refine jm (by simp[go_sem]) (by simp (disch:=omega) [go_sem, *,zQ,zP];first | exact rfl | exact⟨rfl,rfl,rfl⟩ | exact (k1).gcall ⟨rfl,rfl,rfl⟩) ?_;try simp only[zm])|(refine ZR ?_)|(apply zC.out hK;clear hK K;try with_reducible dsimp only[zD])|(apply zC.out hf;clear ht hf Kt Kf)|(clear hK K;apply zC.out hK;clear hK K;try with_reducible dsimp only[zD])|(refine zU ?_;simp only[zD,zO,if_true])|(refine zH fun Kt Kf ht hf=>?_;simp (disch:=omega) [go_sem, *];try (refine⟨fun hc=>?_,fun hc=>?_⟩ <;> try (exfalso;omega))))
      refine zq mixed (by kernel_rfl) fun K hK=>?_
      simp (disch:=omega) [go_sem, *]
      repeat' (first|(refine zF fun K hK=>?_)|(refine zB fun K hK=>?_;simp (disch:=omega) [go_sem, *])|(refine jm (by simp[go_sem]) (by simp (disch:=omega) [go_sem, *,zQ,zP];first | exact rfl | exact⟨rfl,rfl,rfl⟩) ?_;try simp only[zm])|(refine ZR ?_)|(apply zC.out hK;clear hK K;try with_reducible dsimp only[zD])|(apply zC.out ht;clear ht hf Kt Kf)|(refine zH fun Kt Kf ht hf=>?_;simp (disch:=omega) [go_sem, *];try (refine⟨fun hc=>?_,fun hc=>?_⟩ <;> try (exfalso;omega))))
      (refine zg ?_;try dsimp only[zD,zO];refine⟨by simp,_,(by first | rfl|(simp (disch:=omega) [go_sem,zG] <;> rfl)),?_⟩;refine zc ⟨fun k hk=>(by first | rfl|(repeat rw[zG _ _ _ _ (by omega)])),(by simp[go_sem,below_dut]),(by simp[go_sem] <;> omega),by simp,by simp⟩)
     | false=>
      rw[if_neg (by rintro⟨y,hy,he⟩;rw[hxs] at hy;cases hy;rw[jr,eqB,eqB,hq] at he;cases he)] at hr
      have hTv:T=ZW d (L.take i ++ (p1,p2) :: L.drop i):=by rw[hT.out,hr]
      replace hTv:zC _:=hTv
      replace hT:zC _:=trivial
      replace hr:zC _:=trivial
      replace hb1:zC _:=trivial
      replace hxs:zC _:=hxs
      replace hx:zC _:=hx
      have hfp:flat (L.map (zY d))=flat (L.map (zY d)):=rfl
      have hlen:(List.take i (List.map (zY d) L)).length=i:=by rw[List.length_take,List.length_map];omega
      have hld:(List.drop i (List.map (zY d) L)).length=L.length - i:=by rw[List.length_drop,List.length_map]
      have htk:List.take L.length (List.map (zY d) L)=List.map (zY d) L:=List.take_of_length_le (by simp)
      by_cases hi0:i=0
      ·subst hi0
       have hap1:=fun nm (h0:zI) (a b c:Bool) (s:Nat)=>apD_0 nm h0 a b c s 3 (.inr rfl)
       have hap2:∀(nm:Nat) (h0:zI) (a b c:Bool) (s:Nat),ZF Tryz.prog nm 28 (.fslc a true s []) (.fslc b c 3 [.agg [iv .i64 d,sv p1,sv p2]]) h0=some (.slc nm 0 1 3,h0.upd nm (some (.cells [iv .i64 d,sv p1,sv p2]))):=fun nm (h0:zI) (a b c:Bool) (s:Nat)=>apD_F nm h0 a b c s [.agg [iv .i64 d,sv p1,sv p2]] (by simp) (by simp)
       have hap3:=fun nm m (h0:zI) (b c:Bool)=>apD_S nm m h0 b c [iv .i64 d,sv p1,sv p2] (L.map (zY d)) 1 rfl (by rw[List.length_map];omega) (by rw[List.length_map];omega)
       rw[List.length_map] at hap3
       replace hap1:zC _:=hap1
       replace hap2:zC _:=hap2
       replace hap3:zC _:=hap3
       clear hlen hld hfp
       repeat' (first|(refine zF fun K hK=>?_))
       refine zq mixed (by kernel_rfl) fun K hK=>?_
       simp (disch:=omega) [go_sem, *]
       repeat' (first|(refine zF fun K hK=>?_)|(refine jm (by simp[go_sem]) (by simp (disch:=omega) [go_sem, *];first | exact rfl | exact⟨rfl,rfl,rfl⟩ | exact (k1).gcall ⟨rfl,rfl,rfl⟩) ?_;try simp only[zm])|(refine ZR ?_)|(apply zC.out hK;clear hK K;try with_reducible dsimp only[zD])|(apply zC.out hf;clear ht hf Kt Kf)|(clear hK K;apply zC.out hK;clear hK K;try with_reducible dsimp only[zD])|(refine zU ?_;simp only[zD,zO,if_true])|(refine zH fun Kt Kf ht hf=>?_;simp (disch:=omega) [go_sem, *];try (refine⟨fun hc=>?_,fun hc=>?_⟩ <;> try (exfalso;omega))))
       refine zq mixed (by kernel_rfl) fun K hK=>?_
       simp (disch:=omega) [go_sem, *]
       repeat' (first|(refine zF fun K hK=>?_)|(refine jm (by simp[go_sem]) (by simp (disch:=omega) [go_sem, *];first | exact rfl | exact⟨rfl,rfl,rfl⟩) ?_;try simp only[zm])|(refine ZR ?_)|(apply zC.out hK;clear hK K;try with_reducible dsimp only[zD])|(apply zC.out hf;clear ht hf Kt Kf)|(refine zK ?_;simp only[zD])|(refine zH fun Kt Kf ht hf=>?_;simp (disch:=omega) [go_sem, *];try (refine⟨fun hc=>?_,fun hc=>?_⟩ <;> try (exfalso;omega))))
       refine J8 [3] mixed (by kernel_rfl) (fun x hx=>by simp at hx;subst hx;exact⟨_,by simp[go_sem];rfl⟩) fun K hK=>?_
       simp (disch:=omega) [go_sem,htk,hap1.out,hap2.out,hap3.out,zP]
       repeat' (first|(apply zC.out hK;clear hK K;try with_reducible dsimp only[zD]))
       refine zg ?_
       try dsimp only[zD,zO]
       refine⟨by simp,_,(by first | rfl|(simp (disch:=omega) [go_sem,zG] <;> rfl)),?_⟩
       rw[hTv.out]
       refine ret_dut (d:=d) (ts:=L.take 0 ++ (p1,p2) :: L.drop 0) (by simp (disch:=omega) [zM,JH,zY,cellsOf]) (by simp;try omega) (by simp) ?_
       refine zc ⟨fun k hk=>?_,?_,rfl,by simp,by simp⟩
       ·simp (disch:=omega) only[zG]
       ·rw[dutF_ne d (by simp)];simp only[below];rw[Zl];intro y hy;obtain⟨o,_,rfl⟩:=List.mem_map.1 hy;simp[zY,below,belowL]
      ·skip
       have hap1:=fun nm (h0:zI) (a b c:Bool) (s:Nat)=>apD_F nm h0 a b c s (List.take i (L.map (zY d))) (by omega) (by omega)
       have hap2:∀(nm m:Nat) (h0:zI) (b c:Bool),ZF Tryz.prog nm 28 (.slc m 0 i 3) (.fslc b c 3 [.agg [iv .i64 d,sv p1,sv p2]]) (h0.upd m (some (.cells (flat (List.take i (L.map (zY d)))))))=some (.slc nm 0 (i + 1) 3,((h0.upd m (some (.cells (flat (List.take i (L.map (zY d))))))).upd m none).upd nm (some (.cells (flat (List.take i (L.map (zY d))) ++ [iv .i64 d,sv p1,sv p2])))):=fun nm m (h0:zI) (b c:Bool)=>apD_S nm m h0 b c (flat (List.take i (L.map (zY d)))) [.agg [iv .i64 d,sv p1,sv p2]] i (by rw[←List.map_take,qh,List.length_take];omega) (by simp) (by simp;omega)
       have hap3:=fun nm m (h0:zI) (b c:Bool)=>apD_S nm m h0 b c (flat (List.take i (L.map (zY d))) ++ [iv .i64 d,sv p1,sv p2]) (List.drop i (L.map (zY d))) (i + 1) (by rw[List.length_append,←List.map_take,qh,List.length_take];simp;omega) (by omega) (by omega)
       rw[hlen] at hap1
       rw[hld] at hap3
       replace hap1:zC _:=hap1
       replace hap2:zC _:=hap2
       replace hap3:zC _:=hap3
       clear hlen hld hfp
       repeat' (first|(refine zF fun K hK=>?_))
       refine zq mixed (by kernel_rfl) fun K hK=>?_
       simp (disch:=omega) [go_sem, *]
       repeat' (first|(refine zF fun K hK=>?_)|(refine jm (by simp[go_sem]) (by simp (disch:=omega) [go_sem, *,zQ,zP];first | exact rfl | exact⟨rfl,rfl,rfl⟩ | exact (k1).gcall ⟨rfl,rfl,rfl⟩) ?_;try simp only[zm])|(refine ZR ?_)|(apply zC.out hK;clear hK K;try with_reducible dsimp only[zD])|(apply zC.out hf;clear ht hf Kt Kf)|(clear hK K;apply zC.out hK;clear hK K;try with_reducible dsimp only[zD])|(refine zU ?_;simp only[zD,zO,if_true])|(refine zH fun Kt Kf ht hf=>?_;simp (disch:=omega) [go_sem, *];try (refine⟨fun hc=>?_,fun hc=>?_⟩ <;> try (exfalso;omega))))
       refine zq mixed (by kernel_rfl) fun K hK=>?_
       simp (disch:=omega) [go_sem, *]
       repeat' (first|(refine zF fun K hK=>?_)|(refine jm (by simp[go_sem]) (by simp (disch:=omega) [go_sem, *,zQ,zP];first | exact rfl | exact⟨rfl,rfl,rfl⟩) ?_;try simp only[zm])|(refine ZR ?_)|(apply zC.out hK;clear hK K;try with_reducible dsimp only[zD])|(apply zC.out hf;clear ht hf Kt Kf)|(refine zK ?_;simp only[zD])|(refine zH fun Kt Kf ht hf=>?_;simp (disch:=omega) [go_sem, *];try (refine⟨fun hc=>?_,fun hc=>?_⟩ <;> try (exfalso;omega))))
       refine J8 [3] mixed (by kernel_rfl) (fun x hx=>by simp at hx;subst hx;exact⟨_,by simp[go_sem];rfl⟩) fun K hK=>?_
       simp (disch:=omega) [go_sem,htk,hap1.out,hap2.out,hap3.out,zP]
       repeat' (first|(apply zC.out hK;clear hK K;try with_reducible dsimp only[zD]))
       refine zg ?_
       try dsimp only[zD,zO]
       refine⟨by simp,_,(by first | rfl|(simp (disch:=omega) [go_sem,zG] <;> rfl)),?_⟩
       rw[hTv.out]
       refine ret_dut (d:=d) (ts:=L.take i ++ (p1,p2) :: L.drop i) (by simp (disch:=omega) [zM,Jd,JH,List.map_take,List.map_drop,zY,cellsOf]) (by simp;try omega) (by simp) ?_
       refine zc ⟨fun k hk=>?_,?_,rfl,by simp,by simp⟩
       ·simp (disch:=omega) only[zG]
       ·rw[dutF_ne d (by simp)];simp only[below];rw[Zl];intro y hy;obtain⟨o,_,rfl⟩:=List.mem_map.1 hy;simp[zY,below,belowL]
   ·have hii:i=L.length:=by omega
    subst hii
    have hr:=insP_at L (p1,p2) L.length (Nat.le_refl _) hall.out (fun y hy=>by rw[List.getElem?_eq_none (Nat.le_refl _)] at hy;cases hy)
    rw[if_neg (by rintro⟨y,hy,he⟩;rw[List.getElem?_eq_none (Nat.le_refl _)] at hy;cases hy)] at hr
    have hTv:T=ZW d (L.take L.length ++ (p1,p2) :: L.drop L.length):=by rw[hT.out,hr]
    replace hTv:zC _:=hTv
    replace hT:zC _:=trivial
    replace hr:zC _:=trivial
    have hlen:(List.take L.length (List.map (zY d) L)).length=L.length:=by rw[List.length_take,List.length_map];omega
    have htk:List.take L.length (List.map (zY d) L)=List.map (zY d) L:=List.take_of_length_le (by simp)
    have hdk:List.drop L.length (List.map (zY d) L)=[]:=List.drop_eq_nil_of_le (by simp)
    have hap1:=fun nm (h0:zI) (a b c:Bool) (s:Nat)=>apD_F nm h0 a b c s (L.map (zY d)) (by rw[List.length_map];omega) (by rw[List.length_map];omega)
    have hap2:∀(nm m:Nat) (h0:zI) (b c:Bool),ZF Tryz.prog nm 28 (.slc m 0 L.length 3) (.fslc b c 3 [.agg [iv .i64 d,sv p1,sv p2]]) (h0.upd m (some (.cells (flat (L.map (zY d))))))=some (.slc nm 0 (L.length + 1) 3,((h0.upd m (some (.cells (flat (L.map (zY d)))))).upd m none).upd nm (some (.cells (flat (L.map (zY d)) ++ [iv .i64 d,sv p1,sv p2])))):=fun nm m (h0:zI) (b c:Bool)=>apD_S nm m h0 b c (flat (L.map (zY d))) [.agg [iv .i64 d,sv p1,sv p2]] L.length (by rw[qh]) (by simp) (by simp;omega)
    have hap3:=fun nm m (h0:zI) (b c:Bool)=>apD_S0 nm m h0 b c 3 (.inr rfl) (flat (L.map (zY d)) ++ [iv .i64 d,sv p1,sv p2]) (L.length + 1) (by rw[List.length_append,qh];simp;omega)
    rw[List.length_map] at hap1
    replace hap1:zC _:=hap1
    replace hap2:zC _:=hap2
    replace hap3:zC _:=hap3
    clear hlen
    repeat' (first|(refine zF fun K hK=>?_))
    refine zq mixed (by kernel_rfl) fun K hK=>?_
    simp (disch:=omega) [go_sem, *]
    repeat' (first|(refine zF fun K hK=>?_)|(refine jm (by simp[go_sem]) (by simp (disch:=omega) [go_sem, *];first | exact rfl | exact⟨rfl,rfl,rfl⟩) ?_;try simp only[zm])|(refine ZR ?_)|(apply zC.out hK;clear hK K;try with_reducible dsimp only[zD])|(apply zC.out hf;clear ht hf Kt Kf)|(clear hK K;apply zC.out hK;clear hK K;try with_reducible dsimp only[zD])|(refine zU ?_;simp only[zD,zO,if_true])|(refine zH fun Kt Kf ht hf=>?_;simp (disch:=omega) [go_sem, *];try (refine⟨fun hc=>?_,fun hc=>?_⟩ <;> try (exfalso;omega))))
    refine zq mixed (by kernel_rfl) fun K hK=>?_
    simp (disch:=omega) [go_sem, *]
    repeat' (first|(refine zF fun K hK=>?_)|(refine jm (by simp[go_sem]) (by simp (disch:=omega) [go_sem, *];first | exact rfl | exact⟨rfl,rfl,rfl⟩) ?_;try simp only[zm])|(refine ZR ?_)|(apply zC.out hK;clear hK K;try with_reducible dsimp only[zD])|(apply zC.out hf;clear ht hf Kt Kf)|(refine zK ?_;simp only[zD])|(refine zH fun Kt Kf ht hf=>?_;simp (disch:=omega) [go_sem, *];try (refine⟨fun hc=>?_,fun hc=>?_⟩ <;> try (exfalso;omega))))
    refine J8 [3] mixed (by kernel_rfl) (fun x hx=>by simp at hx;subst hx;exact⟨_,by simp[go_sem];rfl⟩) fun K hK=>?_
    simp (disch:=omega) [go_sem,htk,hdk,hap1.out,hap2.out,hap3.out,zP]
    repeat' (first|(apply zC.out hK;clear hK K;try with_reducible dsimp only[zD]))
    refine zg ?_
    try dsimp only[zD,zO]
    refine⟨by simp,_,(by first | rfl|(simp (disch:=omega) [go_sem,zG] <;> rfl)),?_⟩
    rw[hTv.out]
    refine ret_dut (d:=d) (ts:=L.take L.length ++ (p1,p2) :: L.drop L.length) (by simp (disch:=omega) [zM,Jd,JH,flat_nilD,zY,cellsOf]) (by simp;try omega) (by simp) ?_
    refine zc ⟨fun k hk=>?_,?_,rfl,by simp,by simp⟩
    ·simp (disch:=omega) only[zG]
    ·rw[dutF_ne d (by simp)];simp only[below];rw[Zl];intro y hy;obtain⟨o,_,rfl⟩:=List.mem_map.1 hy;simp[zY,below,belowL]
end Go.AM
namespace Go.AM
open Go.Proofs Cw Du
set_option maxRecDepth 10000
set_option maxHeartbeats 4000000
theorem dutF_nil (d:Int):ZW d []=.fslc true true 0 []:=rfl
theorem below_dutF (n:Nat) (d:Int) (L:List Pr):below n (ZW d L):=by
 unfold ZW
 split
 ·simp[below,belowL]
 ·exact below_dut n d L false false 3
theorem done_spec (d:Int) (D:List Pr) (x:Lin) (hk:Du.kindOk x) (hl:D.length≤1000):zL Tryz.prog 103 [ZW d D,zT x,iv .i64 d] (ZW d (je x D)):=by
 intro h n
 refine zS.pure (zS.entry (by kernel_rfl) fun hb _=>zX Tryz.func103 rfl (by kernel_rfl) (by simp[Tryz.ntmps103]) ?_)
 obtain⟨T,hT⟩:∃T,zC (T=ZW d (je x D)):=⟨_,rfl⟩
 rw[←hT.out]
 have kp:∀(A:List Pr) (p:Pr),A.length≤100000→zL Tryz.prog 66 [ZW d A,zY d p] (ZW d (Z3 A p)):=fun A p h=>put_spec d A p h
 obtain⟨nl,s,eD,hnl⟩:∃nl s,ZW d D=.fslc nl nl s (D.map (zY d))∧(D=[]∨nl=false∧s=3):=by
  unfold ZW
  split
  ·rename_i e;subst e;exact⟨true,0,rfl,.inl rfl⟩
  ·exact⟨false,3,rfl,.inr ⟨rfl,rfl⟩⟩
 rw[eD]
 clear eD
 have hlen:∀i,((D.take i).foldl (jC x) []).length≤1000:=fun i=>by
  have:=doneF_len x (D.take i) []
  have h2:(D.take i).length≤D.length:=by rw[List.length_take];omega
  simp only[List.length_nil] at this
  omega
 have hstep:∀(i:Nat) (q:Pr),D[i]? = some q→(D.take (i + 1)).foldl (jC x) []=jC x ((D.take i).foldl (jC x) []) q:=fun i q hq=>by
  obtain⟨hlt,e⟩:=List.getElem?_eq_some_iff.1 hq
  rw[List.take_succ_eq_append_getElem hlt,List.foldl_append,e];rfl
 have hend:zC (T=ZW d (if x.kind=1 then Z3 ((D.take D.length).foldl (jC x) []) (x.tower,x.person) else (D.take D.length).foldl (jC x) [])):=by
  show T=_
  rw[hT.out,je,List.take_length]
 clear hT
 have hkk:=hk
 unfold Du.kindOk at hkk
 replace hk:zC _:=trivial
 replace hnl:zC _:=hnl
 replace kp:zC _:=kp
 replace hlen:zC _:=hlen
 replace hstep:zC _:=hstep
 replace hkk:zC _:=hkk
 obtain⟨kd,tw,pe,ot,fr,to,ev,xnl,xfu,xs,exc⟩:=x
 simp only[zT]
 generalize List.map (iv .i64) exc=X at *
 repeat' (first|(refine zF fun K hK=>?_)|(refine zB fun K hK=>?_;simp (disch:=omega) [go_sem, *,Tryz.ntmps103])|(apply zC.out hK;clear hK K;try with_reducible dsimp only[zD])|(refine zJ ?_))
 refine za (fun s'=>∃(i n':Nat) (A:List Pr),n < n'∧i≤D.length∧A=(D.take i).foldl (jC ⟨kd,tw,pe,ot,fr,to,ev,xnl,xfu,xs,exc⟩) []∧s'=⟨85,[(0,.fslc nl nl s (D.map (zY d))),(2,iv .i64 d),(4,.ptr n 0),(7,ZW d A),(8,iv .i64 i)],h.upd n (some (.cells [iv .i64 kd,sv tw,sv pe,sv ot,iv .i64 fr,iv .i64 to,iv .i64 ev,.fslc xnl xfu xs X])),n'⟩)
  (fun s'=>D.length - (zf s' 8).toNat) ?_ ?_
 ·exact zb (by simp[go_sem,dutF_nil]) (Sub.refl _) ⟨0,_,[],by omega,by omega,rfl,rfl⟩
 ·rintro s' ⟨i,n',A,hn',hi,hA,rfl⟩
  have hA1:A.length≤100000:=by have:=hlen.out i;rw[←hA] at this;omega
  by_cases hlt:i < D.length
  ·obtain⟨⟨p1,p2⟩,hx⟩:∃o,D[i]=o:=⟨_,rfl⟩
   have hne:D≠[]:=fun e=>by rw[e] at hlt;simp at hlt
   obtain⟨rfl,rfl⟩:=hnl.out.resolve_left hne
   have hex:zY d D[i]=.agg [iv .i64 d,sv p1,sv p2]:=by rw[hx];rfl
   have hst:=hstep.out i (p1,p2) (by rw[List.getElem?_eq_getElem hlt,hx])
   rw[←hA] at hst
   have k1:=kp.out A (p1,p2) hA1
   have k2:=kp.out A (p1,ot) hA1
   have k3:=kp.out A (p1,pe) hA1
   simp only[zY] at k1 k2 k3
   simp only[jC,Js,qU,eqB] at hst
   replace hx:zC _:=hx
   replace hA:zC _:=hA
   replace hend:zC _:=trivial
   clear hne
   rcases hkk.out with hkd | hkd | hkd | ⟨hkd,_⟩
   all_goals (simp only at hkd;subst hkd)
   ·simp[*] at hst
    replace hst:zC _:=hst
    repeat' (first|(refine zF fun K hK=>?_)|(refine zB fun K hK=>?_;simp (disch:=omega) [go_sem, *,zN,zG,zQ,zP])|(apply zC.out hK;clear hK K;try with_reducible dsimp only[zD])|(apply zC.out ht;clear ht hf Kt Kf)|(apply zC.out hf;clear ht hf Kt Kf)|(with_reducible refine zL.gcall (k1) ?_;try simp (disch:=omega) [go_sem, *])|(refine zJ ?_)|(refine zK ?_;simp only[zD])|(refine zH fun Kt Kf ht hf=>?_;simp (disch:=omega) [go_sem, *];try (refine⟨fun hc=>?_,fun hc=>?_⟩ <;> try (exfalso;omega))))
    exact zV (by simp (disch:=omega) [go_sem]) (by repeat (first | exact Sub.refl _ | refine Sub.upd ?_ (by rw[zG _ _ _ _ (by omega)];exact hb.none (by omega)) _)) ⟨i + 1,_,Z3 A (p1,p2),by omega,by omega,hst.out.symm,rfl⟩ (by simp[zf,go_sem];omega)
   ·cases e1:(p2.toList == pe.toList) with
    | true=>
     simp[*] at hst
     replace hst:zC _:=hst
     repeat' (first|(refine zF fun K hK=>?_)|(refine zB fun K hK=>?_;simp (disch:=omega) [go_sem, *,zN,zG,zQ,zP])|(apply zC.out hK;clear hK K;try with_reducible dsimp only[zD])|(apply zC.out ht;clear ht hf Kt Kf)|(clear hK K;apply zC.out hK;clear hK K;try with_reducible dsimp only[zD])|(refine zJ ?_)|(refine zK ?_;simp only[zD])|(refine zU ?_;simp only[zD,zO,if_true,if_false,Nat.reduceEqDiff])|(refine zH fun Kt Kf ht hf=>?_;simp (disch:=omega) [go_sem, *];try (refine⟨fun hc=>?_,fun hc=>?_⟩ <;> try (exfalso;omega))))
     exact zV (by simp (disch:=omega) [go_sem]) (by repeat (first | exact Sub.refl _ | refine Sub.upd ?_ (by rw[zG _ _ _ _ (by omega)];exact hb.none (by omega)) _)) ⟨i + 1,_,A,by omega,by omega,hst.out.symm,rfl⟩ (by simp[zf,go_sem];omega)
    | false=>
     simp[*] at hst
     replace hst:zC _:=hst
     repeat' (first|(refine zF fun K hK=>?_)|(refine zB fun K hK=>?_;simp (disch:=omega) [go_sem, *,zN,zG,zQ,zP])|(apply zC.out hK;clear hK K;try with_reducible dsimp only[zD])|(apply zC.out ht;clear ht hf Kt Kf)|(apply zC.out hf;clear ht hf Kt Kf)|(with_reducible refine zL.gcall (k1) ?_;try simp (disch:=omega) [go_sem, *])|(refine zJ ?_)|(refine zK ?_;simp only[zD])|(refine zH fun Kt Kf ht hf=>?_;simp (disch:=omega) [go_sem, *];try (refine⟨fun hc=>?_,fun hc=>?_⟩ <;> try (exfalso;omega))))
     exact zV (by simp (disch:=omega) [go_sem]) (by repeat (first | exact Sub.refl _ | refine Sub.upd ?_ (by rw[zG _ _ _ _ (by omega)];exact hb.none (by omega)) _)) ⟨i + 1,_,Z3 A (p1,p2),by omega,by omega,hst.out.symm,rfl⟩ (by simp[zf,go_sem];omega)
   ·cases e2:(p1.toList == tw.toList) with
    | true=>
     simp[*] at hst
     replace hst:zC _:=hst
     repeat' (first|(refine zF fun K hK=>?_)|(refine zB fun K hK=>?_;simp (disch:=omega) [go_sem, *,zN,zG,zQ,zP])|(apply zC.out hK;clear hK K;try with_reducible dsimp only[zD])|(apply zC.out ht;clear ht hf Kt Kf)|(clear hK K;apply zC.out hK;clear hK K;try with_reducible dsimp only[zD])|(refine zJ ?_)|(refine zK ?_;simp only[zD])|(refine zU ?_;simp only[zD,zO,if_true,if_false,Nat.reduceEqDiff])|(refine zH fun Kt Kf ht hf=>?_;simp (disch:=omega) [go_sem, *];try (refine⟨fun hc=>?_,fun hc=>?_⟩ <;> try (exfalso;omega))))
     exact zV (by simp (disch:=omega) [go_sem]) (by repeat (first | exact Sub.refl _ | refine Sub.upd ?_ (by rw[zG _ _ _ _ (by omega)];exact hb.none (by omega)) _)) ⟨i + 1,_,A,by omega,by omega,hst.out.symm,rfl⟩ (by simp[zf,go_sem];omega)
    | false=>
     simp[*] at hst
     replace hst:zC _:=hst
     repeat' (first|(refine zF fun K hK=>?_)|(refine zB fun K hK=>?_;simp (disch:=omega) [go_sem, *,zN,zG,zQ,zP])|(apply zC.out hK;clear hK K;try with_reducible dsimp only[zD])|(apply zC.out ht;clear ht hf Kt Kf)|(apply zC.out hf;clear ht hf Kt Kf)|(with_reducible refine zL.gcall (k1) ?_;try simp (disch:=omega) [go_sem, *])|(refine zJ ?_)|(refine zK ?_;simp only[zD])|(refine zH fun Kt Kf ht hf=>?_;simp (disch:=omega) [go_sem, *];try (refine⟨fun hc=>?_,fun hc=>?_⟩ <;> try (exfalso;omega))))
     exact zV (by simp (disch:=omega) [go_sem]) (by repeat (first | exact Sub.refl _ | refine Sub.upd ?_ (by rw[zG _ _ _ _ (by omega)];exact hb.none (by omega)) _)) ⟨i + 1,_,Z3 A (p1,p2),by omega,by omega,hst.out.symm,rfl⟩ (by simp[zf,go_sem];omega)
   ·cases e1:(p2.toList == pe.toList) with
    | true=>
     simp[*] at hst
     replace hst:zC _:=hst
     repeat' (first|(refine zF fun K hK=>?_)|(refine zB fun K hK=>?_;simp (disch:=omega) [go_sem, *,zN,zG,zQ,zP])|(apply zC.out hK;clear hK K;try with_reducible dsimp only[zD])|(apply zC.out ht;clear ht hf Kt Kf)|(apply zC.out hf;clear ht hf Kt Kf)|(with_reducible refine zL.gcall (k2) ?_;try simp (disch:=omega) [go_sem, *])|(refine zJ ?_)|(refine zK ?_;simp only[zD])|(refine zH fun Kt Kf ht hf=>?_;simp (disch:=omega) [go_sem, *];try (refine⟨fun hc=>?_,fun hc=>?_⟩ <;> try (exfalso;omega))))
     exact zV (by simp (disch:=omega) [go_sem]) (by repeat (first | exact Sub.refl _ | refine Sub.upd ?_ (by rw[zG _ _ _ _ (by omega)];exact hb.none (by omega)) _)) ⟨i + 1,_,Z3 A (p1,ot),by omega,by omega,hst.out.symm,rfl⟩ (by simp[zf,go_sem];omega)
    | false=>
     cases e3:(p2.toList == ot.toList) with
     | true=>
      simp[*] at hst
      replace hst:zC _:=hst
      repeat' (first|(refine zF fun K hK=>?_)|(refine zB fun K hK=>?_;simp (disch:=omega) [go_sem, *,zN,zG,zQ,zP])|(apply zC.out hK;clear hK K;try with_reducible dsimp only[zD])|(apply zC.out ht;clear ht hf Kt Kf)|(apply zC.out hf;clear ht hf Kt Kf)|(with_reducible refine zL.gcall (k3) ?_;try simp (disch:=omega) [go_sem, *])|(refine zJ ?_)|(refine zK ?_;simp only[zD])|(refine zH fun Kt Kf ht hf=>?_;simp (disch:=omega) [go_sem, *];try (refine⟨fun hc=>?_,fun hc=>?_⟩ <;> try (exfalso;omega))))
      exact zV (by simp (disch:=omega) [go_sem]) (by repeat (first | exact Sub.refl _ | refine Sub.upd ?_ (by rw[zG _ _ _ _ (by omega)];exact hb.none (by omega)) _)) ⟨i + 1,_,Z3 A (p1,pe),by omega,by omega,hst.out.symm,rfl⟩ (by simp[zf,go_sem];omega)
     | false=>
      simp[*] at hst
      replace hst:zC _:=hst
      repeat' (first|(refine zF fun K hK=>?_)|(refine zB fun K hK=>?_;simp (disch:=omega) [go_sem, *,zN,zG,zQ,zP])|(apply zC.out hK;clear hK K;try with_reducible dsimp only[zD])|(apply zC.out ht;clear ht hf Kt Kf)|(apply zC.out hf;clear ht hf Kt Kf)|(with_reducible refine zL.gcall (k1) ?_;try simp (disch:=omega) [go_sem, *])|(refine zJ ?_)|(refine zK ?_;simp only[zD])|(refine zH fun Kt Kf ht hf=>?_;simp (disch:=omega) [go_sem, *];try (refine⟨fun hc=>?_,fun hc=>?_⟩ <;> try (exfalso;omega))))
      exact zV (by simp (disch:=omega) [go_sem]) (by repeat (first | exact Sub.refl _ | refine Sub.upd ?_ (by rw[zG _ _ _ _ (by omega)];exact hb.none (by omega)) _)) ⟨i + 1,_,Z3 A (p1,p2),by omega,by omega,hst.out.symm,rfl⟩ (by simp[zf,go_sem];omega)
  ·have hii:i=D.length:=by omega
   subst hii
   have he:=hend.out
   rw[←hA] at he
   have k1:=kp.out A (tw,pe) hA1
   simp only[zY] at k1
   replace hA:zC _:=hA
   replace hend:zC _:=trivial
   by_cases h1:kd=1
   ·rw[if_pos h1] at he
    subst h1
    subst he
    replace hkk:zC _:=trivial
    repeat' (first|(refine zF fun K hK=>?_)|(refine zB fun K hK=>?_;simp (disch:=omega) [go_sem, *])|(apply zC.out hK;clear hK K;try with_reducible dsimp only[zD])|(apply zC.out ht;clear ht hf Kt Kf)|(apply zC.out hf;clear ht hf Kt Kf)|(clear hK K;apply zC.out hK;clear hK K;try with_reducible dsimp only[zD])|(with_reducible refine zL.gcall (k1) ?_;try simp (disch:=omega) [go_sem, *])|(refine zU ?_;simp only[zD,zO,if_true])|(refine zH fun Kt Kf ht hf=>?_;simp (disch:=omega) [go_sem, *];try (refine⟨fun hc=>?_,fun hc=>?_⟩ <;> try (exfalso;omega))))
    (refine zg ?_;try dsimp only[zD,zO];refine⟨by simp,_,(by first | rfl|(simp (disch:=omega) [go_sem,zG] <;> rfl)),?_⟩;refine zc ⟨fun k hk=>(by first | rfl|(repeat rw[zG _ _ _ _ (by omega)])),(by simp[go_sem,below_dutF]),(by simp[go_sem] <;> omega),by simp,by simp⟩)
   ·rw[if_neg h1] at he
    subst he
    repeat' (first|(refine zF fun K hK=>?_)|(refine zB fun K hK=>?_;simp (disch:=omega) [go_sem, *])|(apply zC.out hK;clear hK K;try with_reducible dsimp only[zD])|(apply zC.out hf;clear ht hf Kt Kf)|(clear hK K;apply zC.out hK;clear hK K;try with_reducible dsimp only[zD])|(refine zK ?_;simp only[zD])|(refine zU ?_;simp only[zD,zO,if_true])|(refine zH fun Kt Kf ht hf=>?_;simp (disch:=omega) [go_sem, *];try (refine⟨fun hc=>?_,fun hc=>?_⟩ <;> try (exfalso;omega))))
    (refine zg ?_;try dsimp only[zD,zO];refine⟨by simp,_,(by first | rfl|(simp (disch:=omega) [go_sem,zG] <;> rfl)),?_⟩;refine zc ⟨fun k hk=>(by first | rfl|(repeat rw[zG _ _ _ _ (by omega)])),(by simp[go_sem,below_dutF]),(by simp[go_sem] <;> omega),by simp,by simp⟩)
end Go.AM
namespace Go.AM
open Go.Proofs Cw Du
set_option maxRecDepth 10000
set_option maxHeartbeats 4000000
theorem day_spec (nl fu:Bool) (s:Nat) (ls:List Lin) (hnl:ls=[]∨nl=false∧s=8) (hl:ls.length≤1000) (hk:∀l ∈ ls,lnOk l) (onl ofu:Bool) (os:Nat) (O:List AV) (d:Int) (h0:0≤d) (h4:d≤400) :
  zL Tryz.prog 46 [.agg [.fslc nl fu s (ls.map zT),.fslc onl ofu os O],iv .i64 d] (ZW d (dayR ls d)):=by
 intro h n
 refine zS.pure (zS.entry (by kernel_rfl) fun hb _=>zX Tryz.func46 rfl (by kernel_rfl) (by simp[Tryz.ntmps46]) ?_)
 obtain⟨T,hT⟩:∃T,zC (T=ZW d ((ls.take ls.length).foldl (JJ d) [])):=⟨_,rfl⟩
 have hTe:ZW d (dayR ls d)=T:=by rw[hT.out,List.take_length];rfl
 rw[hTe]
 clear hTe
 have hlen:∀i,i≤ls.length→((ls.take i).foldl (JJ d) []).length≤1000:=fun i hi=>by
  have:=dayR_len d (ls.take i) []
  rw[List.length_take] at this
  simp only[List.length_nil] at this
  omega
 have hstep:∀(i:Nat) (q:Lin),ls[i]? = some q→(ls.take (i + 1)).foldl (JJ d) []=JJ d ((ls.take i).foldl (JJ d) []) q:=fun i q hq=>by
  obtain⟨hlt,e⟩:=List.getElem?_eq_some_iff.1 hq
  rw[List.take_succ_eq_append_getElem hlt,List.foldl_append,e];rfl
 replace hnl:zC _:=hnl
 replace hk:zC _:=hk
 replace hlen:zC _:=hlen
 replace hstep:zC _:=hstep
 repeat' (first|(refine zF fun K hK=>?_)|(refine zB fun K hK=>?_;simp (disch:=omega) [go_sem, *,Tryz.ntmps46])|(apply zC.out hK;clear hK K;try with_reducible dsimp only[zD])|(refine zJ ?_))
 refine za (fun s'=>∃(i n':Nat) (A:List Pr),n < n'∧i≤ls.length∧A=(ls.take i).foldl (JJ d) []∧s'=⟨32,[(1,iv .i64 d),(2,.ptr n 0),(5,ZW d A),(6,iv .i64 i)],h.upd n (some (.cells [.fslc nl fu s (ls.map zT),.fslc onl ofu os O])),n'⟩)
  (fun s'=>ls.length - (zf s' 6).toNat) ?_ ?_
 ·exact zb (by simp[go_sem,dutF_nil]) (Sub.refl _) ⟨0,_,[],by omega,by omega,rfl,rfl⟩
 ·rintro s' ⟨i,n',A,hn',hi,hA,rfl⟩
  have hA1:A.length≤1000:=by rw[hA];exact hlen.out i hi
  by_cases hlt:i < ls.length
  ·obtain⟨x,hx⟩:∃o,ls[i]=o:=⟨_,rfl⟩
   have hmem:x ∈ ls:=hx ▸ List.getElem_mem hlt
   have hne:ls≠[]:=fun e=>by rw[e] at hlt;simp at hlt
   obtain⟨rfl,rfl⟩:=hnl.out.resolve_left hne
   obtain⟨w1,w2,w3⟩:=hk.out x hmem
   have k1:=is_spec x w1 w2 d h0 h4
   have k2:=done_spec d A x w3 hA1
   have hst:=hstep.out i x (by rw[List.getElem?_eq_getElem hlt,hx])
   rw[←hA] at hst
   have hex:zT ls[i]=.agg [iv .i64 x.kind,sv x.tower,sv x.person,sv x.other,iv .i64 x.fr,iv .i64 x.to,iv .i64 x.ev,.fslc x.nl x.fu x.s (x.exc.map (iv .i64))]:=by rw[hx];rfl
   simp only[zT] at k1 k2
   unfold JJ at hst
   replace hx:zC _:=hx
   replace hA:zC _:=hA
   clear hmem hne w1 w2 w3
   cases hon:onL x d with
   | true=>
    rw[hon,if_pos rfl] at hst
    rw[hon] at k1
    replace hst:zC _:=hst
    replace hon:zC _:=trivial
    generalize je x A=A2 at *
    obtain⟨kd,tw,pe,ot,fr,to,ev,xnl,xfu,xs,exc⟩:=x
    simp only at k1 k2 hex
    generalize List.map (iv .i64) exc=X at *
    repeat' (first|(refine zF fun K hK=>?_)|(refine zB fun K hK=>?_;simp (disch:=omega) [go_sem, *,zN,zQ,zP])|(apply zC.out hK;clear hK K;try with_reducible dsimp only[zD])|(apply zC.out ht;clear ht hf Kt Kf)|(with_reducible refine zL.gcall (k1) ?_;try simp (disch:=omega) [go_sem, *])|(with_reducible refine zL.gcall (k2) ?_;try simp (disch:=omega) [go_sem, *])|(refine zJ ?_)|(refine zK ?_;simp only[zD])|(refine zH fun Kt Kf ht hf=>?_;simp (disch:=omega) [go_sem, *];try (refine⟨fun hc=>?_,fun hc=>?_⟩ <;> try (exfalso;omega))))
    exact zV (by simp (disch:=omega) [go_sem]) (Sub.refl _) ⟨i + 1,_,A2,by omega,by omega,hst.out.symm,rfl⟩ (by simp[zf,go_sem];omega)
   | false=>
    rw[hon,if_neg (by simp)] at hst
    rw[hon] at k1
    replace hst:zC _:=hst
    replace hon:zC _:=trivial
    clear k2
    obtain⟨kd,tw,pe,ot,fr,to,ev,xnl,xfu,xs,exc⟩:=x
    simp only at k1 hex
    generalize List.map (iv .i64) exc=X at *
    repeat' (first|(refine zF fun K hK=>?_)|(refine zB fun K hK=>?_;simp (disch:=omega) [go_sem, *,zN,zQ,zP])|(apply zC.out hK;clear hK K;try with_reducible dsimp only[zD])|(apply zC.out ht;clear ht hf Kt Kf)|(apply zC.out hf;clear ht hf Kt Kf)|(with_reducible refine zL.gcall (k1) ?_;try simp (disch:=omega) [go_sem, *])|(refine zJ ?_)|(refine zK ?_;simp only[zD,zO])|(refine zH fun Kt Kf ht hf=>?_;simp (disch:=omega) [go_sem, *];try (refine⟨fun hc=>?_,fun hc=>?_⟩ <;> try (exfalso;omega))))
    exact zV (by simp (disch:=omega) [go_sem]) (Sub.refl _) ⟨i + 1,_,A,by omega,by omega,hst.out.symm,rfl⟩ (by simp[zf,go_sem];omega)
  ·have hii:i=ls.length:=by omega
   subst hii
   have hTT:T=ZW d A:=by rw[hT.out,hA]
   subst hTT
   replace hT:zC _:=trivial
   replace hA:zC _:=hA
   repeat' (first|(refine zF fun K hK=>?_)|(refine zB fun K hK=>?_;simp (disch:=omega) [go_sem, *])|(apply zC.out hK;clear hK K;try with_reducible dsimp only[zD])|(apply zC.out hf;clear ht hf Kt Kf)|(clear hK K;apply zC.out hK;clear hK K;try with_reducible dsimp only[zD])|(refine zU ?_;simp only[zD,zO,if_true])|(refine zH fun Kt Kf ht hf=>?_;simp (disch:=omega) [go_sem, *];try (refine⟨fun hc=>?_,fun hc=>?_⟩ <;> try (exfalso;omega))))
   (refine zg ?_;try dsimp only[zD,zO];refine⟨by simp,_,(by first | rfl|(simp (disch:=omega) [go_sem,zG] <;> rfl)),?_⟩;refine zc ⟨fun k hk=>(by first | rfl|(repeat rw[zG _ _ _ _ (by omega)])),(by simp[go_sem,below_dutF]),(by simp[go_sem] <;> omega),by simp,by simp⟩)
end Go.AM
