/- Duties of a day, by the specification. Conditions: as each theorem says. -/
import Derived.Test.YtkbgmkhdjmkpdaaGreatDoorDc
namespace Du
theorem insP_at:∀(l:List Pr) (p:Pr) (i:Nat),i≤l.length→(∀(j:Nat) (x:Pr),j < i→l[j]? = some x→ltP x p=true)→(∀x:Pr,l[i]? = some x→ltP x p=false)→jr l p=if (∃x,l[i]? = some x∧eqPr x p=true) then l else l.take i ++ p :: l.drop i
 | [],p,i,hi,_,_=>by
  have:i=0:=by simpa using hi
  subst this;simp[jr]
 | y :: r,p,0,_,_,h2=>by
  have hy:=h2 y (by simp)
  simp only[jr,hy]
  rw[if_neg (by simp)]
  simp
 | y :: r,p,i + 1,hi,h1,h2=>by
  have hy:=h1 0 y (by omega) (by simp)
  have ih:=insP_at r p i (by simpa using hi) (fun j x hj hx=>h1 (j + 1) x (by omega) (by simpa using hx)) (fun x hx=>h2 x (by simpa using hx))
  simp only[jr]
  rw[if_pos hy,ih]
  simp only[List.getElem?_cons_succ,List.take_succ_cons,List.drop_succ_cons,List.cons_append]
  split <;> rfl
theorem insP_len (p:Pr):∀l:List Pr,(jr l p).length≤l.length + 1
 | []=>by simp[jr]
 | x :: r=>by
  have:=insP_len p r
  rw[jr]
  split
  ·simp only[List.length_cons];omega
  ·split
   ·omega
   ·simp
theorem doneF_len (l:Lin):∀(D A:List Pr),(D.foldl (Z8 l) A).length≤A.length + D.length
 | [],A=>by simp
 | x :: r,A=>by
  have h1:=doneF_len l r (Z8 l A x)
  have h2:(Z8 l A x).length≤A.length + 1:=by
   unfold Z8;split
   ·omega
   ·exact insP_len _ _
  rw[List.foldl_cons,List.length_cons];omega
theorem doneR_len (l:Lin) (D:List Pr):(jY l D).length≤D.length + 1:=by
 have h:=doneF_len l D []
 simp only[List.length_nil,Nat.zero_add] at h
 unfold jY
 split
 ·have:=insP_len (l.tower,l.person) (D.foldl (Z8 l) []);omega
 ·omega
theorem dayR_len (d:Int):∀(ls:List Lin) (R:List Pr),(ls.foldl (JF d) R).length≤R.length + ls.length
 | [],R=>by simp
 | x :: r,R=>by
  have h1:=dayR_len d r (JF d R x)
  have h2:(JF d R x).length≤R.length + 1:=by
   unfold JF;split
   ·exact doneR_len _ _
   ·omega
  rw[List.foldl_cons,List.length_cons];omega
end Du
namespace Go.AM
open Go.Proofs Cw Du Go.RowKit
set_option maxRecDepth 10000
set_option maxHeartbeats 4000000
theorem rless_spec (a b:Int) (p q:Pr):zJ Tryz.prog 123 [dutyA a p,dutyA b q] (bv (ltP p q)):=by
 intro h n
 refine zQ.pure (zQ.entry (by kernel_rfl) fun hb _=>zV Tryz.func123 rfl (by kernel_rfl) (by simp[Tryz.ntmps123]) ?_)
 obtain⟨p1,p2⟩:=p
 obtain⟨q1,q2⟩:=q
 simp only[ltP,bl,eqB,dutyA]
 cases c1:Op.bytesLess p1.toList q1.toList with
 | true=>
  simp only[Bool.true_or]
  repeat' (first|(refine zD fun K hK=>?_)|(refine zA fun K hK=>?_;simp (disch:=omega) [go_sem, *,zG,Tryz.ntmps123])|(apply zB.out hK;clear hK K;try with_reducible dsimp only[zC]))
  exact zR
 | false=>
  simp only[Bool.false_or]
  cases c2:(p1.toList == q1.toList) with
  | true=>
   simp only[Bool.true_and]
   repeat' (first|(refine zD fun K hK=>?_)|(refine zA fun K hK=>?_;simp (disch:=omega) [go_sem, *,zG,Tryz.ntmps123])|(apply zB.out hK;clear hK K;try with_reducible dsimp only[zC]))
   exact zR
  | false=>
   simp only[Bool.false_and]
   repeat' (first|(refine zD fun K hK=>?_)|(refine zA fun K hK=>?_;simp (disch:=omega) [go_sem, *,zG,Tryz.ntmps123])|(apply zB.out hK;clear hK K;try with_reducible dsimp only[zC]))
   exact zR
theorem is_spec (l:Lin) (hw:Qe l) (hn:numOk l) (d:Int) (h0:0≤d) (h4:d≤400):zJ Tryz.prog 102 [zg l,iv .i64 d] (bv (onL l d)):=by
 intro h n
 obtain⟨q1,q2,q3,q4,q5,q6⟩:=hn
 refine zQ.pure (zQ.entry (by kernel_rfl) fun hb _=>zV Tryz.func102 rfl (by kernel_rfl) (by simp[Tryz.ntmps102]) ?_)
 obtain⟨T,hT⟩:∃T,zB (T=onL l d):=⟨_,rfl⟩
 rw[←hT.out]
 have hT2:T=(decide (l.fr≤d) && decide (d≤l.to) && decide ((d - l.fr) % l.ev=0) && !decide (d ∈ l.exc)):=by rw[hT.out,onL]
 replace hT:zB _:=trivial
 obtain⟨kd,tw,pe,ot,fr,to,ev,nl,fu,s,exc⟩:=l
 simp only[Qe] at q1 q2 q3 q4 q5 q6 hT2 hw
 simp only[zg]
 replace hw:zB _:=hw
 by_cases c1:d < fr
 ·have hTT:T=false:=by rw[hT2,show decide (fr≤d)=false from by simpa using c1];simp
  subst hTT
  clear hT2
  repeat' (first|(refine zD fun K hK=>?_)|(refine zA fun K hK=>?_;simp (disch:=omega) [go_sem, *,Tryz.ntmps102])|(apply zB.out hK;clear hK K;try with_reducible dsimp only[zC])|(apply zB.out ht;clear ht hf Kt Kf)|(refine zF fun Kt Kf ht hf=>?_;simp (disch:=omega) [go_sem, *];try (refine⟨fun hc=>?_,fun hc=>?_⟩ <;> try (exfalso;omega))))
  exact zR
 ·by_cases c2:d > to
  ·have hTT:T=false:=by rw[hT2,show decide (d≤to)=false from by simpa using c2];simp
   subst hTT
   clear hT2
   repeat' (first|(refine zD fun K hK=>?_)|(refine zA fun K hK=>?_;simp (disch:=omega) [go_sem, *,Tryz.ntmps102])|(apply zB.out hK;clear hK K;try with_reducible dsimp only[zC])|(apply zB.out ht;clear ht hf Kt Kf)|(refine zF fun Kt Kf ht hf=>?_;simp (disch:=omega) [go_sem, *];try (refine⟨fun hc=>?_,fun hc=>?_⟩ <;> try (exfalso;omega))))
   exact zR
  ·have e1:decide (fr≤d)=true:=by simpa using c1
   have e2:decide (d≤to)=true:=by simpa using c2
   rw[e1,e2] at hT2
   have hmod:(d - fr).tmod ev=(d - fr) % ev:=by
    obtain⟨a,ha⟩:=Int.eq_ofNat_of_zero_le (show 0≤d - fr by omega)
    obtain⟨b,hb⟩:=Int.eq_ofNat_of_zero_le (show 0≤ev by omega)
    rw[ha,hb];rfl
   have hm0:0≤(d - fr) % ev:=Int.emod_nonneg _ (by omega)
   have hm1:(d - fr) % ev < ev:=Int.emod_lt_of_pos _ (by omega)
   have hev:¬ev=0:=by omega
   generalize hr:(d - fr) % ev=r at *
   clear hr e1 e2
   by_cases r0:r=0
   ·have hTT:T = !decide (d ∈ exc):=by rw[hT2,r0];simp
    subst r0
    replace hTT:zB _:=hTT
    clear hT2
    repeat' (first|(refine zD fun K hK=>?_)|(refine zA fun K hK=>?_;simp (disch:=omega) [go_sem, *,zM,Tryz.ntmps102])|(apply zB.out hK;clear hK K;try with_reducible dsimp only[zC])|(apply zB.out hf;clear ht hf Kt Kf)|(refine zI ?_)|(refine zK ?_;simp only[zC])|(refine zF fun Kt Kf ht hf=>?_;simp (disch:=omega) [go_sem, *];try (refine⟨fun hc=>?_,fun hc=>?_⟩ <;> try (exfalso;omega))))
    refine zW (fun s'=>∃(i n':Nat),n < n'∧i≤exc.length∧(∀j x,j < i→exc[j]? = some x→x≠d)∧s'=⟨40,[(1,iv .i64 d),(2,.ptr n 0),(5,iv .i64 i)],h.upd n (some (.cells [iv .i64 kd,sv tw,sv pe,sv ot,iv .i64 fr,iv .i64 to,iv .i64 ev,.fslc nl fu s (exc.map (iv .i64))])),n'⟩)
     (fun s'=>exc.length - (zY s' 5).toNat) ?_ ?_
    ·exact zX (by simp[go_sem]) (Sub.refl _) ⟨0,_,by omega,by omega,fun j x hj=>by omega,rfl⟩
    ·rintro s' ⟨i,n',hn',hi,hall,rfl⟩
     replace hall:zB _:=hall
     by_cases hlt:i < exc.length
     ·obtain⟨x,hx⟩:∃x,exc[i]=x:=⟨_,rfl⟩
      have hmem:x ∈ exc:=hx ▸ List.getElem_mem hlt
      have hne:exc≠[]:=fun e=>by rw[e] at hlt;simp at hlt
      obtain⟨rfl,rfl⟩:=hw.out.resolve_left hne
      have hxs:exc[i]? = some x:=by rw[List.getElem?_eq_getElem hlt,hx]
      by_cases he:x=d
      ·have hTf:T=false:=by rw[hTT.out];simp;exact he ▸ hmem
       subst hTf
       subst he
       clear hne hmem
       replace hxs:zB _:=hxs
       repeat' (first|(refine zD fun K hK=>?_)|(refine zA fun K hK=>?_;simp (disch:=omega) [go_sem, *,zN,zO])|(apply zB.out hK;clear hK K;try with_reducible dsimp only[zC])|(apply zB.out ht;clear ht hf Kt Kf)|(refine zI ?_)|(refine zK ?_;simp only[zC])|(refine zF fun Kt Kf ht hf=>?_;simp (disch:=omega) [go_sem, *];try (refine⟨fun hc=>?_,fun hc=>?_⟩ <;> try (exfalso;omega))))
       exact zR
      ·have hef:(x == d)=false:=by simpa using he
       clear hne hmem
       replace hxs:zB _:=hxs
       replace he:zB _:=he
       repeat' (first|(refine zD fun K hK=>?_)|(refine zA fun K hK=>?_;simp (disch:=omega) [go_sem, *,zM,zN,zO])|(apply zB.out hK;clear hK K;try with_reducible dsimp only[zC])|(apply zB.out ht;clear ht hf Kt Kf)|(apply zB.out hf;clear ht hf Kt Kf)|(refine zI ?_)|(refine zK ?_;simp only[zC,zP])|(refine zF fun Kt Kf ht hf=>?_;simp (disch:=omega) [go_sem, *];try (refine⟨fun hc=>?_,fun hc=>?_⟩ <;> try (exfalso;omega))))
       exact zS (by simp (disch:=omega) [go_sem]) (Sub.refl _) ⟨i + 1,_,by omega,by omega,fun j y hj hy=>by
        rcases Nat.lt_or_ge j i with h1 | h1
        ·exact hall.out j y h1 hy
        ·have:j=i:=by omega
         subst this
         rw[hxs.out] at hy;cases hy;exact he.out,rfl⟩ (by simp[zY,go_sem];omega)
     ·have hTt:T=true:=by
       rw[hTT.out];simp
       intro hm
       obtain⟨j,hj,e⟩:=List.getElem_of_mem hm
       exact hall.out j d (by omega) (by rw[List.getElem?_eq_getElem hj,e]) rfl
      subst hTt
      repeat' (first|(refine zD fun K hK=>?_)|(refine zA fun K hK=>?_;simp (disch:=omega) [go_sem, *,zU])|(apply zB.out hK;clear hK K;try with_reducible dsimp only[zC])|(apply zB.out hf;clear ht hf Kt Kf)|(clear hK K;apply zB.out hK;clear hK K;try with_reducible dsimp only[zC])|(refine zT ?_;simp only[zC,zP,if_true])|(refine zF fun Kt Kf ht hf=>?_;simp (disch:=omega) [go_sem, *];try (refine⟨fun hc=>?_,fun hc=>?_⟩ <;> try (exfalso;omega))))
      exact zR
   ·have hTT:T=false:=by rw[hT2];simp[r0]
    subst hTT
    clear hT2
    repeat' (first|(refine zD fun K hK=>?_)|(refine zA fun K hK=>?_;simp (disch:=omega) [go_sem, *,zM,Tryz.ntmps102])|(apply zB.out hK;clear hK K;try with_reducible dsimp only[zC])|(apply zB.out ht;clear ht hf Kt Kf)|(refine zF fun Kt Kf ht hf=>?_;simp (disch:=omega) [go_sem, *];try (refine⟨fun hc=>?_,fun hc=>?_⟩ <;> try (exfalso;omega))))
    exact zR
end Go.AM
namespace Go.AM
open Go.Proofs Cw Du
set_option maxRecDepth 10000
theorem jh (d:Int) (L:List Pr):(flat (L.map (dutyA d))).length=L.length * 3:=by
 have:=Zy (s:=3) (L:=L.map (dutyA d)) (fun y hy=>by obtain⟨o,_,rfl⟩:=List.mem_map.1 hy;exact duty_len d o)
 rw[this,List.length_map]
theorem apD_0 (nm:Nat) (h:zH) (nl nl' fu':Bool) (s s':Nat) (hs:s'=0∨s'=3):zm Tryz.prog nm 28 (.fslc nl true s []) (.fslc nl' fu' s' []) h=some (.fslc nl true s [],h):=by
 rcases hs with rfl | rfl <;> simp[zm,eltOf28,szOf51,byOf51,zerOf51,ZG,cellsOf,AV.scalar,flat]
theorem apD_F (nm:Nat) (h:zH) (nl nl' fu':Bool) (s:Nat) (xs:List AV) (hx:xs.length≠0) (hl:xs.length≤67108864) :
  zm Tryz.prog nm 28 (.fslc nl true s []) (.fslc nl' fu' 3 xs) h=some (.slc nm 0 xs.length 3,h.upd nm (some (.cells (flat xs)))):=by
 simp[zm,eltOf28,szOf51,byOf51,zerOf51,ZG,cellsOf,AV.scalar,hx,hl,flat]
theorem apD_S (nm m:Nat) (h:zH) (nl' fu':Bool) (c xs:List AV) (len:Nat) (hc:c.length=len * 3) (hx:xs.length≠0) (hl:len + xs.length≤67108864) :
  zm Tryz.prog nm 28 (.slc m 0 len 3) (.fslc nl' fu' 3 xs) (h.upd m (some (.cells c)))=some (.slc nm 0 (len + xs.length) 3,((h.upd m (some (.cells c))).upd m none).upd nm (some (.cells (c ++ flat xs)))):=by
 have h1:¬(len + xs.length) * 3≤len * 3:=by omega
 simp[zm,eltOf28,szOf51,byOf51,zerOf51,ZG,cellsOf,AV.scalar,h1,hl,zL,hc]
theorem apD_S0 (nm m:Nat) (h:zH) (nl' fu':Bool) (s':Nat) (hs:s'=0∨s'=3) (c:List AV) (len:Nat) (hc:c.length=len * 3) :
  zm Tryz.prog nm 28 (.slc m 0 len 3) (.fslc nl' fu' s' []) (h.upd m (some (.cells c)))=some (.slc m 0 len 3,(h.upd m (some (.cells c))).upd m (some (.cells c))):=by
 have e:zr c (len * 3) []=c:=by simp[zr,←hc]
 rcases hs with rfl | rfl <;> simp[zm,eltOf28,szOf51,byOf51,zerOf51,ZG,cellsOf,AV.scalar,flat,zL,hc,e]
theorem ret_dut {fl:Nat} {K:AV→zH→Nat→Prop} {m len:Nat} {d:Int} {ts:List Pr} {h:zH} {n:Nat} [Vars] (hm:h m=some (.cells (flat (ts.map (dutyA d))))) (hl:len=ts.length) (hne:ts≠[]) (hk:ZD fl K (Ze d ts) (h.upd m none) n):ZD fl K (.slc m 0 len 3) h n:=by
 subst hl
 refine Qa true hm ?_
 have hfl:=jh d ts
 have ef:fzD m (flat (ts.map (dutyA d))) true (.slc m 0 ts.length 3)=.fslc false false 3 (ts.map (dutyA d)):=by
  simp only[fzD,Nat.zero_add,List.drop_zero]
  rw[if_pos ⟨trivial,by omega,by simp⟩,elemsD]
 rw[ef]
 simpa [Ze,hne] using hk
@[go_sem] theorem aggEqD (d:Int) (p1 p2 q1 q2:ByteArray):aggEq Tryz.prog 51 [iv .i64 d,sv p1,sv p2] [iv .i64 d,sv q1,sv q2]=some ((p1.toList == q1.toList) && (p2.toList == q2.toList)):=by
 have g1:Tryz.prog.stoodInHeld 51=false:=by kernel_rfl
 have g2:Tryz.prog.eqGuardType Tryz.prog.depth 51=false:=by kernel_rfl
 have g3:Qz Tryz.prog 3=.int:=by kernel_rfl
 simp only[aggEq,Tryz.underlying51,g1,g2,fldEq]
 simp only[and_self,if_true,List.getElem?_cons_zero,List.getElem?_cons_succ,skStr,g3,jZ]
 simp
 cases (p1.toList == q1.toList) <;> cases (p2.toList == q2.toList) <;> simp
end Go.AM
namespace Go.AM
open Go.Proofs Cw Du
set_option maxRecDepth 10000
set_option maxHeartbeats 4000000
theorem ZK (x:AV) (r:List AV):flat (x :: r)=cellsOf x ++ flat r:=by simp[flat]
theorem Jj:flat []=[]:=rfl
theorem below_dut (n:Nat) (d:Int) (L:List Pr) (nl fu:Bool) (s:Nat):below n (.fslc nl fu s (L.map (dutyA d))):=by
 simp only[below];rw[Z1];intro y hy;obtain⟨o,_,rfl⟩:=List.mem_map.1 hy;simp[dutyA,below,belowL]
theorem J1 (d:Int) {L:List Pr} (h:L≠[]):Ze d L=.fslc false false 3 (L.map (dutyA d)):=by rw[Ze,if_neg h]
theorem put_spec (d:Int) (L:List Pr) (p:Pr) (hl:L.length≤100000):zJ Tryz.prog 66 [Ze d L,dutyA d p] (Ze d (jr L p)):=by
 intro h n
 refine zQ.pure (zQ.entry (by kernel_rfl) fun hb _=>zV Tryz.func66 rfl (by kernel_rfl) (by simp[Tryz.ntmps66]) ?_)
 obtain⟨T,hT⟩:∃T,zB (T=Ze d (jr L p)):=⟨_,rfl⟩
 rw[←hT.out]
 obtain⟨p1,p2⟩:=p
 have ep:dutyA d (p1,p2)=.agg [iv .i64 d,sv p1,sv p2]:=rfl
 rw[ep]
 have ef:flat [dutyA d (p1,p2)]=[iv .i64 d,sv p1,sv p2]:=rfl
 by_cases hL:L=[]
 ·subst hL
  have hTT:T=Ze d [(p1,p2)]:=by rw[hT.out];rfl
  have e0:Ze d []=.fslc true true 0 []:=rfl
  have hap1:=fun nm (h0:zH) (a b c:Bool) (s:Nat)=>apD_0 nm h0 a b c s 0 (.inl rfl)
  have hap2:∀(nm:Nat) (h0:zH) (a b c:Bool) (s:Nat),zm Tryz.prog nm 28 (.fslc a true s []) (.fslc b c 3 [.agg [iv .i64 d,sv p1,sv p2]]) h0=some (.slc nm 0 1 3,h0.upd nm (some (.cells [iv .i64 d,sv p1,sv p2]))):=fun nm (h0:zH) (a b c:Bool) (s:Nat)=>apD_F nm h0 a b c s [.agg [iv .i64 d,sv p1,sv p2]] (by simp) (by simp)
  have hap3:=fun nm m (h0:zH) (b c:Bool)=>apD_S0 nm m h0 b c 0 (.inl rfl) [iv .i64 d,sv p1,sv p2] 1 rfl
  rw[e0]
  replace hTT:zB _:=hTT
  replace hT:zB _:=trivial
  replace ep:zB _:=trivial
  replace ef:zB _:=trivial
  replace e0:zB _:=trivial
  replace hap1:zB _:=hap1
  replace hap2:zB _:=hap2
  replace hap3:zB _:=hap3
  repeat' (first|(refine zD fun K hK=>?_)|(refine zA fun K hK=>?_;simp (disch:=omega) [go_sem, *,Tryz.ntmps66])|(apply zB.out hK;clear hK K;try with_reducible dsimp only[zC])|(refine zI ?_))
  refine Zr (t:=3) (m:=n) (c:=[iv .i64 d,sv p1,sv p2]) (zL _ _ _) (by simp[go_sem]) ?_
  refine z6 1 ?_
  unfold zu
  repeat' (first|(refine zD fun K hK=>?_))
  refine zk mixed (by kernel_rfl) fun K hK=>?_
  simp (disch:=omega) [go_sem, *]
  repeat' (first|(refine zD fun K hK=>?_)|(refine Zw (by simp[go_sem]) (by simp (disch:=omega) [go_sem, *];first | exact rfl | exact⟨rfl,rfl,rfl⟩) ?_;try simp only[zq])|(refine ZE ?_)|(apply zB.out hK;clear hK K;try with_reducible dsimp only[zC])|(apply zB.out hf;clear ht hf Kt Kf)|(clear hK K;apply zB.out hK;clear hK K;try with_reducible dsimp only[zC])|(refine zT ?_;simp only[zC,zP,if_true])|(refine zF fun Kt Kf ht hf=>?_;simp (disch:=omega) [go_sem, *];try (refine⟨fun hc=>?_,fun hc=>?_⟩ <;> try (exfalso;omega))))
  refine zk mixed (by kernel_rfl) fun K hK=>?_
  simp (disch:=omega) [go_sem, *]
  repeat' (first|(refine zD fun K hK=>?_)|(refine Zw (by simp[go_sem]) (by simp (disch:=omega) [go_sem, *];first | exact rfl | exact⟨rfl,rfl,rfl⟩) ?_;try simp only[zq])|(refine ZE ?_)|(apply zB.out hK;clear hK K;try with_reducible dsimp only[zC])|(apply zB.out hf;clear ht hf Kt Kf)|(refine zK ?_;simp only[zC])|(refine zF fun Kt Kf ht hf=>?_;simp (disch:=omega) [go_sem, *];try (refine⟨fun hc=>?_,fun hc=>?_⟩ <;> try (exfalso;omega))))
  refine qB [3] mixed (by kernel_rfl) (fun x hx=>by simp at hx;subst hx;exact⟨_,by simp[go_sem];rfl⟩) fun K hK=>?_
  simp (disch:=omega) [go_sem,hap1.out,hap2.out,hap3.out]
  repeat' (first|(apply zB.out hK;clear hK K;try with_reducible dsimp only[zC]))
  refine zf ?_
  try dsimp only[zC,zP]
  refine⟨by simp,_,(by first | rfl|(simp (disch:=omega) [go_sem,zG] <;> rfl)),?_⟩
  rw[hTT.out]
  refine ret_dut (d:=d) (ts:=[(p1,p2)]) (by simp (disch:=omega) [zL];rfl) rfl (by simp) ?_
  refine zZ ⟨fun k hk=>?_,?_,rfl,by simp,by simp⟩
  ·simp (disch:=omega) only[zG]
  ·simp[Ze,dutyA,below,belowL]
 ·have eL:Ze d L=.fslc false false 3 (L.map (dutyA d)):=J1 d hL
  rw[eL]
  have hL1:1≤L.length:=List.length_pos_iff.2 hL
  replace eL:zB _:=eL
  replace ep:zB _:=ep
  replace ef:zB _:=ef
  clear hL
  repeat' (first|(refine zD fun K hK=>?_)|(refine zA fun K hK=>?_;simp (disch:=omega) [go_sem, *,Tryz.ntmps66])|(apply zB.out hK;clear hK K;try with_reducible dsimp only[zC])|(refine zI ?_))
  refine Zr (t:=3) (m:=n) (c:=[iv .i64 d,sv p1,sv p2]) (zL _ _ _) (by simp[go_sem]) ?_
  refine zW (fun s'=>∃(i:Nat) (n':Nat),n < n'∧i≤L.length∧(∀(j:Nat) (x:Pr),j < i→L[j]? = some x→ltP x (p1,p2)=true)∧s'=⟨45,[(0,.fslc false false 3 (L.map (dutyA d))),(3,.fptr [iv .i64 d,sv p1,sv p2]),(5,iv .i64 i)],(h.upd n (some (.cells [iv .i64 d,sv p1,sv p2]))).upd n none,n'⟩)
   (fun s'=>L.length - (zY s' 5).toNat) ?_ ?_
  ·exact zX (by simp[go_sem, *]) (Sub.refl _) ⟨0,_,by show n < n + 2 + 1;omega,by omega,fun j x hj=>by omega,rfl⟩
  ·rintro s' ⟨i,n',hn',hi,hall,rfl⟩
   replace hall:zB _:=hall
   by_cases hlt:i < L.length
   ·obtain⟨⟨x1,x2⟩,hx⟩:∃x,L[i]=x:=⟨_,rfl⟩
    have hxs:L[i]? = some (x1,x2):=by rw[List.getElem?_eq_getElem hlt,hx]
    have hex:dutyA d L[i]=.agg [iv .i64 d,sv x1,sv x2]:=by rw[hx];rfl
    have k1:=rless_spec d d (x1,x2) (p1,p2)
    simp only[dutyA] at k1
    cases hb1:ltP (x1,x2) (p1,p2) with
    | true=>
     rw[hb1] at k1
     replace hb1:zB _:=hb1
     replace hxs:zB _:=hxs
     replace hx:zB _:=hx
     repeat' (first|(refine zD fun K hK=>?_))
     refine zk mixed (by kernel_rfl) fun K hK=>?_
     simp (disch:=omega) [go_sem, *]
     repeat' (first|(refine zA fun K hK=>?_;simp (disch:=omega) [go_sem, *,zM])|(refine Zw (by simp[go_sem]) (by simp (disch:=omega) [go_sem, *,zN,zO];first | exact rfl | exact⟨rfl,rfl,rfl⟩ | exact (k1).gcall ⟨rfl,rfl,rfl⟩) ?_;try simp only[zq])|(refine ZE ?_)|(apply zB.out hK;clear hK K;try with_reducible dsimp only[zC])|(apply zB.out ht;clear ht hf Kt Kf)|(refine zI ?_)|(refine zK ?_;simp only[zC])|(refine zF fun Kt Kf ht hf=>?_;simp (disch:=omega) [go_sem, *];try (refine⟨fun hc=>?_,fun hc=>?_⟩ <;> try (exfalso;omega))))
     exact zS (by simp (disch:=omega) [go_sem]) (Sub.refl _) ⟨i + 1,_,by omega,by omega,fun j y hj hy=>by
      rcases Nat.lt_or_ge j i with h1 | h1
      ·exact hall.out j y h1 hy
      ·have:j=i:=by omega
       subst this
       rw[hxs.out] at hy;cases hy;exact hb1.out,rfl⟩ (by simp[zY,go_sem];omega)
    | false=>
     rw[hb1] at k1
     have hr:=insP_at L (p1,p2) i hi hall.out (fun y hy=>by rw[hxs] at hy;cases hy;exact hb1)
     cases hq:((x1.toList == p1.toList) && (x2.toList == p2.toList)) with
     | true=>
      rw[if_pos ⟨_,hxs,hq⟩] at hr
      have hTv:T=.fslc false false 3 (L.map (dutyA d)):=by rw[hT.out,hr];exact eL.out
      subst hTv
      replace hT:zB _:=trivial
      replace hr:zB _:=trivial
      replace hb1:zB _:=trivial
      replace hxs:zB _:=hxs
      replace hx:zB _:=hx
      repeat' (first|(refine zD fun K hK=>?_))
      refine zk mixed (by kernel_rfl) fun K hK=>?_
      simp (disch:=omega) [go_sem, *]
      repeat' (first|(refine zD fun K hK=>?_)|(refine Zw (by simp[go_sem]) (by simp (disch:=omega) [go_sem, *,zN,zO];first | exact rfl | exact⟨rfl,rfl,rfl⟩ | exact (k1).gcall ⟨rfl,rfl,rfl⟩) ?_;try simp only[zq])|(refine ZE ?_)|(apply zB.out hK;clear hK K;try with_reducible dsimp only[zC])|(apply zB.out hf;clear ht hf Kt Kf)|(clear hK K;apply zB.out hK;clear hK K;try with_reducible dsimp only[zC])|(refine zT ?_;simp only[zC,zP,if_true])|(refine zF fun Kt Kf ht hf=>?_;simp (disch:=omega) [go_sem, *];try (refine⟨fun hc=>?_,fun hc=>?_⟩ <;> try (exfalso;omega))))
      refine zk mixed (by kernel_rfl) fun K hK=>?_
      simp (disch:=omega) [go_sem, *]
      repeat' (first|(refine zD fun K hK=>?_)|(refine zA fun K hK=>?_;simp (disch:=omega) [go_sem, *])|(refine Zw (by simp[go_sem]) (by simp (disch:=omega) [go_sem, *,zN,zO];first | exact rfl | exact⟨rfl,rfl,rfl⟩) ?_;try simp only[zq])|(refine ZE ?_)|(apply zB.out hK;clear hK K;try with_reducible dsimp only[zC])|(apply zB.out ht;clear ht hf Kt Kf)|(refine zF fun Kt Kf ht hf=>?_;simp (disch:=omega) [go_sem, *];try (refine⟨fun hc=>?_,fun hc=>?_⟩ <;> try (exfalso;omega))))
      (refine zf ?_;try dsimp only[zC,zP];refine⟨by simp,_,(by first | rfl|(simp (disch:=omega) [go_sem,zG] <;> rfl)),?_⟩;refine zZ ⟨fun k hk=>(by first | rfl|(repeat rw[zG _ _ _ _ (by omega)])),(by simp[go_sem,below_dut]),(by simp[go_sem] <;> omega),by simp,by simp⟩)
     | false=>
      rw[if_neg (by rintro⟨y,hy,he⟩;rw[hxs] at hy;cases hy;rw[eqPr,eqB,eqB,hq] at he;cases he)] at hr
      have hTv:T=Ze d (L.take i ++ (p1,p2) :: L.drop i):=by rw[hT.out,hr]
      replace hTv:zB _:=hTv
      replace hT:zB _:=trivial
      replace hr:zB _:=trivial
      replace hb1:zB _:=trivial
      replace hxs:zB _:=hxs
      replace hx:zB _:=hx
      have hfp:flat (L.map (dutyA d))=flat (L.map (dutyA d)):=rfl
      have hlen:(List.take i (List.map (dutyA d) L)).length=i:=by rw[List.length_take,List.length_map];omega
      have hld:(List.drop i (List.map (dutyA d) L)).length=L.length - i:=by rw[List.length_drop,List.length_map]
      have htk:List.take L.length (List.map (dutyA d) L)=List.map (dutyA d) L:=List.take_of_length_le (by simp)
      by_cases hi0:i=0
      ·subst hi0
       have hap1:=fun nm (h0:zH) (a b c:Bool) (s:Nat)=>apD_0 nm h0 a b c s 3 (.inr rfl)
       have hap2:∀(nm:Nat) (h0:zH) (a b c:Bool) (s:Nat),zm Tryz.prog nm 28 (.fslc a true s []) (.fslc b c 3 [.agg [iv .i64 d,sv p1,sv p2]]) h0=some (.slc nm 0 1 3,h0.upd nm (some (.cells [iv .i64 d,sv p1,sv p2]))):=fun nm (h0:zH) (a b c:Bool) (s:Nat)=>apD_F nm h0 a b c s [.agg [iv .i64 d,sv p1,sv p2]] (by simp) (by simp)
       have hap3:=fun nm m (h0:zH) (b c:Bool)=>apD_S nm m h0 b c [iv .i64 d,sv p1,sv p2] (L.map (dutyA d)) 1 rfl (by rw[List.length_map];omega) (by rw[List.length_map];omega)
       rw[List.length_map] at hap3
       replace hap1:zB _:=hap1
       replace hap2:zB _:=hap2
       replace hap3:zB _:=hap3
       clear hlen hld hfp
       repeat' (first|(refine zD fun K hK=>?_))
       refine zk mixed (by kernel_rfl) fun K hK=>?_
       simp (disch:=omega) [go_sem, *]
       repeat' (first|(refine zD fun K hK=>?_)|(refine Zw (by simp[go_sem]) (by simp (disch:=omega) [go_sem, *];first | exact rfl | exact⟨rfl,rfl,rfl⟩ | exact (k1).gcall ⟨rfl,rfl,rfl⟩) ?_;try simp only[zq])|(refine ZE ?_)|(apply zB.out hK;clear hK K;try with_reducible dsimp only[zC])|(apply zB.out hf;clear ht hf Kt Kf)|(clear hK K;apply zB.out hK;clear hK K;try with_reducible dsimp only[zC])|(refine zT ?_;simp only[zC,zP,if_true])|(refine zF fun Kt Kf ht hf=>?_;simp (disch:=omega) [go_sem, *];try (refine⟨fun hc=>?_,fun hc=>?_⟩ <;> try (exfalso;omega))))
       refine zk mixed (by kernel_rfl) fun K hK=>?_
       simp (disch:=omega) [go_sem, *]
       repeat' (first|(refine zD fun K hK=>?_)|(refine Zw (by simp[go_sem]) (by simp (disch:=omega) [go_sem, *];first | exact rfl | exact⟨rfl,rfl,rfl⟩) ?_;try simp only[zq])|(refine ZE ?_)|(apply zB.out hK;clear hK K;try with_reducible dsimp only[zC])|(apply zB.out hf;clear ht hf Kt Kf)|(refine zK ?_;simp only[zC])|(refine zF fun Kt Kf ht hf=>?_;simp (disch:=omega) [go_sem, *];try (refine⟨fun hc=>?_,fun hc=>?_⟩ <;> try (exfalso;omega))))
       refine qB [3] mixed (by kernel_rfl) (fun x hx=>by simp at hx;subst hx;exact⟨_,by simp[go_sem];rfl⟩) fun K hK=>?_
       simp (disch:=omega) [go_sem,htk,hap1.out,hap2.out,hap3.out,zO]
       repeat' (first|(apply zB.out hK;clear hK K;try with_reducible dsimp only[zC]))
       refine zf ?_
       try dsimp only[zC,zP]
       refine⟨by simp,_,(by first | rfl|(simp (disch:=omega) [go_sem,zG] <;> rfl)),?_⟩
       rw[hTv.out]
       refine ret_dut (d:=d) (ts:=L.take 0 ++ (p1,p2) :: L.drop 0) (by simp (disch:=omega) [zL,ZK,dutyA,cellsOf]) (by simp;try omega) (by simp) ?_
       refine zZ ⟨fun k hk=>?_,?_,rfl,by simp,by simp⟩
       ·simp (disch:=omega) only[zG]
       ·rw[J1 d (by simp)];simp only[below];rw[Z1];intro y hy;obtain⟨o,_,rfl⟩:=List.mem_map.1 hy;simp[dutyA,below,belowL]
      ·skip
       have hap1:=fun nm (h0:zH) (a b c:Bool) (s:Nat)=>apD_F nm h0 a b c s (List.take i (L.map (dutyA d))) (by omega) (by omega)
       have hap2:∀(nm m:Nat) (h0:zH) (b c:Bool),zm Tryz.prog nm 28 (.slc m 0 i 3) (.fslc b c 3 [.agg [iv .i64 d,sv p1,sv p2]]) (h0.upd m (some (.cells (flat (List.take i (L.map (dutyA d)))))))=some (.slc nm 0 (i + 1) 3,((h0.upd m (some (.cells (flat (List.take i (L.map (dutyA d))))))).upd m none).upd nm (some (.cells (flat (List.take i (L.map (dutyA d))) ++ [iv .i64 d,sv p1,sv p2])))):=fun nm m (h0:zH) (b c:Bool)=>apD_S nm m h0 b c (flat (List.take i (L.map (dutyA d)))) [.agg [iv .i64 d,sv p1,sv p2]] i (by rw[←List.map_take,jh,List.length_take];omega) (by simp) (by simp;omega)
       have hap3:=fun nm m (h0:zH) (b c:Bool)=>apD_S nm m h0 b c (flat (List.take i (L.map (dutyA d))) ++ [iv .i64 d,sv p1,sv p2]) (List.drop i (L.map (dutyA d))) (i + 1) (by rw[List.length_append,←List.map_take,jh,List.length_take];simp;omega) (by omega) (by omega)
       rw[hlen] at hap1
       rw[hld] at hap3
       replace hap1:zB _:=hap1
       replace hap2:zB _:=hap2
       replace hap3:zB _:=hap3
       clear hlen hld hfp
       repeat' (first|(refine zD fun K hK=>?_))
       refine zk mixed (by kernel_rfl) fun K hK=>?_
       simp (disch:=omega) [go_sem, *]
       repeat' (first|(refine zD fun K hK=>?_)|(refine Zw (by simp[go_sem]) (by simp (disch:=omega) [go_sem, *,zN,zO];first | exact rfl | exact⟨rfl,rfl,rfl⟩ | exact (k1).gcall ⟨rfl,rfl,rfl⟩) ?_;try simp only[zq])|(refine ZE ?_)|(apply zB.out hK;clear hK K;try with_reducible dsimp only[zC])|(apply zB.out hf;clear ht hf Kt Kf)|(clear hK K;apply zB.out hK;clear hK K;try with_reducible dsimp only[zC])|(refine zT ?_;simp only[zC,zP,if_true])|(refine zF fun Kt Kf ht hf=>?_;simp (disch:=omega) [go_sem, *];try (refine⟨fun hc=>?_,fun hc=>?_⟩ <;> try (exfalso;omega))))
       refine zk mixed (by kernel_rfl) fun K hK=>?_
       simp (disch:=omega) [go_sem, *]
       repeat' (first|(refine zD fun K hK=>?_)|(refine Zw (by simp[go_sem]) (by simp (disch:=omega) [go_sem, *,zN,zO];first | exact rfl | exact⟨rfl,rfl,rfl⟩) ?_;try simp only[zq])|(refine ZE ?_)|(apply zB.out hK;clear hK K;try with_reducible dsimp only[zC])|(apply zB.out hf;clear ht hf Kt Kf)|(refine zK ?_;simp only[zC])|(refine zF fun Kt Kf ht hf=>?_;simp (disch:=omega) [go_sem, *];try (refine⟨fun hc=>?_,fun hc=>?_⟩ <;> try (exfalso;omega))))
       refine qB [3] mixed (by kernel_rfl) (fun x hx=>by simp at hx;subst hx;exact⟨_,by simp[go_sem];rfl⟩) fun K hK=>?_
       simp (disch:=omega) [go_sem,htk,hap1.out,hap2.out,hap3.out,zO]
       repeat' (first|(apply zB.out hK;clear hK K;try with_reducible dsimp only[zC]))
       refine zf ?_
       try dsimp only[zC,zP]
       refine⟨by simp,_,(by first | rfl|(simp (disch:=omega) [go_sem,zG] <;> rfl)),?_⟩
       rw[hTv.out]
       refine ret_dut (d:=d) (ts:=L.take i ++ (p1,p2) :: L.drop i) (by simp (disch:=omega) [zL,Z4,ZK,List.map_take,List.map_drop,dutyA,cellsOf]) (by simp;try omega) (by simp) ?_
       refine zZ ⟨fun k hk=>?_,?_,rfl,by simp,by simp⟩
       ·simp (disch:=omega) only[zG]
       ·rw[J1 d (by simp)];simp only[below];rw[Z1];intro y hy;obtain⟨o,_,rfl⟩:=List.mem_map.1 hy;simp[dutyA,below,belowL]
   ·have hii:i=L.length:=by omega
    subst hii
    have hr:=insP_at L (p1,p2) L.length (Nat.le_refl _) hall.out (fun y hy=>by rw[List.getElem?_eq_none (Nat.le_refl _)] at hy;cases hy)
    rw[if_neg (by rintro⟨y,hy,he⟩;rw[List.getElem?_eq_none (Nat.le_refl _)] at hy;cases hy)] at hr
    have hTv:T=Ze d (L.take L.length ++ (p1,p2) :: L.drop L.length):=by rw[hT.out,hr]
    replace hTv:zB _:=hTv
    replace hT:zB _:=trivial
    replace hr:zB _:=trivial
    have hlen:(List.take L.length (List.map (dutyA d) L)).length=L.length:=by rw[List.length_take,List.length_map];omega
    have htk:List.take L.length (List.map (dutyA d) L)=List.map (dutyA d) L:=List.take_of_length_le (by simp)
    have hdk:List.drop L.length (List.map (dutyA d) L)=[]:=List.drop_eq_nil_of_le (by simp)
    have hap1:=fun nm (h0:zH) (a b c:Bool) (s:Nat)=>apD_F nm h0 a b c s (L.map (dutyA d)) (by rw[List.length_map];omega) (by rw[List.length_map];omega)
    have hap2:∀(nm m:Nat) (h0:zH) (b c:Bool),zm Tryz.prog nm 28 (.slc m 0 L.length 3) (.fslc b c 3 [.agg [iv .i64 d,sv p1,sv p2]]) (h0.upd m (some (.cells (flat (L.map (dutyA d))))))=some (.slc nm 0 (L.length + 1) 3,((h0.upd m (some (.cells (flat (L.map (dutyA d)))))).upd m none).upd nm (some (.cells (flat (L.map (dutyA d)) ++ [iv .i64 d,sv p1,sv p2])))):=fun nm m (h0:zH) (b c:Bool)=>apD_S nm m h0 b c (flat (L.map (dutyA d))) [.agg [iv .i64 d,sv p1,sv p2]] L.length (by rw[jh]) (by simp) (by simp;omega)
    have hap3:=fun nm m (h0:zH) (b c:Bool)=>apD_S0 nm m h0 b c 3 (.inr rfl) (flat (L.map (dutyA d)) ++ [iv .i64 d,sv p1,sv p2]) (L.length + 1) (by rw[List.length_append,jh];simp;omega)
    rw[List.length_map] at hap1
    replace hap1:zB _:=hap1
    replace hap2:zB _:=hap2
    replace hap3:zB _:=hap3
    clear hlen
    repeat' (first|(refine zD fun K hK=>?_))
    refine zk mixed (by kernel_rfl) fun K hK=>?_
    simp (disch:=omega) [go_sem, *]
    repeat' (first|(refine zD fun K hK=>?_)|(refine Zw (by simp[go_sem]) (by simp (disch:=omega) [go_sem, *];first | exact rfl | exact⟨rfl,rfl,rfl⟩) ?_;try simp only[zq])|(refine ZE ?_)|(apply zB.out hK;clear hK K;try with_reducible dsimp only[zC])|(apply zB.out hf;clear ht hf Kt Kf)|(clear hK K;apply zB.out hK;clear hK K;try with_reducible dsimp only[zC])|(refine zT ?_;simp only[zC,zP,if_true])|(refine zF fun Kt Kf ht hf=>?_;simp (disch:=omega) [go_sem, *];try (refine⟨fun hc=>?_,fun hc=>?_⟩ <;> try (exfalso;omega))))
    refine zk mixed (by kernel_rfl) fun K hK=>?_
    simp (disch:=omega) [go_sem, *]
    repeat' (first|(refine zD fun K hK=>?_)|(refine Zw (by simp[go_sem]) (by simp (disch:=omega) [go_sem, *];first | exact rfl | exact⟨rfl,rfl,rfl⟩) ?_;try simp only[zq])|(refine ZE ?_)|(apply zB.out hK;clear hK K;try with_reducible dsimp only[zC])|(apply zB.out hf;clear ht hf Kt Kf)|(refine zK ?_;simp only[zC])|(refine zF fun Kt Kf ht hf=>?_;simp (disch:=omega) [go_sem, *];try (refine⟨fun hc=>?_,fun hc=>?_⟩ <;> try (exfalso;omega))))
    refine qB [3] mixed (by kernel_rfl) (fun x hx=>by simp at hx;subst hx;exact⟨_,by simp[go_sem];rfl⟩) fun K hK=>?_
    simp (disch:=omega) [go_sem,htk,hdk,hap1.out,hap2.out,hap3.out,zO]
    repeat' (first|(apply zB.out hK;clear hK K;try with_reducible dsimp only[zC]))
    refine zf ?_
    try dsimp only[zC,zP]
    refine⟨by simp,_,(by first | rfl|(simp (disch:=omega) [go_sem,zG] <;> rfl)),?_⟩
    rw[hTv.out]
    refine ret_dut (d:=d) (ts:=L.take L.length ++ (p1,p2) :: L.drop L.length) (by simp (disch:=omega) [zL,Z4,ZK,Jj,dutyA,cellsOf]) (by simp;try omega) (by simp) ?_
    refine zZ ⟨fun k hk=>?_,?_,rfl,by simp,by simp⟩
    ·simp (disch:=omega) only[zG]
    ·rw[J1 d (by simp)];simp only[below];rw[Z1];intro y hy;obtain⟨o,_,rfl⟩:=List.mem_map.1 hy;simp[dutyA,below,belowL]
end Go.AM
namespace Go.AM
open Go.Proofs Cw Du
set_option maxRecDepth 10000
set_option maxHeartbeats 4000000
theorem dutF_nil (d:Int):Ze d []=.fslc true true 0 []:=rfl
theorem Qo (n:Nat) (d:Int) (L:List Pr):below n (Ze d L):=by
 unfold Ze
 split
 ·simp[below,belowL]
 ·exact below_dut n d L false false 3
theorem done_spec (d:Int) (D:List Pr) (x:Lin) (hk:Du.kindOk x) (hl:D.length≤1000):zJ Tryz.prog 103 [Ze d D,zg x,iv .i64 d] (Ze d (jY x D)):=by
 intro h n
 refine zQ.pure (zQ.entry (by kernel_rfl) fun hb _=>zV Tryz.func103 rfl (by kernel_rfl) (by simp[Tryz.ntmps103]) ?_)
 obtain⟨T,hT⟩:∃T,zB (T=Ze d (jY x D)):=⟨_,rfl⟩
 rw[←hT.out]
 have kp:∀(A:List Pr) (p:Pr),A.length≤100000→zJ Tryz.prog 66 [Ze d A,dutyA d p] (Ze d (jr A p)):=fun A p h=>put_spec d A p h
 obtain⟨nl,s,eD,hnl⟩:∃nl s,Ze d D=.fslc nl nl s (D.map (dutyA d))∧(D=[]∨nl=false∧s=3):=by
  unfold Ze
  split
  ·rename_i e;subst e;exact⟨true,0,rfl,.inl rfl⟩
  ·exact⟨false,3,rfl,.inr ⟨rfl,rfl⟩⟩
 rw[eD]
 clear eD
 have hlen:∀i,((D.take i).foldl (Z8 x) []).length≤1000:=fun i=>by
  have:=doneF_len x (D.take i) []
  have h2:(D.take i).length≤D.length:=by rw[List.length_take];omega
  simp only[List.length_nil] at this
  omega
 have hstep:∀(i:Nat) (q:Pr),D[i]? = some q→(D.take (i + 1)).foldl (Z8 x) []=Z8 x ((D.take i).foldl (Z8 x) []) q:=fun i q hq=>by
  obtain⟨hlt,e⟩:=List.getElem?_eq_some_iff.1 hq
  rw[List.take_succ_eq_append_getElem hlt,List.foldl_append,e];rfl
 have hend:zB (T=Ze d (if x.kind=1 then jr ((D.take D.length).foldl (Z8 x) []) (x.tower,x.person) else (D.take D.length).foldl (Z8 x) [])):=by
  show T=_
  rw[hT.out,jY,List.take_length]
 clear hT
 have hkk:=hk
 unfold Du.kindOk at hkk
 replace hk:zB _:=trivial
 replace hnl:zB _:=hnl
 replace kp:zB _:=kp
 replace hlen:zB _:=hlen
 replace hstep:zB _:=hstep
 replace hkk:zB _:=hkk
 obtain⟨kd,tw,pe,ot,fr,to,ev,xnl,xfu,xs,exc⟩:=x
 simp only[zg]
 generalize List.map (iv .i64) exc=X at *
 repeat' (first|(refine zD fun K hK=>?_)|(refine zA fun K hK=>?_;simp (disch:=omega) [go_sem, *,Tryz.ntmps103])|(apply zB.out hK;clear hK K;try with_reducible dsimp only[zC])|(refine zI ?_))
 refine zW (fun s'=>∃(i n':Nat) (A:List Pr),n < n'∧i≤D.length∧A=(D.take i).foldl (Z8 ⟨kd,tw,pe,ot,fr,to,ev,xnl,xfu,xs,exc⟩) []∧s'=⟨85,[(0,.fslc nl nl s (D.map (dutyA d))),(2,iv .i64 d),(4,.ptr n 0),(7,Ze d A),(8,iv .i64 i)],h.upd n (some (.cells [iv .i64 kd,sv tw,sv pe,sv ot,iv .i64 fr,iv .i64 to,iv .i64 ev,.fslc xnl xfu xs X])),n'⟩)
  (fun s'=>D.length - (zY s' 8).toNat) ?_ ?_
 ·exact zX (by simp[go_sem,dutF_nil]) (Sub.refl _) ⟨0,_,[],by omega,by omega,rfl,rfl⟩
 ·rintro s' ⟨i,n',A,hn',hi,hA,rfl⟩
  have hA1:A.length≤100000:=by have:=hlen.out i;rw[←hA] at this;omega
  by_cases hlt:i < D.length
  ·obtain⟨⟨p1,p2⟩,hx⟩:∃o,D[i]=o:=⟨_,rfl⟩
   have hne:D≠[]:=fun e=>by rw[e] at hlt;simp at hlt
   obtain⟨rfl,rfl⟩:=hnl.out.resolve_left hne
   have hex:dutyA d D[i]=.agg [iv .i64 d,sv p1,sv p2]:=by rw[hx];rfl
   have hst:=hstep.out i (p1,p2) (by rw[List.getElem?_eq_getElem hlt,hx])
   rw[←hA] at hst
   have k1:=kp.out A (p1,p2) hA1
   have k2:=kp.out A (p1,ot) hA1
   have k3:=kp.out A (p1,pe) hA1
   simp only[dutyA] at k1 k2 k3
   simp only[Z8,Ju,qS,eqB] at hst
   replace hx:zB _:=hx
   replace hA:zB _:=hA
   replace hend:zB _:=trivial
   clear hne
   rcases hkk.out with hkd | hkd | hkd | ⟨hkd,_⟩
   all_goals (simp only at hkd;subst hkd)
   ·simp[*] at hst
    replace hst:zB _:=hst
    repeat' (first|(refine zD fun K hK=>?_)|(refine zA fun K hK=>?_;simp (disch:=omega) [go_sem, *,zM,zG,zN,zO])|(apply zB.out hK;clear hK K;try with_reducible dsimp only[zC])|(apply zB.out ht;clear ht hf Kt Kf)|(apply zB.out hf;clear ht hf Kt Kf)|(with_reducible refine zJ.gcall (k1) ?_;try simp (disch:=omega) [go_sem, *])|(refine zI ?_)|(refine zK ?_;simp only[zC])|(refine zF fun Kt Kf ht hf=>?_;simp (disch:=omega) [go_sem, *];try (refine⟨fun hc=>?_,fun hc=>?_⟩ <;> try (exfalso;omega))))
    exact zS (by simp (disch:=omega) [go_sem]) (by repeat (first | exact Sub.refl _ | refine Sub.upd ?_ (by rw[zG _ _ _ _ (by omega)];exact hb.none (by omega)) _)) ⟨i + 1,_,jr A (p1,p2),by omega,by omega,hst.out.symm,rfl⟩ (by simp[zY,go_sem];omega)
   ·cases e1:(p2.toList == pe.toList) with
    | true=>
     simp[*] at hst
     replace hst:zB _:=hst
     repeat' (first|(refine zD fun K hK=>?_)|(refine zA fun K hK=>?_;simp (disch:=omega) [go_sem, *,zM,zG,zN,zO])|(apply zB.out hK;clear hK K;try with_reducible dsimp only[zC])|(apply zB.out ht;clear ht hf Kt Kf)|(clear hK K;apply zB.out hK;clear hK K;try with_reducible dsimp only[zC])|(refine zI ?_)|(refine zK ?_;simp only[zC])|(refine zT ?_;simp only[zC,zP,if_true,if_false,Nat.reduceEqDiff])|(refine zF fun Kt Kf ht hf=>?_;simp (disch:=omega) [go_sem, *];try (refine⟨fun hc=>?_,fun hc=>?_⟩ <;> try (exfalso;omega))))
     exact zS (by simp (disch:=omega) [go_sem]) (by repeat (first | exact Sub.refl _ | refine Sub.upd ?_ (by rw[zG _ _ _ _ (by omega)];exact hb.none (by omega)) _)) ⟨i + 1,_,A,by omega,by omega,hst.out.symm,rfl⟩ (by simp[zY,go_sem];omega)
    | false=>
     simp[*] at hst
     replace hst:zB _:=hst
     repeat' (first|(refine zD fun K hK=>?_)|(refine zA fun K hK=>?_;simp (disch:=omega) [go_sem, *,zM,zG,zN,zO])|(apply zB.out hK;clear hK K;try with_reducible dsimp only[zC])|(apply zB.out ht;clear ht hf Kt Kf)|(apply zB.out hf;clear ht hf Kt Kf)|(with_reducible refine zJ.gcall (k1) ?_;try simp (disch:=omega) [go_sem, *])|(refine zI ?_)|(refine zK ?_;simp only[zC])|(refine zF fun Kt Kf ht hf=>?_;simp (disch:=omega) [go_sem, *];try (refine⟨fun hc=>?_,fun hc=>?_⟩ <;> try (exfalso;omega))))
     exact zS (by simp (disch:=omega) [go_sem]) (by repeat (first | exact Sub.refl _ | refine Sub.upd ?_ (by rw[zG _ _ _ _ (by omega)];exact hb.none (by omega)) _)) ⟨i + 1,_,jr A (p1,p2),by omega,by omega,hst.out.symm,rfl⟩ (by simp[zY,go_sem];omega)
   ·cases e2:(p1.toList == tw.toList) with
    | true=>
     simp[*] at hst
     replace hst:zB _:=hst
     repeat' (first|(refine zD fun K hK=>?_)|(refine zA fun K hK=>?_;simp (disch:=omega) [go_sem, *,zM,zG,zN,zO])|(apply zB.out hK;clear hK K;try with_reducible dsimp only[zC])|(apply zB.out ht;clear ht hf Kt Kf)|(clear hK K;apply zB.out hK;clear hK K;try with_reducible dsimp only[zC])|(refine zI ?_)|(refine zK ?_;simp only[zC])|(refine zT ?_;simp only[zC,zP,if_true,if_false,Nat.reduceEqDiff])|(refine zF fun Kt Kf ht hf=>?_;simp (disch:=omega) [go_sem, *];try (refine⟨fun hc=>?_,fun hc=>?_⟩ <;> try (exfalso;omega))))
     exact zS (by simp (disch:=omega) [go_sem]) (by repeat (first | exact Sub.refl _ | refine Sub.upd ?_ (by rw[zG _ _ _ _ (by omega)];exact hb.none (by omega)) _)) ⟨i + 1,_,A,by omega,by omega,hst.out.symm,rfl⟩ (by simp[zY,go_sem];omega)
    | false=>
     simp[*] at hst
     replace hst:zB _:=hst
     repeat' (first|(refine zD fun K hK=>?_)|(refine zA fun K hK=>?_;simp (disch:=omega) [go_sem, *,zM,zG,zN,zO])|(apply zB.out hK;clear hK K;try with_reducible dsimp only[zC])|(apply zB.out ht;clear ht hf Kt Kf)|(apply zB.out hf;clear ht hf Kt Kf)|(with_reducible refine zJ.gcall (k1) ?_;try simp (disch:=omega) [go_sem, *])|(refine zI ?_)|(refine zK ?_;simp only[zC])|(refine zF fun Kt Kf ht hf=>?_;simp (disch:=omega) [go_sem, *];try (refine⟨fun hc=>?_,fun hc=>?_⟩ <;> try (exfalso;omega))))
     exact zS (by simp (disch:=omega) [go_sem]) (by repeat (first | exact Sub.refl _ | refine Sub.upd ?_ (by rw[zG _ _ _ _ (by omega)];exact hb.none (by omega)) _)) ⟨i + 1,_,jr A (p1,p2),by omega,by omega,hst.out.symm,rfl⟩ (by simp[zY,go_sem];omega)
   ·cases e1:(p2.toList == pe.toList) with
    | true=>
     simp[*] at hst
     replace hst:zB _:=hst
     repeat' (first|(refine zD fun K hK=>?_)|(refine zA fun K hK=>?_;simp (disch:=omega) [go_sem, *,zM,zG,zN,zO])|(apply zB.out hK;clear hK K;try with_reducible dsimp only[zC])|(apply zB.out ht;clear ht hf Kt Kf)|(apply zB.out hf;clear ht hf Kt Kf)|(with_reducible refine zJ.gcall (k2) ?_;try simp (disch:=omega) [go_sem, *])|(refine zI ?_)|(refine zK ?_;simp only[zC])|(refine zF fun Kt Kf ht hf=>?_;simp (disch:=omega) [go_sem, *];try (refine⟨fun hc=>?_,fun hc=>?_⟩ <;> try (exfalso;omega))))
     exact zS (by simp (disch:=omega) [go_sem]) (by repeat (first | exact Sub.refl _ | refine Sub.upd ?_ (by rw[zG _ _ _ _ (by omega)];exact hb.none (by omega)) _)) ⟨i + 1,_,jr A (p1,ot),by omega,by omega,hst.out.symm,rfl⟩ (by simp[zY,go_sem];omega)
    | false=>
     cases e3:(p2.toList == ot.toList) with
     | true=>
      simp[*] at hst
      replace hst:zB _:=hst
      repeat' (first|(refine zD fun K hK=>?_)|(refine zA fun K hK=>?_;simp (disch:=omega) [go_sem, *,zM,zG,zN,zO])|(apply zB.out hK;clear hK K;try with_reducible dsimp only[zC])|(apply zB.out ht;clear ht hf Kt Kf)|(apply zB.out hf;clear ht hf Kt Kf)|(with_reducible refine zJ.gcall (k3) ?_;try simp (disch:=omega) [go_sem, *])|(refine zI ?_)|(refine zK ?_;simp only[zC])|(refine zF fun Kt Kf ht hf=>?_;simp (disch:=omega) [go_sem, *];try (refine⟨fun hc=>?_,fun hc=>?_⟩ <;> try (exfalso;omega))))
      exact zS (by simp (disch:=omega) [go_sem]) (by repeat (first | exact Sub.refl _ | refine Sub.upd ?_ (by rw[zG _ _ _ _ (by omega)];exact hb.none (by omega)) _)) ⟨i + 1,_,jr A (p1,pe),by omega,by omega,hst.out.symm,rfl⟩ (by simp[zY,go_sem];omega)
     | false=>
      simp[*] at hst
      replace hst:zB _:=hst
      repeat' (first|(refine zD fun K hK=>?_)|(refine zA fun K hK=>?_;simp (disch:=omega) [go_sem, *,zM,zG,zN,zO])|(apply zB.out hK;clear hK K;try with_reducible dsimp only[zC])|(apply zB.out ht;clear ht hf Kt Kf)|(apply zB.out hf;clear ht hf Kt Kf)|(with_reducible refine zJ.gcall (k1) ?_;try simp (disch:=omega) [go_sem, *])|(refine zI ?_)|(refine zK ?_;simp only[zC])|(refine zF fun Kt Kf ht hf=>?_;simp (disch:=omega) [go_sem, *];try (refine⟨fun hc=>?_,fun hc=>?_⟩ <;> try (exfalso;omega))))
      exact zS (by simp (disch:=omega) [go_sem]) (by repeat (first | exact Sub.refl _ | refine Sub.upd ?_ (by rw[zG _ _ _ _ (by omega)];exact hb.none (by omega)) _)) ⟨i + 1,_,jr A (p1,p2),by omega,by omega,hst.out.symm,rfl⟩ (by simp[zY,go_sem];omega)
  ·have hii:i=D.length:=by omega
   subst hii
   have he:=hend.out
   rw[←hA] at he
   have k1:=kp.out A (tw,pe) hA1
   simp only[dutyA] at k1
   replace hA:zB _:=hA
   replace hend:zB _:=trivial
   by_cases h1:kd=1
   ·rw[if_pos h1] at he
    subst h1
    subst he
    replace hkk:zB _:=trivial
    repeat' (first|(refine zD fun K hK=>?_)|(refine zA fun K hK=>?_;simp (disch:=omega) [go_sem, *])|(apply zB.out hK;clear hK K;try with_reducible dsimp only[zC])|(apply zB.out ht;clear ht hf Kt Kf)|(apply zB.out hf;clear ht hf Kt Kf)|(clear hK K;apply zB.out hK;clear hK K;try with_reducible dsimp only[zC])|(with_reducible refine zJ.gcall (k1) ?_;try simp (disch:=omega) [go_sem, *])|(refine zT ?_;simp only[zC,zP,if_true])|(refine zF fun Kt Kf ht hf=>?_;simp (disch:=omega) [go_sem, *];try (refine⟨fun hc=>?_,fun hc=>?_⟩ <;> try (exfalso;omega))))
    (refine zf ?_;try dsimp only[zC,zP];refine⟨by simp,_,(by first | rfl|(simp (disch:=omega) [go_sem,zG] <;> rfl)),?_⟩;refine zZ ⟨fun k hk=>(by first | rfl|(repeat rw[zG _ _ _ _ (by omega)])),(by simp[go_sem,Qo]),(by simp[go_sem] <;> omega),by simp,by simp⟩)
   ·rw[if_neg h1] at he
    subst he
    repeat' (first|(refine zD fun K hK=>?_)|(refine zA fun K hK=>?_;simp (disch:=omega) [go_sem, *])|(apply zB.out hK;clear hK K;try with_reducible dsimp only[zC])|(apply zB.out hf;clear ht hf Kt Kf)|(clear hK K;apply zB.out hK;clear hK K;try with_reducible dsimp only[zC])|(refine zK ?_;simp only[zC])|(refine zT ?_;simp only[zC,zP,if_true])|(refine zF fun Kt Kf ht hf=>?_;simp (disch:=omega) [go_sem, *];try (refine⟨fun hc=>?_,fun hc=>?_⟩ <;> try (exfalso;omega))))
    (refine zf ?_;try dsimp only[zC,zP];refine⟨by simp,_,(by first | rfl|(simp (disch:=omega) [go_sem,zG] <;> rfl)),?_⟩;refine zZ ⟨fun k hk=>(by first | rfl|(repeat rw[zG _ _ _ _ (by omega)])),(by simp[go_sem,Qo]),(by simp[go_sem] <;> omega),by simp,by simp⟩)
end Go.AM
namespace Go.AM
open Go.Proofs Cw Du
set_option maxRecDepth 10000
set_option maxHeartbeats 4000000
theorem day_spec (nl fu:Bool) (s:Nat) (ls:List Lin) (hnl:ls=[]∨nl=false∧s=8) (hl:ls.length≤1000) (hk:∀l ∈ ls,lnOk l) (onl ofu:Bool) (os:Nat) (O:List AV) (d:Int) (h0:0≤d) (h4:d≤400) :
  zJ Tryz.prog 46 [.agg [.fslc nl fu s (ls.map zg),.fslc onl ofu os O],iv .i64 d] (Ze d (dayR ls d)):=by
 intro h n
 refine zQ.pure (zQ.entry (by kernel_rfl) fun hb _=>zV Tryz.func46 rfl (by kernel_rfl) (by simp[Tryz.ntmps46]) ?_)
 obtain⟨T,hT⟩:∃T,zB (T=Ze d ((ls.take ls.length).foldl (JF d) [])):=⟨_,rfl⟩
 have hTe:Ze d (dayR ls d)=T:=by rw[hT.out,List.take_length];rfl
 rw[hTe]
 clear hTe
 have hlen:∀i,i≤ls.length→((ls.take i).foldl (JF d) []).length≤1000:=fun i hi=>by
  have:=dayR_len d (ls.take i) []
  rw[List.length_take] at this
  simp only[List.length_nil] at this
  omega
 have hstep:∀(i:Nat) (q:Lin),ls[i]? = some q→(ls.take (i + 1)).foldl (JF d) []=JF d ((ls.take i).foldl (JF d) []) q:=fun i q hq=>by
  obtain⟨hlt,e⟩:=List.getElem?_eq_some_iff.1 hq
  rw[List.take_succ_eq_append_getElem hlt,List.foldl_append,e];rfl
 replace hnl:zB _:=hnl
 replace hk:zB _:=hk
 replace hlen:zB _:=hlen
 replace hstep:zB _:=hstep
 repeat' (first|(refine zD fun K hK=>?_)|(refine zA fun K hK=>?_;simp (disch:=omega) [go_sem, *,Tryz.ntmps46])|(apply zB.out hK;clear hK K;try with_reducible dsimp only[zC])|(refine zI ?_))
 refine zW (fun s'=>∃(i n':Nat) (A:List Pr),n < n'∧i≤ls.length∧A=(ls.take i).foldl (JF d) []∧s'=⟨32,[(1,iv .i64 d),(2,.ptr n 0),(5,Ze d A),(6,iv .i64 i)],h.upd n (some (.cells [.fslc nl fu s (ls.map zg),.fslc onl ofu os O])),n'⟩)
  (fun s'=>ls.length - (zY s' 6).toNat) ?_ ?_
 ·exact zX (by simp[go_sem,dutF_nil]) (Sub.refl _) ⟨0,_,[],by omega,by omega,rfl,rfl⟩
 ·rintro s' ⟨i,n',A,hn',hi,hA,rfl⟩
  have hA1:A.length≤1000:=by rw[hA];exact hlen.out i hi
  by_cases hlt:i < ls.length
  ·obtain⟨x,hx⟩:∃o,ls[i]=o:=⟨_,rfl⟩
   have hmem:x ∈ ls:=hx ▸ List.getElem_mem hlt
   have hne:ls≠[]:=fun e=>by rw[e] at hlt;simp at hlt
   obtain⟨rfl,rfl⟩:=hnl.out.resolve_left hne
   obtain⟨w1,w2,w3⟩:=hk.out x hmem
   have k1:=is_spec x w1 w2 d h0 h4
   have k2:=done_spec d A x w3 hA1
   have hst:=hstep.out i x (by rw[List.getElem?_eq_getElem hlt,hx])
   rw[←hA] at hst
   have hex:zg ls[i]=.agg [iv .i64 x.kind,sv x.tower,sv x.person,sv x.other,iv .i64 x.fr,iv .i64 x.to,iv .i64 x.ev,.fslc x.nl x.fu x.s (x.exc.map (iv .i64))]:=by rw[hx];rfl
   simp only[zg] at k1 k2
   unfold JF at hst
   replace hx:zB _:=hx
   replace hA:zB _:=hA
   clear hmem hne w1 w2 w3
   cases hon:onL x d with
   | true=>
    rw[hon,if_pos rfl] at hst
    rw[hon] at k1
    replace hst:zB _:=hst
    replace hon:zB _:=trivial
    generalize jY x A=A2 at *
    obtain⟨kd,tw,pe,ot,fr,to,ev,xnl,xfu,xs,exc⟩:=x
    simp only at k1 k2 hex
    generalize List.map (iv .i64) exc=X at *
    repeat' (first|(refine zD fun K hK=>?_)|(refine zA fun K hK=>?_;simp (disch:=omega) [go_sem, *,zM,zN,zO])|(apply zB.out hK;clear hK K;try with_reducible dsimp only[zC])|(apply zB.out ht;clear ht hf Kt Kf)|(with_reducible refine zJ.gcall (k1) ?_;try simp (disch:=omega) [go_sem, *])|(with_reducible refine zJ.gcall (k2) ?_;try simp (disch:=omega) [go_sem, *])|(refine zI ?_)|(refine zK ?_;simp only[zC])|(refine zF fun Kt Kf ht hf=>?_;simp (disch:=omega) [go_sem, *];try (refine⟨fun hc=>?_,fun hc=>?_⟩ <;> try (exfalso;omega))))
    exact zS (by simp (disch:=omega) [go_sem]) (Sub.refl _) ⟨i + 1,_,A2,by omega,by omega,hst.out.symm,rfl⟩ (by simp[zY,go_sem];omega)
   | false=>
    rw[hon,if_neg (by simp)] at hst
    rw[hon] at k1
    replace hst:zB _:=hst
    replace hon:zB _:=trivial
    clear k2
    obtain⟨kd,tw,pe,ot,fr,to,ev,xnl,xfu,xs,exc⟩:=x
    simp only at k1 hex
    generalize List.map (iv .i64) exc=X at *
    repeat' (first|(refine zD fun K hK=>?_)|(refine zA fun K hK=>?_;simp (disch:=omega) [go_sem, *,zM,zN,zO])|(apply zB.out hK;clear hK K;try with_reducible dsimp only[zC])|(apply zB.out ht;clear ht hf Kt Kf)|(apply zB.out hf;clear ht hf Kt Kf)|(with_reducible refine zJ.gcall (k1) ?_;try simp (disch:=omega) [go_sem, *])|(refine zI ?_)|(refine zK ?_;simp only[zC,zP])|(refine zF fun Kt Kf ht hf=>?_;simp (disch:=omega) [go_sem, *];try (refine⟨fun hc=>?_,fun hc=>?_⟩ <;> try (exfalso;omega))))
    exact zS (by simp (disch:=omega) [go_sem]) (Sub.refl _) ⟨i + 1,_,A,by omega,by omega,hst.out.symm,rfl⟩ (by simp[zY,go_sem];omega)
  ·have hii:i=ls.length:=by omega
   subst hii
   have hTT:T=Ze d A:=by rw[hT.out,hA]
   subst hTT
   replace hT:zB _:=trivial
   replace hA:zB _:=hA
   repeat' (first|(refine zD fun K hK=>?_)|(refine zA fun K hK=>?_;simp (disch:=omega) [go_sem, *])|(apply zB.out hK;clear hK K;try with_reducible dsimp only[zC])|(apply zB.out hf;clear ht hf Kt Kf)|(clear hK K;apply zB.out hK;clear hK K;try with_reducible dsimp only[zC])|(refine zT ?_;simp only[zC,zP,if_true])|(refine zF fun Kt Kf ht hf=>?_;simp (disch:=omega) [go_sem, *];try (refine⟨fun hc=>?_,fun hc=>?_⟩ <;> try (exfalso;omega))))
   (refine zf ?_;try dsimp only[zC,zP];refine⟨by simp,_,(by first | rfl|(simp (disch:=omega) [go_sem,zG] <;> rfl)),?_⟩;refine zZ ⟨fun k hk=>(by first | rfl|(repeat rw[zG _ _ _ _ (by omega)])),(by simp[go_sem,Qo]),(by simp[go_sem] <;> omega),by simp,by simp⟩)
end Go.AM
