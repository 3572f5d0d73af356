/- Doubles and loads, by the specification. Conditions: as each theorem says. -/
import Derived.Test.YtkbgmkhdjmkpdaaGreatDoorGr
import Derived.Test.YtkbgmkhdjmkpdaaGreatDoorDl
namespace Go.AM
open Go.RowKit
def fp4 (F D:List Nat) (t:Nat):Bool:=F.contains t || D.contains t
def isFA4 (F D:List Nat) (o:Oper):Bool:=o.guard.isNone && match o.op with
 | .fieldAddr _ (.tmp f) _=>fp4 F D f
 | .indexAddr _ (.tmp f) _=>fp4 F D f
 | .move (.tmp f)=>fp4 F D f
 | _=>false
def srcS:Op→Option Nat
 | .fieldAddr _ (.tmp f) _=>some f
 | .indexAddr _ (.tmp f) _=>some f
 | .move (.tmp f)=>some f
 | .load _ (.tmp f)=>some f
 | _=>none
def Imm (x:AV):Prop:=(∃l,x=.fptr l)∨∃nl fu s l,x=.fslc nl fu s l
def ImmOk (F:List Nat) (s:List (Nat × AV)):Prop:=∀t ∈ F,Imm (get s t)
def qc (F D:List Nat) (op:Op):Bool:=match jU op with | some t=>fp4 F D t | none=>false
def qx (F D:List Nat) (P:Program) (ops:Array Oper) (p i:Oper):Bool:=p.apart ops i && (Je (ZB P p.op) (ZB P i.op) || qc F D p.op || qc F D i.op || (isAp p.op && isD P i.op))
def LdAt4 (op:Op) (s:List (Nat × AV)):Prop:=∀t,jU op=some t→Imm (get s t)
theorem ld_src {op:Op} {t:Nat} (h:jU op=some t):srcS op=some t:=by
 unfold jU at h
 split at h
 ·exact h
 ·cases h
theorem src_looks {ops:Array Oper} {o:Oper} {t:Nat} (h:srcS o.op=some t):t ∈ o.looksAt ops:=by
 unfold Oper.looksAt
 refine List.mem_append_left _ ?_
 unfold srcS at h
 split at h <;> first | cases h | skip
 all_goals (rename_i e;rw[e];simp[Op.operands])
theorem f_ld4 [Vars] {P:Program} {ops:Array Oper} {F D:List Nat} {o:Oper} {s:List (Nat × AV)} (hl:qc F D o.op=true) (hF:LdAt4 o.op s):ZB P o.op≠.w∧ZB P o.op≠.a∧ZB P o.op≠.d∧∃X:Option AV,∀nm h,ZY P ops nm o s h=X.map (·,h):=by
 have hs:∃t,jU o.op=some t:=by
  unfold qc at hl
  cases e:jU o.op with
  | none=>rw[e] at hl;cases hl
  | some t=>exact⟨t,rfl⟩
 obtain⟨t,ht⟩:=hs
 have hi:=hF t ht
 have ho:∃ty,o.op=.load ty (.tmp t):=by
  unfold jU at ht
  split at ht
  ·rename_i ty t' e;cases ht;exact⟨ty,e⟩
  ·cases ht
 obtain⟨ty,ho⟩:=ho
 refine⟨by rw[ho];simp[ZB],by rw[ho];simp[ZB],by rw[ho];simp[ZB],?_⟩
 unfold ZY
 cases z7 ops s o.guard with
 | none=>exact⟨none,fun _ _=>rfl⟩
 | some b=>
  cases b with
  | false=>exact⟨some (.tup []),fun _ _=>rfl⟩
  | true=>
   rw[ho]
   simp only[zc]
   cases lay P ty with
   | none=>exact⟨none,fun _ _=>rfl⟩
   | some sg=>
    rcases hi with ⟨l,hg⟩ | ⟨nl,fu,z,l,hg⟩
    ·refine⟨Zi sg l,fun _ _=>?_⟩
     simp only[ev,hg]
    ·refine⟨none,fun _ _=>?_⟩
     simp only[ev,hg]
     rfl
structure Facts4 [Vars] (F D:List Nat) (P:Program) (ops:Array Oper) (st:St) (nmp nmi:Nat) (p i:Oper):Prop extends Facts P ops st nmp nmi p i where
 runsL:qc F D i.op=true→∃x,∀nm h,ZY P ops nm i st.s h=some (x,h)
 wL:qc F D i.op=true→ZB P i.op≠.w∧ZB P i.op≠.d
theorem swap_ok4 [Vars] {F D:List Nat} {P:Program} {ops:Array Oper} {nmp nmi:Nat} {p i:Oper} {st:St} (hc:qx F D P ops p i=true) (FF:Facts4 F D P ops st nmp nmi p i) (hfp:qc F D p.op=true→LdAt4 p.op st.s) {K:St→Prop} (hK:∀a b,Eqv a b→K a→K b)
  (h:aOp P ops nmp p st (fun s1=>aOp P ops nmi i s1 K)):aOp P ops nmi i st (fun s1=>aOp P ops nmp p s1 K):=by
 by_cases hcp:Je (ZB P p.op) (ZB P i.op)=true
 ·refine swap_ok ?_ FF.toFacts hK h
  simp only[qx,Bool.and_eq_true] at hc
  simp only[comm,Bool.and_eq_true]
  exact⟨hc.1,hcp⟩
 simp only[qx,Bool.and_eq_true,Bool.or_eq_true] at hc
 obtain⟨hap,hcl⟩:=hc
 obtain⟨ha1,ha2,ha3⟩:=Oper.apart_spec hap
 have hrl:=FF.runsL
 have hwl:=FF.wL
 have hdok:=FF.dok
 have hfree:=FF.free
 have hne:=FF.ne
 obtain⟨nt,s,hp,n⟩:=st
 obtain⟨hdp,h⟩:=h
 simp only at hdp h hfp hrl hdok hfree ⊢
 have ag1:∀x h1 n1,agreeOn (i.looksAt ops) (put ⟨nt,s,h1,n1⟩ p.dst x).s s:=fun x h1 n1 t ht=>JS (fun e=>ha1 t e ht)
 have ag2:∀x h1 n1,agreeOn (p.looksAt ops) (put ⟨nt,s,h1,n1⟩ i.dst x).s s:=fun x h1 n1 t ht=>JS (fun e=>ha3 t e ht)
 have hh:ZX P ops nmp p s hp n fun x h1 n1=>ZX P ops nmi i s h1 n1 fun y h2 n2=>K (put ⟨nt,(put ⟨nt,s,h1,n1⟩ p.dst x).s,h2,n2⟩ i.dst y):=by
  refine zw h fun x h1 n1 hk=>?_
  obtain⟨k1,k2⟩:=hk
  rw[put_nt.1,put_nt.2.1,put_nt.2.2] at k2
  exact (ZJ (ag1 x h1 n1)).1 k2
 have goal:(ZX P ops nmi i s hp n fun y h1 n1=>ZX P ops nmp p s h1 n1 fun x h2 n2=>K (put ⟨nt,(put ⟨nt,s,h1,n1⟩ p.dst x).s,h2,n2⟩ i.dst y))→aOp P ops nmi i ⟨nt,s,hp,n⟩ (fun s1=>aOp P ops nmp p s1 K):=by
  intro g2
  refine⟨hdok,zw g2 fun y h1 n1 hk=>⟨by rw[put_nt.1];exact hdp,?_⟩⟩
  rw[put_nt.1,put_nt.2.1,put_nt.2.2]
  refine (ZJ (ag2 y h1 n1)).2 (zw hk fun x h2 n2 hk=>?_)
  refine hK _ _ (ql (fun t e=>ha2 t e) n2 h2) ?_
  exact hk
 refine goal ?_
 have hs:∀x h1 n1 h2 n2,(put ⟨nt,s,h1,n1⟩ p.dst x).s=(put ⟨nt,s,h2,n2⟩ p.dst x).s:=fun x h1 n1 h2 n2=>by cases p.dst <;> rfl
 by_cases hia:qc F D i.op=true
 ·obtain⟨y,hy⟩:=hrl hia
  have hw:=(hwl hia).1
  have e1:∀h1 n1 K1,ZX P ops nmi i s h1 n1 K1↔K1 y h1 n1:=fun h1 n1 K1=>by rw[ZU hw,hy];rfl
  rw[e1]
  exact zw hh fun x h1 n1 hk=>by rw[e1] at hk;rw[hs x hp n h1 n1];exact hk
 by_cases hpa:qc F D p.op=true
 ·obtain⟨hw,_,_,X,hX⟩:=f_ld4 (P:=P) (ops:=ops) hpa (hfp hpa)
  have e1:∀h1 n1 K1,ZX P ops nmp p s h1 n1 K1↔ZI (X.map (·,h1)) n1 K1:=fun h1 n1 K1=>by rw[ZU hw,hX]
  rw[e1] at hh
  cases X with
  | none=>exact hh.elim
  | some x=>
   simp only[Option.map_some,ZI] at hh
   refine zw hh fun y h1 n1 hk=>?_
   rw[e1]
   simp only[Option.map_some,ZI]
   rw[hs x h1 n1 hp n];exact hk
 obtain⟨hpp,hid⟩:isAp p.op=true∧isD P i.op=true:=by
  rcases hcl with ((h' | h')|h')|h'
  ·exact absurd h' hcp
  ·exact absurd h' hpa
  ·exact absurd h' hia
  ·exact h'
 have hcd:ZB P i.op=.d:=by
  unfold isD at hid
  split at hid
  ·assumption
  ·cases hid
 have hiw:ZB P i.op≠.w:=by rw[hcd];simp
 obtain⟨X,hX⟩:=f_d (ops:=ops) hcd s nmi
 rw[QO (ap_nc hpp)] at hh
 cases hv:ZY P ops nmp p s hp with
 | none=>rw[hv] at hh;exact hh.elim
 | some xh=>
  obtain⟨x,h1⟩:=xh
  rw[hv] at hh
  simp only[ZI] at hh
  rw[ZU hiw,hX] at hh
  rw[ZU hiw,hX]
  cases X with
  | none=>exact hh.elim
  | some yo=>
   obtain⟨y,oo⟩:=yo
   simp only[Option.map_some,ZI] at hh ⊢
   rw[QO (ap_nc hpp)]
   cases oo with
   | none=>
    simp only at hh ⊢
    rw[hv]
    simp only[ZI]
    rw[hs x hp n h1 n];exact hh
   | some ob=>
    simp only at hh ⊢
    rw[(ap_val hpp hv (hfree hcd) (Ne.symm hne)).2 (some ob)]
    simp only[ZI]
    rw[hs x _ n h1 n];exact hh
def WOk4 (F D:List Nat) (ops:Array Oper):Prop:=∀(i:Nat) o,ops[i]? = some o→∀d,o.dst=some d→d ∉ F∧(d ∈ D→isFA4 F D o=true)
theorem fp4_D {F D:List Nat} {t:Nat} (h:fp4 F D t=true) (hn:t ∉ F):t ∈ D:=by
 simp only[fp4,Bool.or_eq_true,List.contains_iff_mem] at h
 exact h.resolve_left hn
structure Psi4 (F D:List Nat) (ops:Array Oper) (s:List (Nat × AV)) (L:List Nat):Prop where
 fp:ImmOk F s
 ld:∀p ∈ L,∀o,ops[p]? = some o→∀t,srcS o.op=some t→fp4 F D t=true→Imm (get s t)∨∃j ∈ L,j < p∧∃q,ops[j]? = some q∧q.dst=some t
theorem Psi4.head {F D:List Nat} {ops:Array Oper} {s:List (Nat × AV)} {p:Nat} {r:List Nat} (h:Psi4 F D ops s (p :: r)) (hs:(p :: r).Pairwise (·< ·)) {o:Oper} (ho:ops[p]? = some o):∀t,srcS o.op=some t→fp4 F D t=true→Imm (get s t):=by
 intro t ht hf
 rcases h.ld p (by simp) o ho t ht hf with h' | ⟨j,hj,hlt,_⟩
 ·exact h'
 ·exfalso
  rcases List.mem_cons.1 hj with h' | h'
  ·omega
  ·have:=(List.pairwise_cons.1 hs).1 j h';omega
theorem Psi4.at [Vars] {F D:List Nat} {op:Op} {s:List (Nat × AV)} (h:∀t,srcS op=some t→fp4 F D t=true→Imm (get s t)) (hl:qc F D op=true):LdAt4 op s:=fun t ht=>h t (ld_src ht) (by unfold qc at hl;rw[ht] at hl;exact hl)
theorem Psi4.step [Vars] {F D:List Nat} {ops:Array Oper} {s s1:List (Nat × AV)} {L L':List Nat} {p:Nat} {o:Oper} (h:Psi4 F D ops s L) (hW:WOk4 F D ops) (ho:ops[p]? = some o) (hk:∀t,o.dst≠some t→get s1 t=get s t)
  (hfa:isFA4 F D o=true→∀d,o.dst=some d→Imm (get s1 d)) (h1:∀x ∈ L',x ∈ L) (h2:∀x ∈ L,x≠p→x ∈ L'):Psi4 F D ops s1 L':=by
 have hf:ImmOk F s1:=fun t ht=>by rw[hk t (fun e=>(hW p o ho t e).1 ht)];exact h.fp t ht
 refine⟨hf,fun p' hp' o' ho' t ht hl=>?_⟩
 have hdst:o.dst=some t→Imm (get s1 t):=fun e=>hfa ((hW p o ho t e).2 (fp4_D hl (hW p o ho t e).1)) t e
 rcases h.ld p' (h1 p' hp') o' ho' t ht hl with h' | ⟨j,hj,hlt,q,hq,hqd⟩
 ·left
  by_cases e:o.dst=some t
  ·exact hdst e
  ·rw[hk t e];exact h'
 ·by_cases e:j=p
  ·subst e
   rw[ho] at hq;cases hq
   exact .inl (hdst hqd)
  ·exact .inr ⟨j,h2 j hj e,hlt,q,hq,hqd⟩
theorem fa_val4 [Vars] {F D:List Nat} {P:Program} {ops:Array Oper} {nm:Nat} {o:Oper} {s:List (Nat × AV)} {h h':zH} {x:AV} (hf:isFA4 F D o=true) (hF:∀t,srcS o.op=some t→fp4 F D t=true→Imm (get s t)) (he:ZY P ops nm o s h=some (x,h')):Imm x:=by
 simp only[isFA4,Bool.and_eq_true] at hf
 obtain⟨hg,ho⟩:=hf
 have hg:o.guard=none:=by simpa using hg
 unfold ZY at he
 rw[hg] at he
 simp only[z7] at he
 split at ho
 ·rename_i t f k hop
  have hi:=hF f (by rw[hop];rfl) ho
  simp only[hop,zc] at he
  split at he
  ·split at he
   ·cases he
   ·rcases hi with ⟨l,hl⟩ | ⟨nl,fu,z,l,hl⟩
    ·simp only[ev,hl,Option.some.injEq,Prod.mk.injEq] at he
     exact .inl ⟨_,he.1.symm⟩
    ·simp only[ev,hl] at he;cases he
  ·cases he
 ·rename_i t f k hop
  have hi:=hF f (by rw[hop];rfl) ho
  simp only[hop,zc] at he
  split at he
  ·rcases hi with ⟨l,hl⟩ | ⟨nl,fu,z,l,hl⟩
   ·simp only[ev,hl] at he;cases he
   ·simp only[ev,hl] at he
    split at he
    ·split at he
     ·simp only[Option.some.injEq,Prod.mk.injEq] at he
      exact .inl ⟨_,he.1.symm⟩
     ·cases he
    ·cases he
  ·rcases hi with ⟨l,hl⟩ | ⟨nl,fu,z,l,hl⟩
   ·simp only[ev,hl,j9] at he
    split at he
    ·split at he
     ·simp only[Option.map_some,Option.some.injEq,Prod.mk.injEq] at he
      exact .inl ⟨_,he.1.symm⟩
     ·simp at he
    ·simp at he
   ·simp only[ev,hl,j9] at he
    split at he
    ·split at he
     ·simp at he
     ·simp at he
    ·simp at he
 ·rename_i f hop
  have hi:=hF f (by rw[hop];rfl) ho
  simp only[hop,zc,Option.some.injEq,Prod.mk.injEq] at he
  rw[←he.1]
  exact hi
 ·cases ho
theorem fa_nc4 {F D:List Nat} {o:Oper} (hf:isFA4 F D o=true):ZT o.op=none:=by
 simp only[isFA4,Bool.and_eq_true] at hf
 obtain⟨_,ho⟩:=hf
 split at ho
 ·rename_i hop;rw[hop];rfl
 ·rename_i hop;rw[hop];rfl
 ·rename_i hop;rw[hop];rfl
 ·cases ho
theorem aOp_keep4 [Vars] (F D:List Nat) {P:Program} {ops:Array Oper} {nm:Nat} {o:Oper} {st:St} {K:St→Prop} (h:aOp P ops nm o st K) :
  aOp P ops nm o st fun s=>K s∧s.nt=st.nt∧(∀t,o.dst≠some t→get s.s t=get st.s t)∧(ZB P o.op≠.w→∀m,m≠nm→s.h m=st.h m)∧(isAp o.op=true→∀m,m≠nm→st.h m=none→s.h m=none)∧(isFA4 F D o=true→(∀t,srcS o.op=some t→fp4 F D t=true→Imm (get st.s t))→∀d,o.dst=some d→Imm (get s.s d)):=by
 have h1:=aOp_keep h
 cases hc:ZT o.op with
 | some f=>
  refine jM h1 fun s ⟨a1,a2,a3,a4⟩=>⟨a1,a2,a3,a4,fun e=>?_,fun e=>?_⟩
  ·rw[ap_nc e] at hc;cases hc
  ·rw[fa_nc4 e] at hc;cases hc
 | none=>
  obtain⟨hd,h2⟩:=h1
  refine⟨hd,?_⟩
  rw[QO hc] at h2 ⊢
  cases hx:ZY P ops nm o st.s st.h with
  | none=>rw[hx] at h2;exact h2.elim
  | some xh=>
   obtain⟨x,h'⟩:=xh
   rw[hx] at h2
   simp only[ZI] at h2 ⊢
   obtain⟨a1,a2,a3,a4⟩:=h2
   refine⟨a1,a2,a3,a4,fun e m hm hn=>?_,fun e hF d hd=>?_⟩
   ·rw[put_nt.2.1];exact (ap_val e hx hn hm).1
   ·have hi:=fa_val4 e hF hx
    rw[hd]
    simpa [put,get] using hi
theorem real_run4 [Vars] {F D:List Nat} {P:Program} {w0:World} {G0:Gh} {fl base:Nat} {ops:Array Oper} (hW:WOk4 F D ops) (hfl:fl≤base) {l2:List Nat} {i:Nat} {K:St→Prop} {T:List Tmp}:∀(l1:List Nat) {G:Gh} {st:St} {a:Act} {w:World}
  (_:RSim w0 G0 fl base (l1 ++ i :: l2) G st a w) (_:(l1 ++ i :: l2).Pairwise (·< ·)) (_:∀p ∈ l1,∀o,ops[p]? = some o→∀d,o.dst=some d→d ∉ T) (_:Psi4 F D ops st.s (l1 ++ i :: l2)) (_:zy P ops base K (l1 ++ i :: l2) st),
  ∃st',st'.nt=st.nt∧(∀t ∈ T,get st'.s t=get st.s t)∧Psi4 F D ops st'.s (i :: l2)∧zy P ops base K (i :: l2) st'
 | [],G,st,a,w,S,hn,hT,hp,h=>⟨st,rfl,fun _ _=>rfl,hp,h⟩
 | p :: l1,G,st,a,w,S,hn,hT,hp,h=>by
  simp only[List.cons_append] at S hn hp h
  have hn0:=hn
  have hnd:=List.nodup_cons.1 (show (p :: (l1 ++ i :: l2)).Nodup from hn.imp fun h=>Nat.ne_of_lt h)
  have hn':=List.pairwise_cons.1 hn
  have h':=h
  simp only[zy] at h'
  cases ho:ops[p]? with
  | none=>rw[ho] at h';exact h'.elim
  | some o=>
   rw[ho] at h'
   obtain⟨G1,st1,a1,w1,S1,k1,k2,k3,_,_,k6⟩:=real_step S hfl hnd.1 (aOp_keep4 F D h')
   have hp1:=hp.step hW ho k3 (fun e=>k6 e (hp.head hn0 ho)) (L':=l1 ++ i :: l2) (fun x hx=>by simp only[List.mem_cons];exact .inr hx) (fun x hx hne=>by simpa [hne] using hx)
   obtain⟨st',e1,e2,e2p,e3⟩:=real_run4 hW hfl l1 S1 hn'.2 (fun q hq=>hT q (by simp[hq])) hp1 k1
   exact⟨st',e1.trans k2,fun t ht=>(e2 t ht).trans (k3 t fun e=>hT p (by simp) o ho t e ht),e2p,e3⟩
theorem front4 [Vars] {F D:List Nat} {P:Program} {base:Nat} {ops:Array Oper} {i:Nat} {o:Oper} (hW:WOk4 F D ops) (ho:ops[i]? = some o) {l2:List Nat} {K:St→Prop} (hK:∀a b,Eqv a b→K a→K b):∀(l1:List Nat) (st:St)
  (_:∀p ∈ l1,p≠i∧∀q,ops[p]? = some q→qx F D P ops q o=true∧Facts4 F D P ops st (base + p) (base + i) q o) (_:(l1 ++ i :: l2).Pairwise (·< ·)) (_:Psi4 F D ops st.s (l1 ++ i :: l2)) (_:zy P ops base K (l1 ++ i :: l2) st),
  zy P ops base K (i :: (l1 ++ l2)) st
 | [],st,_,_,_,h=>h
 | p :: l1,st,hc,hsrt,hpsi,h=>by
  simp only[List.cons_append] at h hsrt hpsi
  have h':=h
  simp only[zy] at h'
  obtain⟨hpi,hq⟩:=hc p (by simp)
  cases hp:ops[p]? with
  | none=>rw[hp] at h';exact h'.elim
  | some q=>
   rw[hp] at h'
   obtain⟨hcm,hF⟩:=hq q hp
   have hap:q.apart ops o=true:=by simp only[qx,Bool.and_eq_true] at hcm;exact hcm.1
   obtain⟨ha1,_,_⟩:=Oper.apart_spec hap
   have h1:aOp P ops (base + p) q st (fun s1=>aOp P ops (base + i) o s1 (zy P ops base K (l1 ++ l2))):=by
    refine jM (aOp_keep4 F D h') fun s1 ⟨k1,k2,k3,k4,k5,k6⟩=>?_
    have hpsi1:=hpsi.step hW hp k3 (fun e=>k6 e (hpsi.head hsrt hp)) (L':=l1 ++ i :: l2) (fun x hx=>by simp only[List.mem_cons];exact .inr hx) (fun x hx hne=>by simpa [hne] using hx)
    have ih:=front4 hW ho hK l1 s1 (fun p' hp'=>⟨(hc p' (by simp[hp'])).1,fun q' hq'=>?_⟩) (List.pairwise_cons.1 hsrt).2 hpsi1 k1
    ·simpa only[zy,ho] using ih
    ·obtain⟨g1,g2⟩:=(hc p' (by simp[hp'])).2 q' hq'
     have hag:agreeOn (o.looksAt ops) s1.s st.s:=fun t ht=>k3 t fun e=>ha1 t e ht
     refine⟨g1,⟨g2.ne,fun x hx hd off e=>?_,fun hd=>?_,fun hA=>?_,by rw[k2];exact g2.dok⟩,fun hA=>let ⟨x,hx⟩:=g2.runsL hA;⟨x,fun nm h=>by rw[Zb hag];exact hx nm h⟩,g2.wL⟩
     ·refine g2.look x hx hd off ?_
      rw[←e]
      exact (qw hag x (cl_b hx st.s).1).symm
     ·by_cases hqa:isAp q.op=true
      ·exact k5 hqa _ (fun e=>hpi (by omega)) (g2.free hd)
      have hqw:ZB P q.op≠.w:=by
       intro e
       simp only[qx,Bool.and_eq_true,Bool.or_eq_true] at hcm
       rcases hcm.2 with ((h' | h')|h')|h'
       ·rw[e,hd] at h';simp[Je] at h'
       ·exact (f_ld4 (P:=P) (ops:=ops) h' (Psi4.at (hpsi.head hsrt hp) h')).1 e
       ·exact (g2.wL h').2 hd
       ·exact hqa h'.1
      rw[k4 hqw _ (fun e=>hpi (by omega))]
      exact g2.free hd
     ·obtain⟨x,hx⟩:=g2.runs hA
      exact⟨x,fun nm h=>by rw[Zb hag];exact hx nm h⟩
   have h2:=swap_ok4 hcm hF (fun e=>Psi4.at (hpsi.head hsrt hp) e) (QS hK (l1 ++ l2)) h1
   simp only[zy,ho]
   refine jM h2 fun s1 k=>?_
   simp only[List.cons_append,zy,hp]
   exact k
def J4 (F D:List Nat) (P:Program) (ops:Array Oper):Bool:=
 let m:=jt [] ops.toList
 (List.range ops.size).all fun i=>match ops[i]? with
   | none=>false
   | some o=>(((match o.dst with | some d=>!F.contains d && (!D.contains d || isFA4 F D o)|none=>true) && (match srcS o.op with | some t=>!fp4 F D t || F.contains t || (List.range i).any (fun j=>match ops[j]? with | some q=>q.dst == some t | none=>false)|none=>true)) && (o.after.toList.all fun e=>!Region.binds .any e || decide (e.on < i))) &&
    (List.range i).all fun p=>(m.getD i 0).testBit p || (match ops[p]? with | some q=>qx F D P ops q o | none=>false)
section
variable {F D : List Nat} {P : Program} {ops : Array Oper}
theorem drawOK4_edge (h:J4 F D P ops=true) {i:Nat} {o:Oper} (ho:ops[i]? = some o):∀e ∈ o.after,Region.binds .any e=true→e.on < i:=by
 intro e he hb
 have hi:i < ops.size:=(Array.getElem?_eq_some_iff.1 ho).1
 have:=List.all_eq_true.1 h i (by simpa using hi)
 rw[ho] at this
 simp only[Bool.and_eq_true] at this
 have:=List.all_eq_true.1 this.1.2 e (by simpa using he)
 simpa [hb] using this
theorem drawOK4_comm (h:J4 F D P ops=true) {i p:Nat} {o q:Oper} (ho:ops[i]? = some o) (hq:ops[p]? = some q) (hp:p < i) (hn:((jt [] ops.toList).getD i 0).testBit p=false):qx F D P ops q o=true:=by
 have hi:i < ops.size:=(Array.getElem?_eq_some_iff.1 ho).1
 have:=List.all_eq_true.1 h i (by simpa using hi)
 rw[ho] at this
 simp only[Bool.and_eq_true] at this
 have:=List.all_eq_true.1 this.2 p (by simpa using hp)
 rw[hn,hq] at this
 simpa using this
theorem drawOK4_w (h:J4 F D P ops=true):WOk4 F D ops:=fun i o ho d hd=>by
 have hi:i < ops.size:=(Array.getElem?_eq_some_iff.1 ho).1
 have:=List.all_eq_true.1 h i (by simpa using hi)
 rw[ho] at this
 simp only[Bool.and_eq_true] at this
 have:=this.1.1.1
 rw[hd] at this
 simp only[Bool.and_eq_true,Bool.or_eq_true,Bool.not_eq_true'] at this
 refine⟨fun e=>by have:=this.1;simp[e] at this,fun e=>?_⟩
 rcases this.2 with h' | h'
 ·simp[e] at h'
 ·exact h'
theorem drawOK4_psi (h:J4 F D P ops=true) {s:List (Nat × AV)} (hfp:ImmOk F s):Psi4 F D ops s (List.range ops.size):=⟨hfp,fun i _ o ho t ht hl=>by
 have hi:i < ops.size:=(Array.getElem?_eq_some_iff.1 ho).1
 have:=List.all_eq_true.1 h i (by simpa using hi)
 rw[ho] at this
 simp only[Bool.and_eq_true] at this
 have:=this.1.1.2
 rw[ht] at this
 simp only[Bool.or_eq_true,Bool.not_eq_true',List.any_eq_true,List.mem_range] at this
 rcases this with (h' | h')|⟨j,hj,h'⟩
 ·rw[hl] at h';cases h'
 ·exact .inl (hfp t (by simpa using h'))
 ·split at h'
  ·rename_i q hq
   simp only[beq_iff_eq] at h'
   exact .inr ⟨j,by simp;omega,hj,q,hq,h'⟩
  ·cases h'⟩
theorem any_ok4 [Vars] (r:Option Nat) (hok:J4 F D P ops=true) {w0:World} {G0:Gh} {fl base:Nat} (hfl:fl≤base) {K:St→Prop} (hK:∀a b,Eqv a b→K a→K b) {Q:Exit→Act→World→Prop}
  (hQ:∀G st a w,RSim w0 G0 fl base [] G st a w→K st→Q .normal a w):∀(fuel:Nat) (rem:List Nat) (listed:Array Bool) (G:Gh) (st:St) (a:Act) (w:World),
  rem.length≤fuel→rem.Pairwise (·< ·)→listed.size=ops.size→(∀j,j ∈ rem↔j < ops.size∧listed.getD j true=false)→
  (∀(i:Nat) o,ops[i]? = some o→listed.getD i false=true→∀e ∈ o.after,Region.binds .any e=true→listed.getD e.on false=true)→
  RSim w0 G0 fl base rem G st a w→Psi4 F D ops st.s rem→zy P ops base K rem st→wpAnyIn (FR r) 0 P .any ops Q fuel listed a w:=by
 intro fuel
 induction fuel with
 | zero=>
  intro rem listed G st a w hf hs hsz hr hd S hpsi h
  have:rem=[]:=List.length_eq_zero_iff.1 (by omega)
  subst this
  refine⟨?_,hQ G st a w S h⟩
  cases hrd:Region.ready .any ops listed with
  | nil=>rfl
  | cons i r=>
   obtain⟨h1,h2,_⟩:=jB (by rw[hrd];simp:i ∈ Region.ready .any ops listed)
   have:=(hr i).2 ⟨h1,h2⟩
   simp at this
 | succ fuel ih=>
  intro rem listed G st a w hf hs hsz hr hd S hpsi h
  refine⟨fun hnil=>?_,fun i hi=>?_⟩
  ·cases rem with
   | nil=>exact hQ G st a w S h
   | cons i r=>
    exfalso
    obtain⟨hi1,hi2⟩:=(hr i).1 (by simp)
    have hready:i ∈ Region.ready .any ops listed:=by
     simp only[Region.ready,List.mem_filter,List.mem_range,Bool.and_eq_true,Bool.not_eq_true']
     refine⟨hi1,hi2,?_⟩
     rw[Array.getElem?_eq_getElem hi1]
     simp only[Option.map_some,Option.getD_some]
     refine Array.all_eq_true_iff_forall_mem.2 fun e he=>?_
     by_cases hb:Region.binds .any e=true
     ·have hlt:=drawOK4_edge hok (Array.getElem?_eq_getElem hi1) e he hb
      have:listed.getD e.on false=true:=by
       have hne:e.on ∉ i :: r:=by
        intro hm
        rcases List.mem_cons.1 hm with h' | h'
        ·omega
        ·have:=(List.pairwise_cons.1 hs).1 _ h';omega
       have h3:¬(e.on < ops.size∧listed.getD e.on true=false):=fun h'=>hne ((hr _).2 h')
       have hlt2:e.on < listed.size:=by omega
       simp only[Array.getD_eq_getD_getElem?,Array.getElem?_eq_getElem hlt2,Option.getD_some] at h3 ⊢
       cases hv:listed[e.on] with
       | true=>rfl
       | false=>exact absurd ⟨by omega,hv⟩ h3
      simp[this]
     ·simp[hb]
    rw[hnil] at hready
    cases hready
  ·obtain⟨h1,h2,o,ho,h3⟩:=jB hi
   have hmem:=(hr i).2 ⟨h1,h2⟩
   obtain⟨l1,l2,hl⟩:=List.append_of_mem hmem
   subst hl
   have hnd:(l1 ++ i :: l2).Nodup:=hs.imp (fun h=>Nat.ne_of_lt h)
   have hpw:=List.pairwise_append.1 hs
   have hcomm:∀p ∈ l1,∀q,ops[p]? = some q→qx F D P ops q o=true:=by
    intro p hp q hq
    have hpi:p < i:=hpw.2.2 p hp i (by simp)
    refine drawOK4_comm hok ho hq hpi ?_
    have hgood:=anc_good (ops:=ops.toList) (listed:=fun j=>listed.getD j false=true) (fun j o' hj hl e he hb=>hd j o' (by simpa using hj) hl e he hb) ops.toList [] rfl (by simp) (fun j m hm=>by simp at hm)
    cases hb:((jt [] ops.toList).getD i 0).testBit p with
    | false=>rfl
    | true=>
     exfalso
     have hlen:i < (jt [] ops.toList).length:=by rw[j3];simpa using h1
     rw[List.getD_eq_getElem?_getD,List.getElem?_eq_getElem hlen] at hb
     have hlp:=hgood i _ (List.getElem?_eq_getElem hlen) o (by simpa using ho) h3 p (by simpa using hb)
     obtain⟨p1,p2⟩:=(hr p).1 (by simp[hp])
     have hps:p < listed.size:=by omega
     simp only[Array.getD_eq_getD_getElem?,Array.getElem?_eq_getElem hps,Option.getD_some] at hlp p2
     rw[p2] at hlp;cases hlp
   have hTd:∀p ∈ l1,∀q,ops[p]? = some q→∀d,q.dst=some d→d ∉ o.looksAt ops:=by
    intro p hp q hq d hd'
    have:=hcomm p hp q hq
    simp only[qx,Bool.and_eq_true] at this
    exact (Oper.apart_spec this.1).1 d hd'
   obtain⟨st1,r1,r2,r2p,r3⟩:=real_run4 (drawOK4_w hok) hfl l1 S hs hTd hpsi h
   simp only[zy,ho] at r3
   have hfacts:∀p ∈ l1,p≠i∧∀q,ops[p]? = some q→qx F D P ops q o=true∧Facts4 F D P ops st (base + p) (base + i) q o:=by
    intro p hp
    have hpi:p < i:=hpw.2.2 p hp i (by simp)
    refine⟨by omega,fun q hq=>⟨hcomm p hp q hq,⟨by omega,fun x hx hcd off e=>?_,fun hcd=>?_,fun hca=>?_,by rw[←r1];exact r3.1⟩,fun hca=>?_,fun hca=>?_⟩⟩
    ·have:=Qj S.sim.inv.oth.vars S.sim.slots x
     rw[e] at this
     simp only[Rv] at this
     obtain⟨_,_,_,hreg,_⟩:=this
     rw[(S.names p (by simp[hp])).1] at hreg;cases hreg
    ·cases hh:st.h (base + i) with
     | none=>rfl
     | some ob=>
      obtain⟨_,hreg⟩:=(S.sim.inv.obj _ _ hh).hasReg
      rw[(S.names i (by simp)).1] at hreg;cases hreg
    ·obtain⟨X,hX⟩:=f_a (ops:=ops) hca st.s
     have hv:=r3.2
     rw[ZU (by rw[hca];simp),Zb (s':=st.s) (fun t ht=>r2 t ht),hX] at hv
     cases X with
     | none=>exact hv.elim
     | some x=>exact⟨x,fun nm h=>by rw[hX];rfl⟩
    ·obtain⟨hw,_,_,X,hX⟩:=f_ld4 (P:=P) (ops:=ops) hca (Psi4.at (r2p.head (List.pairwise_append.1 hs).2.1 ho) hca)
     have hv:=r3.2
     rw[ZU hw,hX] at hv
     cases X with
     | none=>exact hv.elim
     | some x=>exact⟨x,fun nm h=>by rw[←Zb (s:=st1.s) (fun t ht=>r2 t ht),hX];rfl⟩
    ·obtain⟨hw,_,hd2,_⟩:=f_ld4 (P:=P) (ops:=ops) hca (Psi4.at (r2p.head (List.pairwise_append.1 hs).2.1 ho) hca)
     exact⟨hw,hd2⟩
   have hsrc:∀t,srcS o.op=some t→fp4 F D t=true→Imm (get st.s t):=fun t ht hl=>by
    rw[←r2 t (src_looks ht)]
    exact r2p.head (List.pairwise_append.1 hs).2.1 ho t ht hl
   have hfr:=front4 (drawOK4_w hok) ho hK l1 st hfacts hs hpsi h
   simp only[zy,ho] at hfr
   have hmove:∀j,j ∈ i :: (l1 ++ l2)→j ∈ l1 ++ i :: l2:=by
    intro j hj
    simp only[List.mem_cons,List.mem_append] at hj ⊢
    rcases hj with rfl | hj | hj
    ·exact .inr (.inl rfl)
    ·exact .inl hj
    ·exact .inr (.inr hj)
   have hnotin:i ∉ l1 ++ l2:=by
    intro hm
    have hnd2:=List.nodup_append.1 hnd
    rcases List.mem_append.1 hm with h' | h'
    ·exact hnd2.2.2 i h' i (by simp) rfl
    ·exact (List.nodup_cons.1 hnd2.2.1).1 h'
   have hres:=op_ok (Q:=Q) (S.sub hmove) hfl hnotin (aOp_keep4 F D hfr) (next:=wpAnyIn (FR r) 0 P .any ops Q fuel (listed.setIfInBounds i true)) ?_ r
   ·unfold wpOpIn
    rw[ho]
    simp only
    split at hres
    ·rename_i hw;rw[if_pos hw];exact hres
    ·rename_i hw;rw[if_neg hw];exact hres
   ·intro G' st' a' w' S' h'
    have hsize:(listed.setIfInBounds i true).size=listed.size:=by simp
    have hget:∀(j:Nat) (d:Bool),(listed.setIfInBounds i true).getD j d=if j=i then (if i < listed.size then true else d) else listed.getD j d:=by
     intro j d
     simp only[Array.getD_eq_getD_getElem?,Array.getElem?_setIfInBounds]
     by_cases hji:i=j
     ·subst hji;by_cases hh:i < listed.size <;> simp[hh]
     ·rw[if_neg hji,if_neg (Ne.symm hji)]
    have hil:i < listed.size:=by omega
    refine ih (l1 ++ l2) _ G' st' a' w' ?_ ?_ ?_ (fun j=>?_) (fun j o' hj hl e he hb=>?_) S' (hpsi.step (drawOK4_w hok) ho h'.2.2.1 (fun e=>h'.2.2.2.2.2 e hsrc) (fun x hx=>by simp only[List.mem_append,List.mem_cons] at hx ⊢;rcases hx with h | h;exact .inl h;exact .inr (.inr h)) (fun x hx hne=>by simp only[List.mem_append,List.mem_cons] at hx ⊢;rcases hx with h | h | h;exact .inl h;exact absurd h hne;exact .inr h)) h'.1
    ·simp only[List.length_append,List.length_cons] at hf ⊢;omega
    ·exact List.pairwise_append.2 ⟨hpw.1,(List.pairwise_cons.1 hpw.2.1).2,fun x hx y hy=>hpw.2.2 x hx y (by simp[hy])⟩
    ·rw[hsize];exact hsz
    ·rw[hget]
     have hrj:=hr j
     by_cases hji:j=i
     ·subst hji
      simp only[if_true,hil]
      constructor
      ·intro hm;exact absurd hm hnotin
      ·rintro⟨_,hc⟩;cases hc
     ·rw[if_neg hji,←hrj]
      simp only[List.mem_append,List.mem_cons]
      constructor
      ·rintro (h' | h')
       ·exact .inl h'
       ·exact .inr (.inr h')
      ·rintro (h' | h' | h')
       ·exact .inl h'
       ·exact absurd h' hji
       ·exact .inr h'
    ·rw[hget] at hl ⊢
     by_cases hei:e.on=i
     ·simp[hei,hil]
     ·rw[if_neg hei]
      by_cases hji:j=i
      ·subst hji
       rw[ho] at hj;cases hj
       exact h3 e he hb
      ·rw[if_neg hji] at hl
       exact hd j o' hj hl e he hb
theorem ac_draw4 [Vars] {fl:Nat} {Q:Exit→St→Prop} {st:St} {id:Nat} (hm:P.follows .mixedOrders=true) (hok:J4 F D P ops=true) (hfp:ImmOk F st.s) (h:zy P ops st.n (Q .normal) (List.range ops.size) {st with n:=st.n + ops.size}):zi P fl (.region id ops true) Q st:=by
 intro r w0 G a w hr S hf
 have S':Sim w0 G st a w.drew:=⟨S.inv.drew,S.size,S.defers,S.slots,S.fresh⟩
 have hQ:∀(G':Gh) (s:St) (a':Act) (w':World),RSim w0 G fl st.n [] G' s a' w'→(∃s0,Eqv s0 s∧Q .normal s0)→∃G'' st',Ext fl G G''∧fl≤st'.n∧Sim w0 G'' st' a' w'∧Q .normal st':=by
  rintro G' s a' w' S1 ⟨s0,e1,e2⟩
  exact⟨G',s0,S1.ext,by rw[e1.2.2.1];exact S1.lim,⟨by rw[e1.2.1];exact S1.sim.inv,by rw[e1.1];exact S1.sim.size,S1.sim.defers,fun t=>by rw[e1.2.2.2];exact S1.sim.slots t,by rw[e1.2.2.1];exact S1.sim.fresh⟩,e2⟩
 refine wpIn_region_any hm (any_ok4 r hok (base:=st.n) (G0:=G) (w0:=w0) hf (K:=fun s=>∃s0,Eqv s0 s∧Q .normal s0) (fun a b e ⟨s0,e1,e2⟩=>⟨s0,e1.trans e,e2⟩) hQ ops.size (List.range ops.size) (Array.replicate ops.size false) G _ a w.drew
  (by simp) List.pairwise_lt_range (by simp) (fun j=>?_) (fun i o ho hl=>?_) (Za S' hf ops.size _ (fun j hj=>by simpa using hj)) (drawOK4_psi hok hfp) (qK (fun s hs=>⟨s,Eqv.refl s,hs⟩) _ _ h))
 ·simp only[List.mem_range]
  constructor
  ·intro hj;exact⟨hj,by simp[Array.getD_eq_getD_getElem?,hj]⟩
  ·exact fun h=>h.1
 ·exfalso
  have hi:i < ops.size:=(Array.getElem?_eq_some_iff.1 ho).1
  simp[Array.getD_eq_getD_getElem?,hi] at hl
end
theorem Z0 [Vars] (F D:List Nat) {P:Program} {fl:Nat} {Q:Exit→St→Prop} {st:St} {id:Nat} {ops:Array Oper} (hm:P.follows .mixedOrders=true) (hok:J4 F D P ops=true) (hfp:ImmOk F st.s) (h:∀K:St→Prop,zB (∀s,Q .normal s→K s)→JK P ops st.n K 0 ops.toList {st with n:=st.n + ops.size}):zi P fl (.region id ops true) Q st:=by
 refine ac_draw4 hm hok hfp ?_
 have:=qE ops.toList 0 rfl _ (h _ fun _ h=>h)
 rwa [←List.range_eq_range',Array.length_toList] at this
end Go.AM
namespace Du
theorem addL_up (O:Ld) (s:ByteArray) (i:Nat) (x:ByteArray × Int) (hx:O[i]? = some x) (h1:∀j y,j < i→O[j]? = some y→bl y.1 s=true) (h2:bl x.1 s=false) (h3:eqB x.1 s=true):Zu O s=O.set i (x.1,x.2 + 1):=by
 induction O generalizing i with
 | nil=>simp at hx
 | cons y r ih=>
  cases i with
  | zero=>
   simp only[List.getElem?_cons_zero,Option.some.injEq] at hx
   subst hx
   rw[Zu,if_neg (by rw[h2];simp),if_pos h3];rfl
  | succ i=>
   have:=h1 0 y (by omega) rfl
   rw[Zu,if_pos this,ih i (by simpa using hx) (fun j z hj e=>h1 (j + 1) z (by omega) e)];rfl
theorem addL_ins (O:Ld) (s:ByteArray) (i:Nat) (hi:i≤O.length) (h1:∀j y,j < i→O[j]? = some y→bl y.1 s=true) (h2:∀x,O[i]? = some x→bl x.1 s=false∧eqB x.1 s=false):Zu O s=O.take i ++ (s,1) :: O.drop i:=by
 induction O generalizing i with
 | nil=>simp[Zu] at hi ⊢
 | cons y r ih=>
  cases i with
  | zero=>
   obtain⟨a,b⟩:=h2 y rfl
   rw[Zu,if_neg (by rw[a];simp),if_neg (by rw[b];simp)];rfl
  | succ i=>
   have:=h1 0 y (by omega) rfl
   rw[Zu,if_pos this,ih i (by simp at hi;omega) (fun j z hj e=>h1 (j + 1) z (by omega) e) (fun x e=>h2 x e)];rfl
theorem fstP_snoc (p:Pr):∀(l seen:List Pr),Jm seen (l ++ [p])=Jm seen l ++ (if Zv (seen ++ l) p.2 > 0 then [] else [p.2])
 | [],seen=>by rw[List.nil_append,Jm,Jm,List.append_nil];split <;> rfl
 | x :: r,seen=>by
  rw[List.cons_append,Jm,fstP_snoc p r (seen ++ [x]),Jm]
  rw[List.append_assoc,List.singleton_append]
  split <;> rfl
def ldI (O:Ld) (l:List Pr) (i:Nat):Ld:=(Jm [] (l.take i)).foldl Zu O
theorem ldI_zero (O:Ld) (l:List Pr):ldI O l 0=O:=by rw[ldI,List.take_zero];rfl
theorem ldI_all (O:Ld) (l:List Pr):ldI O l l.length=ldD O l:=by rw[ldI,List.take_length];rfl
theorem ldI_next (O:Ld) (l:List Pr) (i:Nat) (p:Pr) (h:l[i]? = some p):ldI O l (i + 1)=if Zv (l.take i) p.2 > 0 then ldI O l i else Zu (ldI O l i) p.2:=by
 have hlt:i < l.length:=by
  rcases Nat.lt_or_ge i l.length with h1 | h1
  ·exact h1
  ·rw[List.getElem?_eq_none h1] at h;cases h
 have e:l[i]=p:=by rw[List.getElem?_eq_getElem hlt] at h;exact Option.some.inj h
 unfold ldI
 rw[List.take_succ_eq_append_getElem hlt,e,fstP_snoc,List.foldl_append,List.nil_append]
 split <;> rfl
theorem addL_lenN (s:ByteArray):∀O:Ld,(Zu O s).length≤O.length + 1
 | []=>by simp[Zu]
 | x :: r=>by
  have:=addL_lenN s r
  rw[Zu];split
  ·simp only[List.length_cons];omega
  ·split <;> simp
theorem ldI_len (O:Ld) (l:List Pr):∀i,(ldI O l i).length≤O.length + i
 | 0=>by rw[ldI_zero];omega
 | i + 1=>by
  have ih:=ldI_len O l i
  rcases Nat.lt_or_ge i l.length with h1 | h1
  ·rw[ldI_next O l i l[i] (List.getElem?_eq_getElem h1)]
   split
   ·omega
   ·have:=addL_lenN l[i].2 (ldI O l i);omega
  ·have:ldI O l (i + 1)=ldI O l i:=by unfold ldI;rw[List.take_of_length_le (by omega),List.take_of_length_le h1]
   rw[this];omega
theorem addL_bd (s:ByteArray) (B:Int) (hB:0≤B):∀O:Ld,(∀p ∈ O,0≤p.2∧p.2≤B)→∀p ∈ Zu O s,0≤p.2∧p.2≤B + 1
 | [],_=>fun p hp=>by
  rw[Zu,List.mem_singleton] at hp
  subst hp;simp only;omega
 | x :: r,h=>fun p hp=>by
  have hx:=h x (by simp)
  have hr:∀q ∈ r,0≤q.2∧q.2≤B:=fun q hq=>h q (by simp[hq])
  rw[Zu] at hp
  split at hp
  ·rcases List.mem_cons.1 hp with rfl | hp
   ·omega
   ·exact addL_bd s B hB r hr p hp
  ·split at hp
   ·rcases List.mem_cons.1 hp with rfl | hp
    ·simp only;omega
    ·have:=hr p hp;omega
   ·rcases List.mem_cons.1 hp with rfl | hp
    ·simp only;omega
    ·have:=h p hp;omega
theorem ldI_bd (O:Ld) (l:List Pr) (B:Int) (hB:0≤B) (h:∀p ∈ O,0≤p.2∧p.2≤B):∀i:Nat,∀p ∈ ldI O l i,0≤p.2∧p.2≤B + i
 | 0=>fun p hp=>by rw[ldI_zero] at hp;have:=h p hp;omega
 | i + 1=>fun p hp=>by
  have ih:=ldI_bd O l B hB h i
  rcases Nat.lt_or_ge i l.length with h1 | h1
  ·rw[ldI_next O l i l[i] (List.getElem?_eq_getElem h1)] at hp
   split at hp
   ·have:=ih p hp;omega
   ·have:=addL_bd l[i].2 (B + i) (by omega) _ ih p hp;omega
  ·have e:ldI O l (i + 1)=ldI O l i:=by unfold ldI;rw[List.take_of_length_le (by omega),List.take_of_length_le h1]
   rw[e] at hp
   have:=ih p hp;omega
end Du
namespace Go.AM
open Go.Proofs Cw Du Go.RowKit
set_option maxRecDepth 10000
set_option maxHeartbeats 4000000
theorem insS_at (L:List Pr) (p:Pr) (i:Nat) (hi:i≤L.length) (h1:∀j x,j < i→L[j]? = some x→leB x.2 p.2=true) (h2:∀x,L[i]? = some x→leB x.2 p.2=false):Du.insS L p=L.take i ++ p :: L.drop i:=by
 induction L generalizing i with
 | nil=>simp[Du.insS] at hi ⊢
 | cons y r ih=>
  cases i with
  | zero=>
   have:=h2 y rfl
   simp[Du.insS,this]
  | succ i=>
   have h3:=h1 0 y (by omega) rfl
   rw[Du.insS,if_pos h3,ih i (by simp at hi;omega) (fun j x hj e=>h1 (j + 1) x (by omega) e) (fun x e=>h2 x e)]
   simp
def someD (S:List Pr) (i:Nat):List Pr:=((S.take i).filter fun p=>decide (2≤Zv S p.2)).foldl Du.insS []
theorem someD_next (S:List Pr) (i:Nat) (p:Pr) (h:S[i]? = some p):someD S (i + 1)=if 2≤Zv S p.2 then Du.insS (someD S i) p else someD S i:=by
 have hlt:i < S.length:=by
  rcases Nat.lt_or_ge i S.length with h1 | h1
  ·exact h1
  ·rw[List.getElem?_eq_none h1] at h;cases h
 have e:S[i]=p:=by rw[List.getElem?_eq_getElem hlt] at h;exact Option.some.inj h
 unfold someD
 rw[List.take_succ_eq_append_getElem hlt,e,List.filter_append,List.foldl_append]
 by_cases hq:2≤Zv S p.2
 ·simp[hq]
 ·simp[hq]
theorem someD_all (S:List Pr):someD S S.length=jc S:=by unfold someD jc Jz;rw[List.take_length]
theorem someD_len (S:List Pr) (i:Nat):(someD S i).length≤S.length:=by
 unfold someD
 rw[QI]
 have:=List.length_filter_le (fun p=>decide (2≤Zv S p.2)) (S.take i)
 rw[List.length_take] at this
 simp;omega
theorem ac_headS {P:Program} {fl:Nat} {code:Code} {Q:Exit→St→Prop} {st:St} (T:zH→St) (C:zH→Prop) (h1:(∀H2,C H2→zi P fl code Q (T H2))→zi P fl code Q st) (h2:∀H2,C H2→zi P fl code Q (T H2)):zi P fl code Q st:=h1 h2
theorem rDoubles_spec (nlL fuL:Bool) (sL:Nat) (ls:List Lin) (hnlL:ls=[]∨nlL=false∧sL=8) (hsL:smL ls) (hlL:ls.length≤1000000) (nl fu:Bool) (s:Nat) (l:List Ordr) (hnl:l=[]∨nl=false∧s=7) (hw:wfO l) (hs:smO l) (hl:l.length≤1000000) (lo hi:Int) :
  zJ Tryz.prog 28 [.agg [.fslc nlL fuL sL (ls.map zg),.fslc nl fu s (l.map ZH)],.agg [iv .i64 lo,iv .i64 hi]] (.agg [dyF (qW ls l lo hi).1,iv .i64 (qW ls l lo hi).2]):=by
 intro h n
 have k1:=J9 nlL fuL sL ls hnlL hsL hlL nl fu s l hnl hw hs hl lo hi
 refine zQ.pure (zQ.entry (by kernel_rfl) fun hb _=>zV Tryz.func28 rfl (by kernel_rfl) (by simp[Tryz.ntmps28]) ?_)
 by_cases hc:Zc ls l lo hi=0
 ·rw[hc] at k1
  obtain⟨hc0,hlo,hlh,hhi⟩:=jD hc
  have hz:=j4 hc0 hsL
  have kd:=fun d h0 h4=>day_spec nlL fuL sL ls hnlL (by omega) hz.1 nl fu s (l.map ZH) d h0 h4
  have ke:=fun d=>dayR_eq ls (fun x hx=>(hz.1 x hx).2.2) d
  have ho:qW ls l lo hi=(dblL ls lo (hi + 1 - lo).toNat,0):=by unfold qW;rw[if_neg (by simpa using hc)]
  replace ho:zB _:=ho
  replace hz:zB _:=hz
  replace kd:zB _:=kd
  replace ke:zB _:=ke
  generalize hLL:List.map zg ls=LL at *
  generalize List.map ZH l=OO at *
  replace hLL:zB _:=hLL
  clear hc hc0 hsL hs hw hnl hnlL
  repeat' (first|(refine zD fun K hK=>?_)|(refine zA fun K hK=>?_;simp (disch:=omega) [go_sem, *,zG,Tryz.ntmps28])|(apply zB.out hK;clear hK K;try with_reducible dsimp only[zC])|(apply zB.out hf;clear ht hf Kt Kf)|(with_reducible refine zJ.gcall (k1) ?_;try simp (disch:=omega) [go_sem, *])|(refine zI ?_)|(refine zK ?_;simp only[zC])|(refine zF fun Kt Kf ht hf=>?_;simp (disch:=omega) [go_sem, *];try (refine⟨fun hc=>?_,fun hc=>?_⟩ <;> try (exfalso;omega))))
  obtain⟨H3,hH3⟩:∃H3,zB (H3=((h.upd n (some (.cells [.fslc nlL fuL sL LL,.fslc nl fu s OO]))).upd (n + 1) (some (.cells [iv .i64 lo,iv .i64 hi]))).upd (n + 2) (some (.cells [.fslc true true 0 [],iv .i64 0]))):=⟨_,rfl⟩
  have hb0:H3 n=some (.cells [.fslc nlL fuL sL LL,.fslc nl fu s OO]):=by rw[hH3.out];simp (disch:=omega) only[zG,zL]
  have hb1:H3 (n + 1)=some (.cells [iv .i64 lo,iv .i64 hi]):=by rw[hH3.out];simp (disch:=omega) only[zG,zL]
  have hb2:H3 (n + 2)=some (.cells [.fslc true true 0 [],iv .i64 0]):=by rw[hH3.out];simp (disch:=omega) only[zL]
  have hfr:zB (∀x,x < n→H3 x=h x):=fun x hx=>by rw[hH3.out];simp (disch:=omega) only[zG]
  have hno:zB (∀x,n + 3≤x→H3 x=none):=fun x hx=>by rw[hH3.out];simp (disch:=omega) only[zG];exact hb.none (by omega)
  simp only[←hH3.out]
  replace hH3:zB _:=trivial
  clear k1
  have hl60:=hz.out.2.1
  refine zW (fun s'=>∃(d:Int) (n' q:Nat) (V:List Dy) (H:zH),n + 10≤n'∧lo≤d∧d≤hi + 1∧n + 3≤q∧q < n'∧V=dblL ls lo (d - lo).toNat∧(∀x,x < n + 3→H x=H3 x)∧H q=acO (V.map dyA)∧s'=⟨83,[(2,.ptr n 0),(3,.ptr (n + 1) 0),(4,.ptr (n + 2) 0),(6,acV 3 q (V.map dyA)),(7,iv .i64 d)],H,n'⟩)
   (fun s'=>(hi + 1 - zY s' 7).toNat) ?_ ?_
  ·exact zX (by simp[go_sem,jk]) (Sub.refl _) ⟨lo,_,n + 3,[],H3,by omega,by omega,by omega,by omega,by omega,by rw[Int.sub_self];rfl,fun _ _=>rfl,hno.out _ (by omega),rfl⟩
  ·rintro s' ⟨d,n',q,V,H,r1,r2,r3,r4,r5,r6,r7,r8,rfl⟩
   have f0:H n=some (.cells [.fslc nlL fuL sL LL,.fslc nl fu s OO]):=(r7 _ (by omega)).trans hb0
   have f1:H (n + 1)=some (.cells [iv .i64 lo,iv .i64 hi]):=(r7 _ (by omega)).trans hb1
   replace r7:zB _:=r7
   replace r8:zB _:=r8
   by_cases hdh:d≤hi
   ·have k2:=kd.out d (by omega) (by omega)
    rw[ke.out d] at k2
    change zJ _ _ _ (Ze d (duR ls d)) at k2
    have hSl:=qA ls d
    have hV':dblL ls lo (d + 1 - lo).toNat=V ++ (jc (duR ls d)).map fun p=>(d,p):=by rw[r6];unfold dblL;rw[dys_to lo d r2,List.flatMap_append];simp[dblY]
    have hVl:V.length≤100000:=by
     rw[r6]
     have h1:=dblL_len ls (d - lo).toNat lo
     have:(d - lo).toNat * ls.length≤401 * 60:=Nat.mul_le_mul (by omega) hl60
     omega
    generalize duR ls d=S at *
    obtain⟨nl2,s2,e2,e3⟩:=dutF_is d S
    rw[e2] at k2
    replace e2:zB _:=trivial
    replace e3:zB _:=e3
    replace hV':zB _:=hV'
    replace r6:zB _:=trivial
    repeat' (first|(refine zD fun K hK=>?_)|(refine zA fun K hK=>?_;simp (disch:=omega) [go_sem, *])|(apply zB.out hK;clear hK K;try with_reducible dsimp only[zC])|(apply zB.out ht;clear ht hf Kt Kf)|(with_reducible refine zJ.gcall (k2) ?_;try simp (disch:=omega) [go_sem, *])|(refine zI ?_)|(refine zK ?_;simp only[zC])|(refine zF fun Kt Kf ht hf=>?_;simp (disch:=omega) [go_sem, *];try (refine⟨fun hc=>?_,fun hc=>?_⟩ <;> try (exfalso;omega))))
    refine zW (fun s'=>∃(i n4 q2:Nat) (W:List Pr) (H':zH) (v:AV),n'≤n4∧i≤S.length∧n'≤q2∧q2≤n4∧W=someD S i∧(∀x,x < n'→H' x=H x)∧(v=Ze d W∨W≠[]∧v=.slc q2 0 W.length 3∧H' q2=some (.cells (flat (W.map (dutyA d)))))∧
      s'=⟨83,[(2,.ptr n 0),(3,.ptr (n + 1) 0),(4,.ptr (n + 2) 0),(6,acV 3 q (V.map dyA)),(7,iv .i64 d),(8,.fslc nl2 nl2 s2 (List.map (dutyA d) S)),(9,v),(10,iv .i64 i)],H',n4⟩)
     (fun s'=>S.length - (zY s' 10).toNat) ?_ ?_
    ·exact zX (by simp[go_sem,Ze]) (Sub.refl _) ⟨0,_,n',[],H,_,by omega,by omega,by omega,by omega,rfl,fun _ _=>rfl,.inl rfl,rfl⟩
    ·rintro s' ⟨i,n4,q2,W,H',v,p1,p2,p2a,p2b,pW,pf,pm,rfl⟩
     refine ac_headS (fun H2=>⟨83,[(2,.ptr n 0),(3,.ptr (n + 1) 0),(4,.ptr (n + 2) 0),(6,acV 3 q (V.map dyA)),(7,iv .i64 d),(8,.fslc nl2 nl2 s2 (List.map (dutyA d) S)),(9,Ze d W),(10,iv .i64 i)],H2,n4⟩) (fun H2=>∀x,x < n'→H2 x=H x) (fun body=>?_) ?_
     ·rcases pm with rfl | ⟨hW,rfl,pm⟩
      ·exact body H' pf
      ·skip
       refine qe (t:=9) (m:=q2) (len:=W.length) (s:=3) true (by simp) pm (by simp[go_sem]) (by rw[qf];omega) ?_
       have hel:Zp true 3 W.length (flat (W.map (dutyA d)))=W.map (dutyA d):=by
        have:=Q6 d [] W
        rwa [List.append_nil] at this
       rw[hel]
       exact ac_wk (Wk.of (by simp[go_sem,J1 d hW]) (Sub.refl _)) (body _ fun x hx=>by rw[zG _ _ _ _ (by omega)];exact pf x hx)
     clear pf pm
     intro H' pf
     replace pf:zB _:=pf
     have f2:H' n=some (.cells [.fslc nlL fuL sL LL,.fslc nl fu s OO]):=(pf.out _ (by omega)).trans f0
     have f3:H' (n + 1)=some (.cells [iv .i64 lo,iv .i64 hi]):=(pf.out _ (by omega)).trans f1
     by_cases hlt:i < S.length
     ·obtain⟨p,hp⟩:∃p,S[i]=p:=⟨_,rfl⟩
      have hps:S[i]? = some p:=by rw[List.getElem?_eq_getElem hlt,hp]
      have hne:S≠[]:=fun e=>by rw[e] at hlt;simp at hlt
      obtain⟨rfl,rfl⟩:=e3.out.resolve_left hne
      have hnx:=someD_next S i p hps
      have hWl:=someD_len S i
      have k3:=of_spec d false false 3 S p.2 (.inr ⟨rfl,rfl⟩) (by omega)
      have hcl:Zv S p.2≤S.length:=List.length_filter_le _ _
      have hex:dutyA d S[i]=.agg [iv .i64 d,sv p.1,sv p.2]:=by rw[hp];rfl
      rw[←pW] at hnx hWl
      replace pW:zB _:=trivial
      replace hp:zB _:=hp
      replace hps:zB _:=trivial
      clear hne
      by_cases hq:2≤Zv S p.2
      ·rw[if_pos hq] at hnx
       replace hnx:zB _:=hnx
       generalize Zv S p.2=c at *
       have hgt:(decide (1 < (c:Int)))=true:=by simp;omega
       repeat' (first|(refine zD fun K hK=>?_)|(refine zA fun K hK=>?_;simp (disch:=omega) [go_sem, *,zN,zO])|(apply zB.out hK;clear hK K;try with_reducible dsimp only[zC])|(apply zB.out ht;clear ht hf Kt Kf)|(with_reducible refine zJ.gcall (k3) ?_;try simp (disch:=omega) [go_sem, *,zN])|(refine zI ?_)|(refine zK ?_;simp only[zC])|(refine zF fun Kt Kf ht hf=>?_;simp (disch:=omega) [go_sem, *];try (refine⟨fun hc=>?_,fun hc=>?_⟩ <;> try (exfalso;omega))))
       replace k3:zB _:=trivial
       replace hgt:zB _:=trivial
       by_cases hW:W=[]
       ·subst hW
        have hap1:=fun nm (h0:zH) (a b c:Bool) (s:Nat)=>apD_0 nm h0 a b c s 0 (.inl rfl)
        have hap2:∀(nm:Nat) (h0:zH) (a b c:Bool) (s:Nat),zm Tryz.prog nm 28 (.fslc a true s []) (.fslc b c 3 [.agg [iv .i64 d,sv p.1,sv p.2]]) h0=some (.slc nm 0 1 3,h0.upd nm (some (.cells [iv .i64 d,sv p.1,sv p.2]))):=fun nm (h0:zH) (a b c:Bool) (s:Nat)=>apD_F nm h0 a b c s [.agg [iv .i64 d,sv p.1,sv p.2]] (by simp) (by simp)
        have hap3:=fun nm m (h0:zH) (b c:Bool)=>apD_S0 nm m h0 b c 0 (.inl rfl) [iv .i64 d,sv p.1,sv p.2] 1 rfl
        replace hap1:zB _:=hap1
        replace hap2:zB _:=hap2
        replace hap3:zB _:=hap3
        rw[show Ze d []=.fslc true true 0 [] from rfl]
        refine z6 1 ?_
        unfold zu
        repeat' (first|(refine zD fun K hK=>?_))
        refine zk mixed (by kernel_rfl) fun K hK=>?_
        simp (disch:=omega) [go_sem, *]
        repeat' (first|(refine Zw (by simp[go_sem]) (by simp (disch:=omega) [go_sem, *];first | exact rfl | exact⟨rfl,rfl,rfl⟩) ?_;try simp only[zq])|(refine ZE ?_)|(apply zB.out hK;clear hK K;try with_reducible dsimp only[zC])|(apply zB.out hf;clear ht hf Kt Kf)|(clear hK K;apply zB.out hK;clear hK K;try with_reducible dsimp only[zC])|(refine zT ?_;simp only[zC,zP,if_true,if_false,Nat.reduceEqDiff])|(refine zF fun Kt Kf ht hf=>?_;simp (disch:=omega) [go_sem, *];try (refine⟨fun hc=>?_,fun hc=>?_⟩ <;> try (exfalso;omega))))
        refine Z0 [8] [68,70] mixed (by kernel_rfl) (fun x hx=>by simp at hx;subst hx;exact .inr ⟨false,false,3,List.map (dutyA d) S,by simp[go_sem]⟩) fun K hK=>?_
        simp (disch:=omega) [go_sem,hex,hap1.out,hap2.out,hap3.out,zO]
        repeat' (first|(refine zA fun K hK=>?_;simp (disch:=omega) [go_sem, *,zM])|(apply zB.out hK;clear hK K;try with_reducible dsimp only[zC]))
        refine zS (by simp (disch:=omega) [go_sem] <;> omega) (Sub.refl _) ⟨i + 1,_,n4 + 4 + 8 + 1 + 17 + 10,[p],_,_,by omega,by omega,by omega,by omega,hnx.out.symm,fun x hx=>?_,.inr ⟨by simp,rfl,?_⟩,rfl⟩ (by simp[zY,go_sem];omega)
        ·simp (disch:=omega) only[zG];exact pf.out x hx
        ·rw[zL];simp[ZK,Jj,dutyA,cellsOf]
       ·have eW:Ze d W=.fslc false false 3 (W.map (dutyA d)):=J1 d hW
        have hW1:1≤W.length:=List.length_pos_iff.2 hW
        rw[eW]
        replace eW:zB _:=trivial
        clear hW
        refine zW (fun s'=>∃(a n5:Nat),n4≤n5∧a≤W.length∧(∀(j:Nat) (x:Pr),j < a→W[j]? = some x→leB x.2 p.2=true)∧
          s'=⟨83,[(2,.ptr n 0),(3,.ptr (n + 1) 0),(4,.ptr (n + 2) 0),(6,acV 3 q (V.map dyA)),(7,iv .i64 d),(8,.fslc false false 3 (List.map (dutyA d) S)),(9,.fslc false false 3 (W.map (dutyA d))),(10,iv .i64 i),(11,iv .i64 a)],H',n5⟩)
         (fun s'=>W.length - (zY s' 11).toNat) ?_ ?_
        ·exact zX (by simp[go_sem]) (Sub.refl _) ⟨0,_,by omega,by omega,fun j x hj=>by omega,rfl⟩
        ·rintro s' ⟨a,n5,u1,u2,u3,rfl⟩
         replace u3:zB _:=u3
         by_cases hla:a < W.length
         ·obtain⟨y,hy⟩:∃y,W[a]=y:=⟨_,rfl⟩
          have hey:dutyA d W[a]=.agg [iv .i64 d,sv y.1,sv y.2]:=by rw[hy];rfl
          have hys:W[a]? = some y:=by rw[List.getElem?_eq_getElem hla,hy]
          replace hys:zB _:=hys
          replace hy:zB _:=hy
          have hst:leB y.2 p.2=true→zB (∀(j:Nat) (x:Pr),j < a + 1→W[j]? = some x→leB x.2 p.2=true):=fun hle j x hj e=>by
           by_cases hja:j=a
           ·subst hja
            rw[hys.out] at e
            rw[←Option.some.inj e];exact hle
           ·exact u3.out j x (by omega) e
          cases hb1:Op.bytesLess y.2.toList p.2.toList with
          | true=>
           have hst:=hst (Qy hb1)
           repeat' (first|(refine zD fun K hK=>?_))
           refine zk mixed (by kernel_rfl) fun K hK=>?_
           simp (disch:=omega) [go_sem, *]
           repeat' (first|(refine zA fun K hK=>?_;simp (disch:=omega) [go_sem, *,zM])|(refine Zw (by simp[go_sem]) (by simp (disch:=omega) [go_sem, *,zN,zO];first | exact rfl | exact⟨rfl,rfl,rfl⟩) ?_;try simp only[zq])|(refine ZE ?_)|(apply zB.out hK;clear hK K;try with_reducible dsimp only[zC])|(apply zB.out ht;clear ht hf Kt Kf)|(refine zI ?_)|(refine zK ?_;simp only[zC])|(refine zF fun Kt Kf ht hf=>?_;simp (disch:=omega) [go_sem, *];try (refine⟨fun hc=>?_,fun hc=>?_⟩ <;> try (exfalso;omega))))
           exact zS (by simp (disch:=omega) [go_sem]) (Sub.refl _) ⟨a + 1,_,by omega,by omega,hst.out,rfl⟩ (by simp[zY,go_sem];omega)
          | false=>
           by_cases hb2:y.2.toList=p.2.toList
           ·have hst:=hst (by rw[show y.2=p.2 from (zl _ _).1 (by unfold eqB;simpa using hb2)];rcases leB_or p.2 p.2 with h1 | h1;exact h1;exact Qy h1)
            repeat' (first|(refine zD fun K hK=>?_))
            refine zk mixed (by kernel_rfl) fun K hK=>?_
            simp (disch:=omega) [go_sem, *]
            repeat' (first|(refine zA fun K hK=>?_;simp (disch:=omega) [go_sem, *,zM])|(refine Zw (by simp[go_sem]) (by simp (disch:=omega) [go_sem, *,zN,zO];first | exact rfl | exact⟨rfl,rfl,rfl⟩) ?_;try simp only[zq])|(refine ZE ?_)|(apply zB.out hK;clear hK K;try with_reducible dsimp only[zC])|(apply zB.out ht;clear ht hf Kt Kf)|(refine zI ?_)|(refine zK ?_;simp only[zC])|(refine zF fun Kt Kf ht hf=>?_;simp (disch:=omega) [go_sem, *];try (refine⟨fun hc=>?_,fun hc=>?_⟩ <;> try (exfalso;omega))))
            exact zS (by simp (disch:=omega) [go_sem]) (Sub.refl _) ⟨a + 1,_,by omega,by omega,hst.out,rfl⟩ (by simp[zY,go_sem];omega)
           ·have hle:leB y.2 p.2=false:=by
             cases e:leB y.2 p.2 with
             | false=>rfl
             | true=>
              have h2:leB p.2 y.2=true:=by unfold leB;rw[show bl y.2 p.2=false from hb1];rfl
              exact absurd (by rw[leB_anti e h2]) hb2
            have hin:Du.insS W p=W.take a ++ p :: W.drop a:=insS_at W p a u2 u3.out fun x e=>by rw[hys.out] at e;rw[←Option.some.inj e];exact hle
            replace hst:zB _:=trivial
            replace hin:zB _:=hin
            repeat' (first|(refine zD fun K hK=>?_))
            refine zk mixed (by kernel_rfl) fun K hK=>?_
            simp (disch:=omega) [go_sem, *]
            repeat' (first|(refine Zw (by simp[go_sem]) (by simp (disch:=omega) [go_sem, *,zN,zO];first | exact rfl | exact⟨rfl,rfl,rfl⟩) ?_;try simp only[zq])|(refine ZE ?_)|(apply zB.out hK;clear hK K;try with_reducible dsimp only[zC])|(apply zB.out hf;clear ht hf Kt Kf)|(clear hK K;apply zB.out hK;clear hK K;try with_reducible dsimp only[zC])|(refine zT ?_;simp only[zC,zP,if_true,if_false,Nat.reduceEqDiff])|(refine zF fun Kt Kf ht hf=>?_;simp (disch:=omega) [go_sem, *];try (refine⟨fun hc=>?_,fun hc=>?_⟩ <;> try (exfalso;omega))))
            have hnx:=hnx.out
            rw[hin.out] at hnx
            have hlen:(List.take a (List.map (dutyA d) W)).length=a:=by rw[List.length_take,List.length_map];omega
            have hld:(List.drop a (List.map (dutyA d) W)).length=W.length - a:=by rw[List.length_drop,List.length_map]
            have htk:List.take W.length (List.map (dutyA d) W)=List.map (dutyA d) W:=List.take_of_length_le (by simp)
            by_cases ha0:a=0
            ·subst ha0
             rw[List.take_zero,List.drop_zero,List.nil_append] at hnx
             replace hnx:zB _:=hnx
             have hap1:=fun nm (h0:zH) (a b c:Bool) (s:Nat)=>apD_0 nm h0 a b c s 3 (.inr rfl)
             have hap2:∀(nm:Nat) (h0:zH) (a b c:Bool) (s:Nat),zm Tryz.prog nm 28 (.fslc a true s []) (.fslc b c 3 [.agg [iv .i64 d,sv p.1,sv p.2]]) h0=some (.slc nm 0 1 3,h0.upd nm (some (.cells [iv .i64 d,sv p.1,sv p.2]))):=fun nm (h0:zH) (a b c:Bool) (s:Nat)=>apD_F nm h0 a b c s [.agg [iv .i64 d,sv p.1,sv p.2]] (by simp) (by simp)
             have hap3:=fun nm m (h0:zH) (b c:Bool)=>apD_S nm m h0 b c [iv .i64 d,sv p.1,sv p.2] (W.map (dutyA d)) 1 rfl (by rw[List.length_map];omega) (by rw[List.length_map];omega)
             rw[List.length_map] at hap3
             replace hap1:zB _:=hap1
             replace hap2:zB _:=hap2
             replace hap3:zB _:=hap3
             clear hlen hld
             refine Z0 [8] [68,70] mixed (by kernel_rfl) (fun x hx=>by simp at hx;subst hx;exact .inr ⟨false,false,3,List.map (dutyA d) S,by simp[go_sem]⟩) fun K hK=>?_
             simp (disch:=omega) [go_sem,hex,htk,hap1.out,hap2.out,hap3.out,zO]
             repeat' (first|(refine zA fun K hK=>?_;simp (disch:=omega) [go_sem, *,zM])|(apply zB.out hK;clear hK K;try with_reducible dsimp only[zC]))
             refine zS (by simp (disch:=omega) [go_sem] <;> omega) (Sub.refl _) ⟨i + 1,_,n5 + 17 + 14,p :: W,_,_,by omega,by omega,by omega,by omega,hnx.out.symm,fun x hx=>?_,.inr ⟨by simp,rfl,?_⟩,rfl⟩ (by simp[zY,go_sem];omega)
             ·simp (disch:=omega) only[zG];exact pf.out x hx
             ·rw[zL];simp[ZK,dutyA,cellsOf]
            ·skip
             replace hnx:zB _:=hnx
             have hap1:=fun nm (h0:zH) (b1 b2 b3:Bool) (s:Nat)=>apD_F nm h0 b1 b2 b3 s (List.take a (W.map (dutyA d))) (by omega) (by omega)
             have hap2:∀(nm m:Nat) (h0:zH) (b c:Bool),zm Tryz.prog nm 28 (.slc m 0 a 3) (.fslc b c 3 [.agg [iv .i64 d,sv p.1,sv p.2]]) (h0.upd m (some (.cells (flat (List.take a (W.map (dutyA d)))))))=some (.slc nm 0 (a + 1) 3,((h0.upd m (some (.cells (flat (List.take a (W.map (dutyA d))))))).upd m none).upd nm (some (.cells (flat (List.take a (W.map (dutyA d))) ++ [iv .i64 d,sv p.1,sv p.2])))):=fun nm m (h0:zH) (b c:Bool)=>apD_S nm m h0 b c (flat (List.take a (W.map (dutyA d)))) [.agg [iv .i64 d,sv p.1,sv p.2]] a (by rw[←List.map_take,jh,List.length_take];omega) (by simp) (by simp;omega)
             have hap3:=fun nm m (h0:zH) (b c:Bool)=>apD_S nm m h0 b c (flat (List.take a (W.map (dutyA d))) ++ [iv .i64 d,sv p.1,sv p.2]) (List.drop a (W.map (dutyA d))) (a + 1) (by rw[List.length_append,←List.map_take,jh,List.length_take];simp;omega) (by omega) (by omega)
             rw[hlen] at hap1
             rw[hld] at hap3
             replace hap1:zB _:=hap1
             replace hap2:zB _:=hap2
             replace hap3:zB _:=hap3
             clear hlen hld
             refine Z0 [8] [68,70] mixed (by kernel_rfl) (fun x hx=>by simp at hx;subst hx;exact .inr ⟨false,false,3,List.map (dutyA d) S,by simp[go_sem]⟩) fun K hK=>?_
             simp (disch:=omega) [go_sem,hex,htk,hap1.out,hap2.out,hap3.out,zO]
             repeat' (first|(refine zA fun K hK=>?_;simp (disch:=omega) [go_sem, *,zM])|(apply zB.out hK;clear hK K;try with_reducible dsimp only[zC]))
             refine zS (by simp (disch:=omega) [go_sem] <;> omega) (Sub.refl _) ⟨i + 1,_,n5 + 17 + 14,W.take a ++ p :: W.drop a,_,_,by omega,by omega,by omega,by omega,hnx.out.symm,fun x hx=>?_,.inr ⟨by simp,rfl,?_⟩,rfl⟩ (by simp[zY,go_sem];omega)
             ·simp (disch:=omega) only[zG];exact pf.out x hx
             ·rw[zL];simp[Z4,ZK,List.map_take,List.map_drop,dutyA,cellsOf]
         ·have haa:a=W.length:=by omega
          subst haa
          have hin:Du.insS W p=W.take W.length ++ p :: W.drop W.length:=insS_at W p W.length (Nat.le_refl _) u3.out fun x e=>by rw[List.getElem?_eq_none (Nat.le_refl _)] at e;cases e
          have hnx:=hnx.out
          rw[hin,List.take_length,List.drop_length] at hnx
          replace hnx:zB _:=hnx
          clear hin
          have hlen:(List.take W.length (List.map (dutyA d) W)).length=W.length:=by rw[List.length_take,List.length_map];omega
          have htk:List.take W.length (List.map (dutyA d) W)=List.map (dutyA d) W:=List.take_of_length_le (by simp)
          have hdk:List.drop W.length (List.map (dutyA d) W)=[]:=List.drop_eq_nil_of_le (by simp)
          have hap1:=fun nm (h0:zH) (a b c:Bool) (s:Nat)=>apD_F nm h0 a b c s (W.map (dutyA d)) (by rw[List.length_map];omega) (by rw[List.length_map];omega)
          have hap2:∀(nm m:Nat) (h0:zH) (b c:Bool),zm Tryz.prog nm 28 (.slc m 0 W.length 3) (.fslc b c 3 [.agg [iv .i64 d,sv p.1,sv p.2]]) (h0.upd m (some (.cells (flat (W.map (dutyA d))))))=some (.slc nm 0 (W.length + 1) 3,((h0.upd m (some (.cells (flat (W.map (dutyA d)))))).upd m none).upd nm (some (.cells (flat (W.map (dutyA d)) ++ [iv .i64 d,sv p.1,sv p.2])))):=fun nm m (h0:zH) (b c:Bool)=>apD_S nm m h0 b c (flat (W.map (dutyA d))) [.agg [iv .i64 d,sv p.1,sv p.2]] W.length (by rw[jh]) (by simp) (by simp;omega)
          have hap3:=fun nm m (h0:zH) (b c:Bool)=>apD_S0 nm m h0 b c 3 (.inr rfl) (flat (W.map (dutyA d)) ++ [iv .i64 d,sv p.1,sv p.2]) (W.length + 1) (by rw[List.length_append,jh];simp;omega)
          rw[List.length_map] at hap1
          replace hap1:zB _:=hap1
          replace hap2:zB _:=hap2
          replace hap3:zB _:=hap3
          clear hlen
          repeat' (first|(refine zD fun K hK=>?_))
          refine zk mixed (by kernel_rfl) fun K hK=>?_
          simp (disch:=omega) [go_sem, *]
          repeat' (first|(refine Zw (by simp[go_sem]) (by simp (disch:=omega) [go_sem, *];first | exact rfl | exact⟨rfl,rfl,rfl⟩) ?_;try simp only[zq])|(refine ZE ?_)|(apply zB.out hK;clear hK K;try with_reducible dsimp only[zC])|(apply zB.out hf;clear ht hf Kt Kf)|(clear hK K;apply zB.out hK;clear hK K;try with_reducible dsimp only[zC])|(refine zT ?_;simp only[zC,zP,if_true,if_false,Nat.reduceEqDiff])|(refine zF fun Kt Kf ht hf=>?_;simp (disch:=omega) [go_sem, *];try (refine⟨fun hc=>?_,fun hc=>?_⟩ <;> try (exfalso;omega))))
          refine Z0 [8] [68,70] mixed (by kernel_rfl) (fun x hx=>by simp at hx;subst hx;exact .inr ⟨false,false,3,List.map (dutyA d) S,by simp[go_sem]⟩) fun K hK=>?_
          simp (disch:=omega) [go_sem,hex,htk,hdk,hap1.out,hap2.out,hap3.out,zO]
          repeat' (first|(refine zA fun K hK=>?_;simp (disch:=omega) [go_sem, *,zM])|(apply zB.out hK;clear hK K;try with_reducible dsimp only[zC]))
          refine zS (by simp (disch:=omega) [go_sem] <;> omega) (Sub.refl _) ⟨i + 1,_,n5 + 17 + 10,W ++ [p],_,_,by omega,by omega,by omega,by omega,hnx.out.symm,fun x hx=>?_,.inr ⟨by simp,rfl,?_⟩,rfl⟩ (by simp[zY,go_sem];omega)
          ·simp (disch:=omega) only[zG];exact pf.out x hx
          ·rw[zL];simp[Z4,ZK,Jj,dutyA,cellsOf]
      ·rw[if_neg hq] at hnx
       replace hnx:zB _:=hnx
       generalize Zv S p.2=c at *
       have hgt:(decide (1 < (c:Int)))=false:=by simp;omega
       repeat' (first|(refine zD fun K hK=>?_)|(refine zA fun K hK=>?_;simp (disch:=omega) [go_sem, *,zM,zN,zO])|(apply zB.out hK;clear hK K;try with_reducible dsimp only[zC])|(apply zB.out ht;clear ht hf Kt Kf)|(apply zB.out hf;clear ht hf Kt Kf)|(with_reducible refine zJ.gcall (k3) ?_;try simp (disch:=omega) [go_sem, *,zU])|(refine zI ?_)|(refine zK ?_;simp only[zC,zP])|(refine zF fun Kt Kf ht hf=>?_;simp (disch:=omega) [go_sem, *];try (refine⟨fun hc=>?_,fun hc=>?_⟩ <;> try (exfalso;omega))))
       exact zS (by simp (disch:=omega) [go_sem]) (Sub.refl _) ⟨i + 1,_,n',W,H',_,by omega,by omega,by omega,by omega,hnx.out.symm,pf.out,.inl rfl,rfl⟩ (by simp[zY,go_sem];omega)
     ·have hii:i=S.length:=by omega
      subst hii
      rw[someD_all] at pW
      have hDl:(jc S).length≤S.length:=by rw[dblD_len];exact moreD_len S
      subst pW
      have pq:H' q=acO (V.map dyA):=(pf.out q (by omega)).trans r8.out
      by_cases hD:jc S=[]
      ·have hap:=fun nm=>ap_dy0 (nm:=nm) (V:=V) (b:=true) (c:=true) (.inl rfl) pq
       have hV':=hV'.out
       rw[hD,List.map_nil,List.append_nil] at hV'
       rw[hD,show Ze d []=.fslc true true 0 [] from rfl]
       replace hap:zB _:=hap
       replace hV':zB _:=hV'
       replace pq:zB _:=pq
       repeat' (first|(refine zD fun K hK=>?_)|(refine zA fun K hK=>?_;simp (disch:=omega) [go_sem, *])|(apply zB.out hK;clear hK K;try with_reducible dsimp only[zC])|(apply zB.out hf;clear ht hf Kt Kf)|(clear hK K;apply zB.out hK;clear hK K;try with_reducible dsimp only[zC])|(refine zT ?_;simp only[zC,zP,if_true,if_false,Nat.reduceEqDiff])|(refine zF fun Kt Kf ht hf=>?_;simp (disch:=omega) [go_sem, *];try (refine⟨fun hc=>?_,fun hc=>?_⟩ <;> try (exfalso;omega))))
       rw[hap.out]
       replace hap:zB _:=trivial
       simp (disch:=omega) [go_sem]
       repeat' (first|(refine zA fun K hK=>?_;simp (disch:=omega) [go_sem, *,zM])|(apply zB.out hK;clear hK K;try with_reducible dsimp only[zC]))
       exact zS (by simp (disch:=omega) [go_sem]) (Sub.refl _) ⟨d + 1,_,q,V,H',by omega,by omega,by omega,by omega,by omega,hV'.out.symm,fun x hx=>(pf.out x (by omega)).trans (r7.out x hx),pq.out,rfl⟩ (by simp[zY,go_sem];omega)
      ·have hap:=fun nm=>ap_dy (nm:=nm) (m:=q) (V:=V) (X:=(jc S).map fun p=>(d,p)) (h:=H') (b:=false) (c:=false) pq (by simpa using hD) (by simp;omega)
       rw[dblY_map ls d] at hap
       rw[J1 d hD]
       replace hap:zB _:=hap
       replace pq:zB _:=pq
       replace hD:zB _:=trivial
       repeat' (first|(refine zD fun K hK=>?_)|(refine zA fun K hK=>?_;simp (disch:=omega) [go_sem, *])|(apply zB.out hK;clear hK K;try with_reducible dsimp only[zC])|(apply zB.out hf;clear ht hf Kt Kf)|(clear hK K;apply zB.out hK;clear hK K;try with_reducible dsimp only[zC])|(refine zT ?_;simp only[zC,zP,if_true,if_false,Nat.reduceEqDiff])|(refine zF fun Kt Kf ht hf=>?_;simp (disch:=omega) [go_sem, *];try (refine⟨fun hc=>?_,fun hc=>?_⟩ <;> try (exfalso;omega))))
       rw[hap.out]
       replace hap:zB _:=trivial
       have s8:=zL (H'.upd q none) (n4 + 4 + 2) (acO ((V ++ (jc S).map fun p=>(d,p)).map dyA))
       have s10:∀x,x < n + 3→((H'.upd q none).upd (n4 + 4 + 2) (acO ((V ++ (jc S).map fun p=>(d,p)).map dyA))) x=H3 x:=fun x hx=>by rw[zG _ _ _ _ (by omega),zG _ _ _ _ (by omega)];exact (pf.out x (by omega)).trans (r7.out x hx)
       generalize (H'.upd q none).upd (n4 + 4 + 2) (acO ((V ++ (jc S).map fun p=>(d,p)).map dyA))=H7 at *
       generalize hVV:V ++ (jc S).map (fun p=>(d,p))=VV at *
       replace s8:zB _:=s8
       replace s10:zB _:=s10
       simp (disch:=omega) [go_sem]
       repeat' (first|(refine zA fun K hK=>?_;simp (disch:=omega) [go_sem, *,zM])|(apply zB.out hK;clear hK K;try with_reducible dsimp only[zC]))
       exact zS (by simp (disch:=omega) [go_sem]) (Sub.refl _) ⟨d + 1,_,n4 + 4 + 2,VV,H7,by omega,by omega,by omega,by omega,by omega,hV'.out.symm,s10.out,s8.out,rfl⟩ (by simp[zY,go_sem];omega)
   ·have hdd:d=hi + 1:=by omega
    subst hdd
    have ho4:=ho.out
    rw[←r6] at ho4
    replace ho4:zB _:=ho4
    replace r6:zB _:=trivial
    have f2:H (n + 2)=some (.cells [.fslc true true 0 [],iv .i64 0]):=(r7.out _ (by omega)).trans hb2
    by_cases hV0:V=[]
    ·subst hV0
     simp only[List.map_nil,jk]
     replace r8:zB _:=trivial
     repeat' (first|(refine zD fun K hK=>?_)|(refine zA fun K hK=>?_;simp (disch:=omega) [go_sem, *])|(apply zB.out hK;clear hK K;try with_reducible dsimp only[zC])|(apply zB.out hf;clear ht hf Kt Kf)|(clear hK K;apply zB.out hK;clear hK K;try with_reducible dsimp only[zC])|(refine zT ?_;simp only[zC,zP,if_true])|(refine zF fun Kt Kf ht hf=>?_;simp (disch:=omega) [go_sem, *];try (refine⟨fun hc=>?_,fun hc=>?_⟩ <;> try (exfalso;omega))))
     refine zf ?_
     try dsimp only[zC,zP]
     refine⟨by simp,_,(by first | rfl|(simp (disch:=omega) [go_sem] <;> rfl)),?_⟩
     rw[ho4.out]
     exact zZ ⟨fun k hk=>by rw[zG _ _ _ _ (by omega),r7.out k (by omega)];exact hfr.out k hk,by simp[go_sem,below,belowL,ZW],by rfl,by simp,by simp⟩
    ·have hV1:V.map dyA≠[]:=by simpa using hV0
     have ev:acV 3 q (V.map dyA)=.slc q 0 V.length 3:=by rw[ZQ hV1,List.length_map]
     have em:H q=some (.cells (flat (V.map dyA))):=by rw[r8.out,Zm hV1]
     rw[ev]
     replace ev:zB _:=ev
     replace em:zB _:=em
     replace hV0:zB _:=hV0
     clear hV1
     repeat' (first|(refine zD fun K hK=>?_)|(refine zA fun K hK=>?_;simp (disch:=omega) [go_sem, *])|(apply zB.out hK;clear hK K;try with_reducible dsimp only[zC])|(apply zB.out hf;clear ht hf Kt Kf)|(clear hK K;apply zB.out hK;clear hK K;try with_reducible dsimp only[zC])|(refine zT ?_;simp only[zC,zP,if_true])|(refine zF fun Kt Kf ht hf=>?_;simp (disch:=omega) [go_sem, *];try (refine⟨fun hc=>?_,fun hc=>?_⟩ <;> try (exfalso;omega))))
     refine zf ?_
     try dsimp only[zC,zP]
     refine⟨by simp,_,(by first | rfl|(simp (disch:=omega) [go_sem] <;> rfl)),?_⟩
     rw[ho4.out]
     show ZD _ _ (AV.agg [.slc q 0 V.length 3,iv .i64 0]) _ _
     refine ret_dyG (by rw[zG _ _ _ _ (by omega)];exact em.out) hV0.out ?_
     exact zZ ⟨fun k hk=>by rw[zG _ _ _ _ (by omega),zG _ _ _ _ (by omega),r7.out k (by omega)];exact hfr.out k hk,by simp[below,belowL,QN],rfl,by simp,by simp⟩
 ·have hne:(Zc ls l lo hi != 0)=true:=by simpa using hc
  have ho:qW ls l lo hi=([],Zc ls l lo hi):=by unfold qW;rw[if_pos hc]
  rw[ho,show dyF []=.fslc true true 0 [] from rfl]
  generalize Zc ls l lo hi=e at *
  generalize List.map zg ls=LL at *
  generalize List.map ZH l=OO at *
  clear ho hc hsL hs hw hnl hnlL
  repeat' (first|(refine zD fun K hK=>?_)|(refine zA fun K hK=>?_;simp (disch:=omega) [go_sem, *,zG,Tryz.ntmps28])|(apply zB.out hK;clear hK K;try with_reducible dsimp only[zC])|(apply zB.out ht;clear ht hf Kt Kf)|(with_reducible refine zJ.gcall (k1) ?_;try simp (disch:=omega) [go_sem, *])|(refine zF fun Kt Kf ht hf=>?_;simp (disch:=omega) [go_sem, *];try (refine⟨fun hc=>?_,fun hc=>?_⟩ <;> try (exfalso;omega))))
  (refine zf ?_;try dsimp only[zC,zP];refine⟨by simp,_,(by first | rfl|(simp (disch:=omega) [go_sem] <;> rfl)),?_⟩;refine zZ ⟨fun k hk=>(by first | rfl|(repeat rw[zG _ _ _ _ (by omega)])),(by simp[go_sem,below,belowL]),(by simp[go_sem] <;> omega),by simp,by simp⟩)
end Go.AM
namespace Go.AM
open Go.Proofs Cw Du Go.RowKit
set_option maxRecDepth 10000
set_option maxHeartbeats 4000000
theorem J0:∀O:Ld,(flat (O.map ldA)).length=O.length * 2:=fun O=>by
 have:=Zy (s:=2) (L:=O.map ldA) (fun y hy=>by obtain⟨o,_,rfl⟩:=List.mem_map.1 hy;exact ld_len o)
 rw[this,List.length_map]
theorem ld_mid (P R:Ld) (x:ByteArray × Int):flat ((P ++ x :: R).map ldA)=flat (P.map ldA) ++ (sv x.1 :: iv .i64 x.2 :: flat (R.map ldA)):=by
 simp[flat,ldA,cellsOf]
theorem ld_split (O:Ld) (i:Nat) (x:ByteArray × Int) (h:O[i]? = some x):O=O.take i ++ x :: O.drop (i + 1)∧(flat ((O.take i).map ldA)).length=i * 2:=by
 obtain⟨hlt,e⟩:=List.getElem?_eq_some_iff.1 h
 refine⟨?_,by rw[J0,List.length_take];congr 1;omega⟩
 conv=>lhs;rw[←List.take_append_drop i O]
 rw[List.drop_eq_getElem_cons hlt,e]
theorem ld_load0 (O:Ld) (i:Nat) (x:ByteArray × Int) (h:O[i]? = some x):(flat (O.map ldA))[i * 2]? = some (sv x.1):=by
 obtain⟨e,hl⟩:=ld_split O i x h
 rw[e,ld_mid,List.getElem?_append_right (by omega),hl,Nat.sub_self]
 rfl
theorem ld_load1 (O:Ld) (i:Nat) (x:ByteArray × Int) (h:O[i]? = some x):(flat (O.map ldA))[i * 2 + 1]? = some (iv .i64 x.2):=by
 obtain⟨e,hl⟩:=ld_split O i x h
 rw[e,ld_mid,List.getElem?_append_right (by omega),hl,show i * 2 + 1 - i * 2=1 by omega]
 rfl
theorem ld_set1 (O:Ld) (i:Nat) (x:ByteArray × Int) (v:Int) (h:O[i]? = some x):zr (flat (O.map ldA)) (i * 2 + 1) [iv .i64 v]=flat ((O.set i (x.1,v)).map ldA):=by
 obtain⟨hlt,e⟩:=List.getElem?_eq_some_iff.1 h
 obtain⟨e1,hl⟩:=ld_split O i x h
 have e2:O.set i (x.1,v)=O.take i ++ (x.1,v) :: O.drop (i + 1):=by
  rw[List.set_eq_take_append_cons_drop,if_pos hlt]
 rw[e2,ld_mid]
 generalize O.drop (i + 1)=R at *
 generalize O.take i=P at *
 subst e1
 rw[ld_mid]
 generalize flat (P.map ldA)=A at *
 generalize flat (R.map ldA)=B at *
 subst_vars
 unfold zr
 have h1:List.take (i * 2 + 1) (A ++ sv x.1 :: iv .i64 x.2 :: B)=A ++ [sv x.1]:=by
  rw[List.take_append,List.take_of_length_le (by omega),hl,show i * 2 + 1 - i * 2=1 by omega];rfl
 have h2:List.drop (i * 2 + 1 + [iv .i64 v].length) (A ++ sv x.1 :: iv .i64 x.2 :: B)=B:=by
  rw[List.drop_append,List.drop_eq_nil_of_le (by simp;omega),hl,show i * 2 + 1 + [iv .i64 v].length - i * 2=2 by simp;omega];rfl
 rw[h1,h2];simp
theorem apL_0 (nm:Nat) (h:zH) (nl nl' fu':Bool) (s s':Nat) (hs:s'=0∨s'=2):zm Tryz.prog nm 47 (.fslc nl true s []) (.fslc nl' fu' s' []) h=some (.fslc nl true s [],h):=by
 rcases hs with rfl | rfl <;> simp[zm,eltOf47,szOf58,byOf58,zerOf58,ZG,cellsOf,AV.scalar,flat]
theorem apL_F (nm:Nat) (h:zH) (nl nl' fu':Bool) (s:Nat) (xs:List AV) (hx:xs.length≠0) (hl:xs.length≤67108864) :
  zm Tryz.prog nm 47 (.fslc nl true s []) (.fslc nl' fu' 2 xs) h=some (.slc nm 0 xs.length 2,h.upd nm (some (.cells (flat xs)))):=by
 simp[zm,eltOf47,szOf58,byOf58,zerOf58,ZG,cellsOf,AV.scalar,hx,hl,flat]
theorem apL_S (nm m:Nat) (h:zH) (nl' fu':Bool) (c xs:List AV) (len:Nat) (hc:c.length=len * 2) (hx:xs.length≠0) (hl:len + xs.length≤67108864) :
  zm Tryz.prog nm 47 (.slc m 0 len 2) (.fslc nl' fu' 2 xs) (h.upd m (some (.cells c)))=some (.slc nm 0 (len + xs.length) 2,((h.upd m (some (.cells c))).upd m none).upd nm (some (.cells (c ++ flat xs)))):=by
 have h1:¬(len + xs.length) * 2≤len * 2:=by omega
 simp[zm,eltOf47,szOf58,byOf58,zerOf58,ZG,cellsOf,AV.scalar,h1,hl,zL,hc]
theorem apL_S0 (nm m:Nat) (h:zH) (nl' fu':Bool) (s':Nat) (hs:s'=0∨s'=2) (c:List AV) (len:Nat) (hc:c.length=len * 2) :
  zm Tryz.prog nm 47 (.slc m 0 len 2) (.fslc nl' fu' s' []) (h.upd m (some (.cells c)))=some (.slc m 0 len 2,(h.upd m (some (.cells c))).upd m (some (.cells c))):=by
 have e:zr c (len * 2) []=c:=by simp[zr,←hc]
 rcases hs with rfl | rfl <;> simp[zm,eltOf47,szOf58,byOf58,zerOf58,ZG,cellsOf,AV.scalar,flat,zL,hc,e]
theorem ret_ldG {fl:Nat} {K:AV→zH→Nat→Prop} {m:Nat} {V:Ld} {e:Int} {h:zH} {n:Nat} (hm:h m=some (.cells (flat (V.map ldA)))) (h0:V≠[]) (hk:ZD fl K (.agg [ldF V,iv .i64 e]) (h.upd m none) n):ZD fl K (.agg [.slc m 0 V.length 2,iv .i64 e]) h n:=by
 refine Qa true hm ?_
 have hfl:=J0 V
 have ef:fzD m (flat (V.map ldA)) true (.agg [.slc m 0 V.length 2,iv .i64 e])=.agg [.fslc false false 2 (V.map ldA),iv .i64 e]:=by
  simp only[fzD,fzDL,Nat.zero_add,List.drop_zero]
  rw[if_pos ⟨trivial,by omega,by simp⟩,elemsLd]
 rw[ef]
 simpa [ldF,h0] using hk
theorem rLoads_spec (nlL fuL:Bool) (sL:Nat) (ls:List Lin) (hnlL:ls=[]∨nlL=false∧sL=8) (hsL:smL ls) (hlL:ls.length≤1000000) (nl fu:Bool) (s:Nat) (l:List Ordr) (hnl:l=[]∨nl=false∧s=7) (hw:wfO l) (hs:smO l) (hl:l.length≤1000000) (lo hi:Int) :
  zJ Tryz.prog 29 [.agg [.fslc nlL fuL sL (ls.map zg),.fslc nl fu s (l.map ZH)],.agg [iv .i64 lo,iv .i64 hi]] (.agg [ldF (qV ls l lo hi).1,iv .i64 (qV ls l lo hi).2]):=by
 intro h n
 have k1:=J9 nlL fuL sL ls hnlL hsL hlL nl fu s l hnl hw hs hl lo hi
 refine zQ.pure (zQ.entry (by kernel_rfl) fun hb _=>zV Tryz.func29 rfl (by kernel_rfl) (by simp[Tryz.ntmps29]) ?_)
 by_cases hc:Zc ls l lo hi=0
 ·rw[hc] at k1
  obtain⟨hc0,hlo,hlh,hhi⟩:=jD hc
  have hz:=j4 hc0 hsL
  have kd:=fun d h0 h4=>day_spec nlL fuL sL ls hnlL (by omega) hz.1 nl fu s (l.map ZH) d h0 h4
  have ke:=fun d=>dayR_eq ls (fun x hx=>(hz.1 x hx).2.2) d
  have ho:qV ls l lo hi=(ldS ls lo (hi + 1 - lo).toNat,0):=by unfold qV;rw[if_neg (by simpa using hc)]
  replace ho:zB _:=ho
  replace hz:zB _:=hz
  replace kd:zB _:=kd
  replace ke:zB _:=ke
  generalize hLL:List.map zg ls=LL at *
  generalize List.map ZH l=OO at *
  replace hLL:zB _:=hLL
  clear hc hc0 hsL hs hw hnl hnlL
  repeat' (first|(refine zD fun K hK=>?_)|(refine zA fun K hK=>?_;simp (disch:=omega) [go_sem, *,zG,Tryz.ntmps29])|(apply zB.out hK;clear hK K;try with_reducible dsimp only[zC])|(apply zB.out hf;clear ht hf Kt Kf)|(with_reducible refine zJ.gcall (k1) ?_;try simp (disch:=omega) [go_sem, *])|(refine zI ?_)|(refine zK ?_;simp only[zC])|(refine zF fun Kt Kf ht hf=>?_;simp (disch:=omega) [go_sem, *];try (refine⟨fun hc=>?_,fun hc=>?_⟩ <;> try (exfalso;omega))))
  obtain⟨H3,hH3⟩:∃H3,zB (H3=((h.upd n (some (.cells [.fslc nlL fuL sL LL,.fslc nl fu s OO]))).upd (n + 1) (some (.cells [iv .i64 lo,iv .i64 hi]))).upd (n + 2) (some (.cells [.fslc true true 0 [],iv .i64 0]))):=⟨_,rfl⟩
  have hb0:H3 n=some (.cells [.fslc nlL fuL sL LL,.fslc nl fu s OO]):=by rw[hH3.out];simp (disch:=omega) only[zG,zL]
  have hb1:H3 (n + 1)=some (.cells [iv .i64 lo,iv .i64 hi]):=by rw[hH3.out];simp (disch:=omega) only[zG,zL]
  have hb2:H3 (n + 2)=some (.cells [.fslc true true 0 [],iv .i64 0]):=by rw[hH3.out];simp (disch:=omega) only[zL]
  have hfr:zB (∀x,x < n→H3 x=h x):=fun x hx=>by rw[hH3.out];simp (disch:=omega) only[zG]
  have hno:zB (∀x,n + 3≤x→H3 x=none):=fun x hx=>by rw[hH3.out];simp (disch:=omega) only[zG];exact hb.none (by omega)
  simp only[←hH3.out]
  replace hH3:zB _:=trivial
  clear k1
  have hl60:=hz.out.2.1
  refine zW (fun s'=>∃(d:Int) (n' q:Nat) (O:Ld) (H:zH),n + 10≤n'∧lo≤d∧d≤hi + 1∧n + 3≤q∧q < n'∧O=ldS ls lo (d - lo).toNat∧(∀x,x < n + 3→H x=H3 x)∧H q=acO (O.map ldA)∧s'=⟨110,[(2,.ptr n 0),(3,.ptr (n + 1) 0),(4,.ptr (n + 2) 0),(6,acV 2 q (O.map ldA)),(7,iv .i64 d)],H,n'⟩)
   (fun s'=>(hi + 1 - zY s' 7).toNat) ?_ ?_
  ·exact zX (by simp[go_sem,jk]) (Sub.refl _) ⟨lo,_,n + 3,[],H3,by omega,by omega,by omega,by omega,by omega,by rw[Int.sub_self];rfl,fun _ _=>rfl,hno.out _ (by omega),rfl⟩
  ·rintro s' ⟨d,n',q,O,H,r1,r2,r3,r4,r5,r6,r7,r8,rfl⟩
   have f0:H n=some (.cells [.fslc nlL fuL sL LL,.fslc nl fu s OO]):=(r7 _ (by omega)).trans hb0
   have f1:H (n + 1)=some (.cells [iv .i64 lo,iv .i64 hi]):=(r7 _ (by omega)).trans hb1
   replace r7:zB _:=r7
   replace r8:zB _:=r8
   by_cases hdh:d≤hi
   ·have k2:=kd.out d (by omega) (by omega)
    rw[ke.out d] at k2
    change zJ _ _ _ (Ze d (duR ls d)) at k2
    have hSl:=qA ls d
    have hO':ldS ls lo (d + 1 - lo).toNat=ldD O (duR ls d):=by rw[r6];exact ldS_to ls lo d r2
    have hOl:O.length≤30000:=by
     rw[r6]
     have h1:=ldS_len ls lo (d - lo).toNat
     have:(d - lo).toNat * ls.length≤401 * 60:=Nat.mul_le_mul (by omega) hl60
     omega
    have hOn:∀p ∈ O,(0:Int)≤p.2∧p.2≤401:=fun x hm=>by
     obtain⟨j,hj,e⟩:=List.getElem_of_mem hm
     have h1:=ldN_at O j x (by rw[r6];exact ldS_srt ls lo _) (by rw[List.getElem?_eq_getElem hj,e])
     have h2:=ldS_le ls lo x.1 (d - lo).toNat
     rw[←r6,h1] at h2;omega
    generalize duR ls d=S at *
    obtain⟨nl2,s2,e2,e3⟩:=dutF_is d S
    rw[e2] at k2
    replace e2:zB _:=trivial
    replace e3:zB _:=e3
    replace hO':zB _:=hO'
    replace hOn:zB _:=hOn
    replace r6:zB _:=trivial
    repeat' (first|(refine zD fun K hK=>?_)|(refine zA fun K hK=>?_;simp (disch:=omega) [go_sem, *])|(apply zB.out hK;clear hK K;try with_reducible dsimp only[zC])|(apply zB.out ht;clear ht hf Kt Kf)|(with_reducible refine zJ.gcall (k2) ?_;try simp (disch:=omega) [go_sem, *])|(refine zI ?_)|(refine zK ?_;simp only[zC])|(refine zF fun Kt Kf ht hf=>?_;simp (disch:=omega) [go_sem, *];try (refine⟨fun hc=>?_,fun hc=>?_⟩ <;> try (exfalso;omega))))
    refine zW (fun s'=>∃(i n4 q2:Nat) (W:Ld) (H':zH),n'≤n4∧i≤S.length∧n + 3≤q2∧q2 < n4∧W=ldI O S i∧(∀x,x < n + 3→H' x=H3 x)∧H' q2=acO (W.map ldA)∧
      s'=⟨110,[(2,.ptr n 0),(3,.ptr (n + 1) 0),(4,.ptr (n + 2) 0),(6,acV 2 q2 (W.map ldA)),(7,iv .i64 d),(8,.fslc nl2 nl2 s2 (List.map (dutyA d) S)),(9,iv .i64 i)],H',n4⟩)
     (fun s'=>S.length - (zY s' 9).toNat) ?_ ?_
    ·exact zX (by simp[go_sem]) (Sub.refl _) ⟨0,_,q,O,H,by omega,by omega,by omega,by omega,(ldI_zero O S).symm,r7.out,r8.out,rfl⟩
    ·rintro s' ⟨i,n4,q2,W,H',p1,p2,p2a,p2b,pW,pf,pm,rfl⟩
     have f2:H' n=some (.cells [.fslc nlL fuL sL LL,.fslc nl fu s OO]):=(pf _ (by omega)).trans hb0
     have f3:H' (n + 1)=some (.cells [iv .i64 lo,iv .i64 hi]):=(pf _ (by omega)).trans hb1
     replace pf:zB _:=pf
     replace pm:zB _:=pm
     by_cases hlt:i < S.length
     ·obtain⟨p,hp⟩:∃p,S[i]=p:=⟨_,rfl⟩
      have hps:S[i]? = some p:=by rw[List.getElem?_eq_getElem hlt,hp]
      have hne:S≠[]:=fun e=>by rw[e] at hlt;simp at hlt
      obtain⟨rfl,rfl⟩:=e3.out.resolve_left hne
      have hnx:=ldI_next O S i p hps
      have hWl:=ldI_len O S i
      have hWn:=ldI_bd O S 401 (by omega) hOn.out i
      have k3:=of_spec d false false 3 (S.take i) p.2 (.inr ⟨rfl,rfl⟩) (by rw[List.length_take];omega)
      have hcl:Zv (S.take i) p.2≤(S.take i).length:=List.length_filter_le _ _
      rw[List.length_take] at hcl
      rw[List.map_take] at k3
      have hex:dutyA d S[i]=.agg [iv .i64 d,sv p.1,sv p.2]:=by rw[hp];rfl
      rw[←pW] at hnx hWl hWn
      replace pW:zB _:=trivial
      replace hp:zB _:=hp
      replace hps:zB _:=trivial
      replace hWn:zB _:=hWn
      clear hne
      by_cases hq:Zv (S.take i) p.2 > 0
      ·rw[if_pos hq] at hnx
       replace hnx:zB _:=hnx
       generalize Zv (S.take i) p.2=c at *
       have hgt:(decide (0 < (c:Int)))=true:=by simp;omega
       repeat' (first|(refine zD fun K hK=>?_)|(refine zA fun K hK=>?_;simp (disch:=omega) [go_sem, *,zN])|(apply zB.out hK;clear hK K;try with_reducible dsimp only[zC])|(apply zB.out ht;clear ht hf Kt Kf)|(refine zI ?_)|(refine zK ?_;simp only[zC])|(refine zF fun Kt Kf ht hf=>?_;simp (disch:=omega) [go_sem, *];try (refine⟨fun hc=>?_,fun hc=>?_⟩ <;> try (exfalso;omega))))
       refine zk mixed (by kernel_rfl) fun K hK=>?_
       simp (disch:=omega) [go_sem, *]
       repeat' (first|(refine zA fun K hK=>?_;simp (disch:=omega) [go_sem, *,zM])|(refine Zw (by simp[go_sem]) (by simp (disch:=omega) [go_sem, *,zO];first | exact rfl | exact⟨rfl,rfl,rfl⟩ | exact (k3).gcall ⟨rfl,rfl,rfl⟩) ?_;try simp only[zq])|(refine ZE ?_)|(apply zB.out hK;clear hK K;try with_reducible dsimp only[zC])|(apply zB.out ht;clear ht hf Kt Kf)|(clear hK K;apply zB.out hK;clear hK K;try with_reducible dsimp only[zC])|(refine zT ?_;simp only[zC,zP,if_true,if_false,Nat.reduceEqDiff])|(refine zF fun Kt Kf ht hf=>?_;simp (disch:=omega) [go_sem, *];try (refine⟨fun hc=>?_,fun hc=>?_⟩ <;> try (exfalso;omega))))
       exact zS (by simp (disch:=omega) [go_sem]) (Sub.refl _) ⟨i + 1,_,q2,W,H',by omega,by omega,by omega,by omega,hnx.out.symm,pf.out,pm.out,rfl⟩ (by simp[zY,go_sem];omega)
      ·rw[if_neg hq] at hnx
       replace hnx:zB _:=hnx
       have hc0:Zv (S.take i) p.2=0:=by omega
       rw[hc0] at k3 hcl
       repeat' (first|(refine zD fun K hK=>?_)|(refine zA fun K hK=>?_;simp (disch:=omega) [go_sem, *,zN])|(apply zB.out hK;clear hK K;try with_reducible dsimp only[zC])|(apply zB.out ht;clear ht hf Kt Kf)|(refine zI ?_)|(refine zK ?_;simp only[zC])|(refine zF fun Kt Kf ht hf=>?_;simp (disch:=omega) [go_sem, *];try (refine⟨fun hc=>?_,fun hc=>?_⟩ <;> try (exfalso;omega))))
       refine zk mixed (by kernel_rfl) fun K hK=>?_
       simp (disch:=omega) [go_sem, *]
       repeat' (first|(refine zD fun K hK=>?_)|(refine zA fun K hK=>?_;simp (disch:=omega) [go_sem, *])|(refine Zw (by simp[go_sem]) (by simp (disch:=omega) [go_sem, *,zO];first | exact rfl | exact⟨rfl,rfl,rfl⟩ | exact (k3).gcall ⟨rfl,rfl,rfl⟩) ?_;try simp only[zq])|(refine ZE ?_)|(apply zB.out hK;clear hK K;try with_reducible dsimp only[zC])|(apply zB.out hf;clear ht hf Kt Kf)|(refine zI ?_)|(refine zK ?_;simp only[zC])|(refine zF fun Kt Kf ht hf=>?_;simp (disch:=omega) [go_sem, *];try (refine⟨fun hc=>?_,fun hc=>?_⟩ <;> try (exfalso;omega))))
       by_cases hW:W=[]
       ·subst hW
        simp only[List.map_nil,jk]
        have hap1:=fun nm (h0:zH) (a b c:Bool) (s:Nat)=>apL_0 nm h0 a b c s 0 (.inl rfl)
        have hap2:∀(nm:Nat) (h0:zH) (a b c:Bool) (s:Nat),zm Tryz.prog nm 47 (.fslc a true s []) (.fslc b c 2 [.agg [sv p.2,iv .i64 1]]) h0=some (.slc nm 0 1 2,h0.upd nm (some (.cells [sv p.2,iv .i64 1]))):=fun nm (h0:zH) (a b c:Bool) (s:Nat)=>apL_F nm h0 a b c s [.agg [sv p.2,iv .i64 1]] (by simp) (by simp)
        have hap3:=fun nm m (h0:zH) (b c:Bool)=>apL_S0 nm m h0 b c 0 (.inl rfl) [sv p.2,iv .i64 1] 1 rfl
        replace hap1:zB _:=hap1
        replace hap2:zB _:=hap2
        replace hap3:zB _:=hap3
        refine z6 1 ?_
        unfold zu
        repeat' (first|(refine zD fun K hK=>?_))
        refine zk mixed (by kernel_rfl) fun K hK=>?_
        simp (disch:=omega) [go_sem, *]
        repeat' (first|(refine zD fun K hK=>?_)|(refine Zw (by simp[go_sem]) (by simp (disch:=omega) [go_sem, *];first | exact rfl | exact⟨rfl,rfl,rfl⟩) ?_;try simp only[zq])|(refine ZE ?_)|(apply zB.out hK;clear hK K;try with_reducible dsimp only[zC])|(apply zB.out hf;clear ht hf Kt Kf)|(clear hK K;apply zB.out hK;clear hK K;try with_reducible dsimp only[zC])|(refine zT ?_;simp only[zC,zP,if_true,if_false,Nat.reduceEqDiff])|(refine zF fun Kt Kf ht hf=>?_;simp (disch:=omega) [go_sem, *];try (refine⟨fun hc=>?_,fun hc=>?_⟩ <;> try (exfalso;omega))))
        refine zk mixed (by kernel_rfl) fun K hK=>?_
        simp (disch:=omega) [go_sem, *]
        repeat' (first|(refine Zw (by simp[go_sem]) (by simp (disch:=omega) [go_sem, *];first | exact rfl | exact⟨rfl,rfl,rfl⟩) ?_;try simp only[zq])|(refine ZE ?_)|(apply zB.out hK;clear hK K;try with_reducible dsimp only[zC])|(apply zB.out hf;clear ht hf Kt Kf)|(refine zF fun Kt Kf ht hf=>?_;simp (disch:=omega) [go_sem, *];try (refine⟨fun hc=>?_,fun hc=>?_⟩ <;> try (exfalso;omega))))
        refine Z0 [8] [96,98,99] mixed (by kernel_rfl) (fun x hx=>by simp at hx;subst hx;exact .inr ⟨false,false,3,List.map (dutyA d) S,by simp[go_sem]⟩) fun K hK=>?_
        simp (disch:=omega) [go_sem,hex,hap1.out,hap2.out,hap3.out,zO]
        repeat' (first|(refine zA fun K hK=>?_;simp (disch:=omega) [go_sem, *,zM])|(apply zB.out hK;clear hK K;try with_reducible dsimp only[zC]))
        refine zS (by rw[ZQ (by simp)];simp (disch:=omega) [go_sem] <;> omega) (Sub.refl _) ⟨i + 1,_,n4 + 4 + 10 + 1 + 17 + 17 + 12,[(p.2,1)],_,by omega,by omega,by omega,by omega,hnx.out.symm,fun x hx=>?_,?_,rfl⟩ (by simp[zY,go_sem];omega)
        ·simp (disch:=omega) only[zG];exact pf.out x hx
        ·rw[zL,Zm (by simp)];simp[ZK,Jj,ldA,cellsOf]
       ·have hW0:W.map ldA≠[]:=by simpa using hW
        have eW:acV 2 q2 (W.map ldA)=.slc q2 0 W.length 2:=by rw[ZQ hW0,List.length_map]
        have hcl:=J0 W
        rw[Zm hW0] at pm
        have hW1:1≤W.length:=List.length_pos_iff.2 hW
        have hL0:=ld_load0 W
        have hL1:=ld_load1 W
        have hS1:=ld_set1 W
        rw[eW]
        generalize hc:flat (W.map ldA)=c at *
        replace hc:zB _:=hc
        replace eW:zB _:=eW
        replace hL0:zB _:=hL0
        replace hL1:zB _:=hL1
        replace hS1:zB _:=hS1
        have hm6:=pm.out
        replace pm:zB _:=pm
        clear hW hW0
        refine zW (fun s'=>∃(a n5:Nat),n4≤n5∧a≤W.length∧(∀(j:Nat) (x:ByteArray × Int),j < a→W[j]? = some x→bl x.1 p.2=true)∧
          s'=⟨110,[(2,.ptr n 0),(3,.ptr (n + 1) 0),(4,.ptr (n + 2) 0),(6,.slc q2 0 W.length 2),(7,iv .i64 d),(8,.fslc false false 3 (List.map (dutyA d) S)),(9,iv .i64 i),(10,iv .i64 a)],H',n5⟩)
         (fun s'=>W.length - (zY s' 10).toNat) ?_ ?_
        ·exact zX (by simp[go_sem]) (Sub.refl _) ⟨0,_,by omega,by omega,fun j x hj=>by omega,rfl⟩
        ·rintro s' ⟨a,n5,u1,u2,u3,rfl⟩
         replace u3:zB _:=u3
         by_cases hla:a < W.length
         ·obtain⟨⟨y1,y2⟩,hy⟩:∃y,W[a]=y:=⟨_,rfl⟩
          have hys:W[a]? = some (y1,y2):=by rw[List.getElem?_eq_getElem hla,hy]
          have hl0:∀h,c[a * 2]'h=sv y1:=fun h=>Option.some.inj ((List.getElem?_eq_getElem h).symm.trans (hL0.out a _ hys))
          have hl1:∀h,c[a * 2 + 1]'h=iv .i64 y2:=fun h=>Option.some.inj ((List.getElem?_eq_getElem h).symm.trans (hL1.out a _ hys))
          have hyn:=hWn.out _ (List.mem_of_getElem? hys)
          replace hys:zB _:=hys
          replace hy:zB _:=hy
          simp only at hyn
          cases hb1:Op.bytesLess y1.toList p.2.toList with
          | true=>
           have hst:zB (∀(j:Nat) (x:ByteArray × Int),j < a + 1→W[j]? = some x→bl x.1 p.2=true):=fun j x hj e=>by
            by_cases hja:j=a
            ·subst hja
             rw[hys.out] at e
             rw[←Option.some.inj e];exact hb1
            ·exact u3.out j x (by omega) e
           repeat' (first|(refine zD fun K hK=>?_))
           refine zk mixed (by kernel_rfl) fun K hK=>?_
           simp (disch:=omega) [go_sem, *]
           repeat' (first|(refine zA fun K hK=>?_;simp (disch:=omega) [go_sem, *,zM])|(refine Zw (by simp[go_sem]) (by simp (disch:=omega) [go_sem, *,zN,zO];first | exact rfl | exact⟨rfl,rfl,rfl⟩) ?_;try simp only[zq])|(refine ZE ?_)|(apply zB.out hK;clear hK K;try with_reducible dsimp only[zC])|(apply zB.out ht;clear ht hf Kt Kf)|(refine zI ?_)|(refine zK ?_;simp only[zC])|(refine zF fun Kt Kf ht hf=>?_;simp (disch:=omega) [go_sem, *];try (refine⟨fun hc=>?_,fun hc=>?_⟩ <;> try (exfalso;omega))))
           exact zS (by simp (disch:=omega) [go_sem]) (Sub.refl _) ⟨a + 1,_,by omega,by omega,hst.out,rfl⟩ (by simp[zY,go_sem];omega)
          | false=>
           cases hb2:(y1.toList == p.2.toList) with
           | true=>
            have hup:Zu W p.2=W.set a (y1,y2 + 1):=addL_up W p.2 a _ hys.out u3.out hb1 hb2
            have hs1:=hS1.out a _ (y2 + 1) hys.out
            simp only at hs1
            replace hup:zB _:=hup
            replace hs1:zB _:=hs1
            repeat' (first|(refine zD fun K hK=>?_))
            refine zk mixed (by kernel_rfl) fun K hK=>?_
            simp (disch:=omega) [go_sem, *]
            repeat' (first|(refine zD fun K hK=>?_)|(refine Zw (by simp[go_sem]) (by simp (disch:=omega) [go_sem, *,zN,zO];first | exact rfl | exact⟨rfl,rfl,rfl⟩) ?_;try simp only[zq])|(refine ZE ?_)|(apply zB.out hK;clear hK K;try with_reducible dsimp only[zC])|(apply zB.out hf;clear ht hf Kt Kf)|(clear hK K;apply zB.out hK;clear hK K;try with_reducible dsimp only[zC])|(refine zT ?_;simp only[zC,zP,if_true,if_false,Nat.reduceEqDiff])|(refine zF fun Kt Kf ht hf=>?_;simp (disch:=omega) [go_sem, *];try (refine⟨fun hc=>?_,fun hc=>?_⟩ <;> try (exfalso;omega))))
            refine zk mixed (by kernel_rfl) fun K hK=>?_
            simp (disch:=omega) [go_sem, *]
            repeat' (first|(refine zA fun K hK=>?_;simp (disch:=omega) [go_sem, *,zM,ZF,zN,zO])|(refine Zw (by simp[go_sem]) (by simp (disch:=omega) [go_sem, *,zN,zO];first | exact rfl | exact⟨rfl,rfl,rfl⟩) ?_;try simp only[zq])|(refine ZE ?_)|(apply zB.out hK;clear hK K;try with_reducible dsimp only[zC])|(apply zB.out ht;clear ht hf Kt Kf)|(refine zF fun Kt Kf ht hf=>?_;simp (disch:=omega) [go_sem, *];try (refine⟨fun hc=>?_,fun hc=>?_⟩ <;> try (exfalso;omega))))
            have hs2:=hs1.out
            simp only[zr,List.append_assoc,List.singleton_append,List.length_singleton] at hs2
            have hse:W.set a (y1,y2 + 1)≠[]:=fun e=>by have:=congrArg List.length e;rw[List.length_set] at this;simp at this;rw[this] at hla;simp at hla
            have hsn:(W.set a (y1,y2 + 1)).map ldA≠[]:=by simpa using hse
            have hsl:(W.set a (y1,y2 + 1)).length=W.length:=List.length_set
            exact zS (by rw[ZQ hsn,List.length_map,hsl];simp (disch:=omega) [go_sem]) (Sub.refl _) ⟨i + 1,_,q2,W.set a (y1,y2 + 1),_,by omega,by omega,by omega,by omega,(hnx.out.trans hup.out).symm,fun x hx=>by rw[zG _ _ _ _ (by omega)];exact pf.out x hx,by rw[zL,Zm hsn,←hs2],rfl⟩ (by simp[zY,go_sem];omega)
           | false=>
            have hin:Zu W p.2=W.take a ++ (p.2,1) :: W.drop a:=addL_ins W p.2 a u2 u3.out fun x e=>by rw[hys.out] at e;cases e;exact⟨hb1,hb2⟩
            have hnx:=hnx.out
            rw[hin] at hnx
            clear hin
            replace hnx:zB _:=hnx
            repeat' (first|(refine zD fun K hK=>?_))
            refine zk mixed (by kernel_rfl) fun K hK=>?_
            simp (disch:=omega) [go_sem, *]
            repeat' (first|(refine zD fun K hK=>?_)|(refine Zw (by simp[go_sem]) (by simp (disch:=omega) [go_sem, *,zN,zO];first | exact rfl | exact⟨rfl,rfl,rfl⟩) ?_;try simp only[zq])|(refine ZE ?_)|(apply zB.out hK;clear hK K;try with_reducible dsimp only[zC])|(apply zB.out hf;clear ht hf Kt Kf)|(clear hK K;apply zB.out hK;clear hK K;try with_reducible dsimp only[zC])|(refine zT ?_;simp only[zC,zP,if_true,if_false,Nat.reduceEqDiff])|(refine zF fun Kt Kf ht hf=>?_;simp (disch:=omega) [go_sem, *];try (refine⟨fun hc=>?_,fun hc=>?_⟩ <;> try (exfalso;omega))))
            refine zk mixed (by kernel_rfl) fun K hK=>?_
            simp (disch:=omega) [go_sem, *]
            repeat' (first|(refine Zw (by simp[go_sem]) (by simp (disch:=omega) [go_sem, *,zN,zO];first | exact rfl | exact⟨rfl,rfl,rfl⟩) ?_;try simp only[zq])|(refine ZE ?_)|(apply zB.out hK;clear hK K;try with_reducible dsimp only[zC])|(apply zB.out hf;clear ht hf Kt Kf)|(refine zF fun Kt Kf ht hf=>?_;simp (disch:=omega) [go_sem, *];try (refine⟨fun hc=>?_,fun hc=>?_⟩ <;> try (exfalso;omega))))
            have hnx:=hnx.out
            refine qe (t:=6) (m:=q2) (len:=W.length) (s:=2) true (by simp) pm.out (by simp[go_sem]) (by omega) ?_
            rw[←hc.out,elemsLd]
            have hlen:(List.take a (List.map ldA W)).length=a:=by rw[List.length_take,List.length_map];omega
            have hld:(List.drop a (List.map ldA W)).length=W.length - a:=by rw[List.length_drop,List.length_map]
            have htk:List.take W.length (List.map ldA W)=List.map ldA W:=List.take_of_length_le (by simp)
            by_cases ha0:a=0
            ·subst ha0
             rw[List.take_zero,List.drop_zero,List.nil_append] at hnx
             replace hnx:zB _:=hnx
             have hap1:=fun nm (h0:zH) (a b c:Bool) (s:Nat)=>apL_0 nm h0 a b c s 2 (.inr rfl)
             have hap2:∀(nm:Nat) (h0:zH) (a b c:Bool) (s:Nat),zm Tryz.prog nm 47 (.fslc a true s []) (.fslc b c 2 [.agg [sv p.2,iv .i64 1]]) h0=some (.slc nm 0 1 2,h0.upd nm (some (.cells [sv p.2,iv .i64 1]))):=fun nm (h0:zH) (a b c:Bool) (s:Nat)=>apL_F nm h0 a b c s [.agg [sv p.2,iv .i64 1]] (by simp) (by simp)
             have hap3:=fun nm m (h0:zH) (b c:Bool)=>apL_S nm m h0 b c [sv p.2,iv .i64 1] (W.map ldA) 1 rfl (by rw[List.length_map];omega) (by rw[List.length_map];omega)
             rw[List.length_map] at hap3
             replace hap1:zB _:=hap1
             replace hap2:zB _:=hap2
             replace hap3:zB _:=hap3
             clear hlen hld
             refine Z0 [8] [96,98,99] mixed (by kernel_rfl) (fun x hx=>by simp at hx;subst hx;exact .inr ⟨false,false,3,List.map (dutyA d) S,by simp[go_sem]⟩) fun K hK=>?_
             simp (disch:=omega) [go_sem,hex,htk,hap1.out,hap2.out,hap3.out,zO]
             repeat' (first|(refine zA fun K hK=>?_;simp (disch:=omega) [go_sem, *,zM])|(apply zB.out hK;clear hK K;try with_reducible dsimp only[zC]))
             refine zS (by rw[ZQ (by simp)];simp (disch:=omega) [go_sem] <;> omega) (Sub.refl _) ⟨i + 1,_,n5 + 17 + 17 + 16,(p.2,1) :: W,_,by omega,by omega,by omega,by omega,hnx.out.symm,fun x hx=>?_,?_,rfl⟩ (by simp[zY,go_sem];omega)
             ·simp (disch:=omega) only[zG];exact pf.out x hx
             ·rw[zL,Zm (by simp)];simp[ZK,ldA,cellsOf]
            ·skip
             replace hnx:zB _:=hnx
             have hap1:=fun nm (h0:zH) (b1 b2 b3:Bool) (s:Nat)=>apL_F nm h0 b1 b2 b3 s (List.take a (W.map ldA)) (by omega) (by omega)
             have hap2:∀(nm m:Nat) (h0:zH) (b c:Bool),zm Tryz.prog nm 47 (.slc m 0 a 2) (.fslc b c 2 [.agg [sv p.2,iv .i64 1]]) (h0.upd m (some (.cells (flat (List.take a (W.map ldA))))))=some (.slc nm 0 (a + 1) 2,((h0.upd m (some (.cells (flat (List.take a (W.map ldA)))))).upd m none).upd nm (some (.cells (flat (List.take a (W.map ldA)) ++ [sv p.2,iv .i64 1])))):=fun nm m (h0:zH) (b c:Bool)=>apL_S nm m h0 b c (flat (List.take a (W.map ldA))) [.agg [sv p.2,iv .i64 1]] a (by rw[←List.map_take,J0,List.length_take];omega) (by simp) (by simp;omega)
             have hap3:=fun nm m (h0:zH) (b c:Bool)=>apL_S nm m h0 b c (flat (List.take a (W.map ldA)) ++ [sv p.2,iv .i64 1]) (List.drop a (W.map ldA)) (a + 1) (by rw[List.length_append,←List.map_take,J0,List.length_take];simp;omega) (by omega) (by omega)
             rw[hlen] at hap1
             rw[hld] at hap3
             replace hap1:zB _:=hap1
             replace hap2:zB _:=hap2
             replace hap3:zB _:=hap3
             clear hlen hld
             refine Z0 [8] [96,98,99] mixed (by kernel_rfl) (fun x hx=>by simp at hx;subst hx;exact .inr ⟨false,false,3,List.map (dutyA d) S,by simp[go_sem]⟩) fun K hK=>?_
             simp (disch:=omega) [go_sem,hex,htk,hap1.out,hap2.out,hap3.out,zO]
             repeat' (first|(refine zA fun K hK=>?_;simp (disch:=omega) [go_sem, *,zM])|(apply zB.out hK;clear hK K;try with_reducible dsimp only[zC]))
             refine zS (by rw[ZQ (by simp)];simp (disch:=omega) [go_sem] <;> omega) (Sub.refl _) ⟨i + 1,_,n5 + 17 + 17 + 16,W.take a ++ (p.2,1) :: W.drop a,_,by omega,by omega,by omega,by omega,hnx.out.symm,fun x hx=>?_,?_,rfl⟩ (by simp[zY,go_sem];omega)
             ·simp (disch:=omega) only[zG];exact pf.out x hx
             ·rw[zL,Zm (by simp)];simp[Z4,ZK,List.map_take,List.map_drop,ldA,cellsOf]
         ·have haa:a=W.length:=by omega
          subst haa
          have hin:Zu W p.2=W.take W.length ++ (p.2,1) :: W.drop W.length:=addL_ins W p.2 W.length (Nat.le_refl _) u3.out fun x e=>by rw[List.getElem?_eq_none (Nat.le_refl _)] at e;cases e
          have hnx:=hnx.out
          rw[hin,List.take_length,List.drop_length] at hnx
          clear hin
          replace hnx:zB _:=hnx
          repeat' (first|(refine zD fun K hK=>?_))
          refine zk mixed (by kernel_rfl) fun K hK=>?_
          simp (disch:=omega) [go_sem, *]
          repeat' (first|(refine zD fun K hK=>?_)|(refine Zw (by simp[go_sem]) (by simp (disch:=omega) [go_sem, *];first | exact rfl | exact⟨rfl,rfl,rfl⟩) ?_;try simp only[zq])|(refine ZE ?_)|(apply zB.out hK;clear hK K;try with_reducible dsimp only[zC])|(apply zB.out hf;clear ht hf Kt Kf)|(clear hK K;apply zB.out hK;clear hK K;try with_reducible dsimp only[zC])|(refine zT ?_;simp only[zC,zP,if_true,if_false,Nat.reduceEqDiff])|(refine zF fun Kt Kf ht hf=>?_;simp (disch:=omega) [go_sem, *];try (refine⟨fun hc=>?_,fun hc=>?_⟩ <;> try (exfalso;omega))))
          refine zk mixed (by kernel_rfl) fun K hK=>?_
          simp (disch:=omega) [go_sem, *]
          repeat' (first|(refine Zw (by simp[go_sem]) (by simp (disch:=omega) [go_sem, *];first | exact rfl | exact⟨rfl,rfl,rfl⟩) ?_;try simp only[zq])|(refine ZE ?_)|(apply zB.out hK;clear hK K;try with_reducible dsimp only[zC])|(apply zB.out hf;clear ht hf Kt Kf)|(refine zF fun Kt Kf ht hf=>?_;simp (disch:=omega) [go_sem, *];try (refine⟨fun hc=>?_,fun hc=>?_⟩ <;> try (exfalso;omega))))
          refine qe (t:=6) (m:=q2) (len:=W.length) (s:=2) true (by simp) pm.out (by simp[go_sem]) (by omega) ?_
          rw[←hc.out,elemsLd]
          have hlen:(List.take W.length (List.map ldA W)).length=W.length:=by rw[List.length_take,List.length_map];omega
          have htk:List.take W.length (List.map ldA W)=List.map ldA W:=List.take_of_length_le (by simp)
          have hdk:List.drop W.length (List.map ldA W)=[]:=List.drop_eq_nil_of_le (by simp)
          have hap1:=fun nm (h0:zH) (a b c:Bool) (s:Nat)=>apL_F nm h0 a b c s (W.map ldA) (by rw[List.length_map];omega) (by rw[List.length_map];omega)
          have hap2:∀(nm m:Nat) (h0:zH) (b c:Bool),zm Tryz.prog nm 47 (.slc m 0 W.length 2) (.fslc b c 2 [.agg [sv p.2,iv .i64 1]]) (h0.upd m (some (.cells (flat (W.map ldA)))))=some (.slc nm 0 (W.length + 1) 2,((h0.upd m (some (.cells (flat (W.map ldA))))).upd m none).upd nm (some (.cells (flat (W.map ldA) ++ [sv p.2,iv .i64 1])))):=fun nm m (h0:zH) (b c:Bool)=>apL_S nm m h0 b c (flat (W.map ldA)) [.agg [sv p.2,iv .i64 1]] W.length (by rw[J0]) (by simp) (by simp;omega)
          have hap3:=fun nm m (h0:zH) (b c:Bool)=>apL_S0 nm m h0 b c 2 (.inr rfl) (flat (W.map ldA) ++ [sv p.2,iv .i64 1]) (W.length + 1) (by rw[List.length_append,J0];simp;omega)
          rw[List.length_map] at hap1
          replace hap1:zB _:=hap1
          replace hap2:zB _:=hap2
          replace hap3:zB _:=hap3
          clear hlen
          refine Z0 [8] [96,98,99] mixed (by kernel_rfl) (fun x hx=>by simp at hx;subst hx;exact .inr ⟨false,false,3,List.map (dutyA d) S,by simp[go_sem]⟩) fun K hK=>?_
          simp (disch:=omega) [go_sem,hex,htk,hdk,hap1.out,hap2.out,hap3.out,zO]
          repeat' (first|(refine zA fun K hK=>?_;simp (disch:=omega) [go_sem, *,zM])|(apply zB.out hK;clear hK K;try with_reducible dsimp only[zC]))
          refine zS (by rw[ZQ (by simp)];simp (disch:=omega) [go_sem] <;> omega) (Sub.refl _) ⟨i + 1,_,n5 + 17 + 17 + 12,W ++ [(p.2,1)],_,by omega,by omega,by omega,by omega,hnx.out.symm,fun x hx=>?_,?_,rfl⟩ (by simp[zY,go_sem];omega)
          ·simp (disch:=omega) only[zG];exact pf.out x hx
          ·rw[zL,Zm (by simp)];simp[Z4,ZK,Jj,ldA,cellsOf]
     ·have hii:i=S.length:=by omega
      subst hii
      rw[ldI_all] at pW
      subst pW
      repeat' (first|(refine zD fun K hK=>?_)|(refine zA fun K hK=>?_;simp (disch:=omega) [go_sem, *,zM])|(apply zB.out hK;clear hK K;try with_reducible dsimp only[zC])|(apply zB.out hf;clear ht hf Kt Kf)|(clear hK K;apply zB.out hK;clear hK K;try with_reducible dsimp only[zC])|(refine zT ?_;simp only[zC,zP,if_true,if_false,Nat.reduceEqDiff])|(refine zF fun Kt Kf ht hf=>?_;simp (disch:=omega) [go_sem, *];try (refine⟨fun hc=>?_,fun hc=>?_⟩ <;> try (exfalso;omega))))
      exact zS (by simp (disch:=omega) [go_sem]) (Sub.refl _) ⟨d + 1,_,q2,ldD O S,H',by omega,by omega,by omega,by omega,by omega,hO'.out.symm,pf.out,pm.out,rfl⟩ (by simp[zY,go_sem];omega)
   ·have hdd:d=hi + 1:=by omega
    subst hdd
    have ho4:=ho.out
    rw[←r6] at ho4
    replace ho4:zB _:=ho4
    replace r6:zB _:=trivial
    have f2:H (n + 2)=some (.cells [.fslc true true 0 [],iv .i64 0]):=(r7.out _ (by omega)).trans hb2
    by_cases hV0:O=[]
    ·subst hV0
     simp only[List.map_nil,jk]
     replace r8:zB _:=trivial
     repeat' (first|(refine zD fun K hK=>?_)|(refine zA fun K hK=>?_;simp (disch:=omega) [go_sem, *])|(apply zB.out hK;clear hK K;try with_reducible dsimp only[zC])|(apply zB.out hf;clear ht hf Kt Kf)|(clear hK K;apply zB.out hK;clear hK K;try with_reducible dsimp only[zC])|(refine zT ?_;simp only[zC,zP,if_true])|(refine zF fun Kt Kf ht hf=>?_;simp (disch:=omega) [go_sem, *];try (refine⟨fun hc=>?_,fun hc=>?_⟩ <;> try (exfalso;omega))))
     refine zf ?_
     try dsimp only[zC,zP]
     refine⟨by simp,_,(by first | rfl|(simp (disch:=omega) [go_sem] <;> rfl)),?_⟩
     rw[ho4.out]
     exact zZ ⟨fun k hk=>by rw[zG _ _ _ _ (by omega),r7.out k (by omega)];exact hfr.out k hk,by simp[go_sem,below,belowL,ZW],by rfl,by simp,by simp⟩
    ·have hV1:O.map ldA≠[]:=by simpa using hV0
     have ev:acV 2 q (O.map ldA)=.slc q 0 O.length 2:=by rw[ZQ hV1,List.length_map]
     have em:H q=some (.cells (flat (O.map ldA))):=by rw[r8.out,Zm hV1]
     rw[ev]
     replace ev:zB _:=ev
     replace em:zB _:=em
     replace hV0:zB _:=hV0
     clear hV1
     repeat' (first|(refine zD fun K hK=>?_)|(refine zA fun K hK=>?_;simp (disch:=omega) [go_sem, *])|(apply zB.out hK;clear hK K;try with_reducible dsimp only[zC])|(apply zB.out hf;clear ht hf Kt Kf)|(clear hK K;apply zB.out hK;clear hK K;try with_reducible dsimp only[zC])|(refine zT ?_;simp only[zC,zP,if_true])|(refine zF fun Kt Kf ht hf=>?_;simp (disch:=omega) [go_sem, *];try (refine⟨fun hc=>?_,fun hc=>?_⟩ <;> try (exfalso;omega))))
     refine zf ?_
     try dsimp only[zC,zP]
     refine⟨by simp,_,(by first | rfl|(simp (disch:=omega) [go_sem] <;> rfl)),?_⟩
     rw[ho4.out]
     show ZD _ _ (AV.agg [.slc q 0 O.length 2,iv .i64 0]) _ _
     refine ret_ldG (by rw[zG _ _ _ _ (by omega)];exact em.out) hV0.out ?_
     exact zZ ⟨fun k hk=>by rw[zG _ _ _ _ (by omega),zG _ _ _ _ (by omega),r7.out k (by omega)];exact hfr.out k hk,by simp[below,belowL,below_ldF],rfl,by simp,by simp⟩
 ·have hne:(Zc ls l lo hi != 0)=true:=by simpa using hc
  have ho:qV ls l lo hi=([],Zc ls l lo hi):=by unfold qV;rw[if_pos hc]
  rw[ho,show ldF []=.fslc true true 0 [] from rfl]
  generalize Zc ls l lo hi=e at *
  generalize List.map zg ls=LL at *
  generalize List.map ZH l=OO at *
  clear ho hc hsL hs hw hnl hnlL
  repeat' (first|(refine zD fun K hK=>?_)|(refine zA fun K hK=>?_;simp (disch:=omega) [go_sem, *,zG,Tryz.ntmps29])|(apply zB.out hK;clear hK K;try with_reducible dsimp only[zC])|(apply zB.out ht;clear ht hf Kt Kf)|(with_reducible refine zJ.gcall (k1) ?_;try simp (disch:=omega) [go_sem, *])|(refine zF fun Kt Kf ht hf=>?_;simp (disch:=omega) [go_sem, *];try (refine⟨fun hc=>?_,fun hc=>?_⟩ <;> try (exfalso;omega))))
  (refine zf ?_;try dsimp only[zC,zP];refine⟨by simp,_,(by first | rfl|(simp (disch:=omega) [go_sem] <;> rfl)),?_⟩;refine zZ ⟨fun k hk=>(by first | rfl|(repeat rw[zG _ _ _ _ (by omega)])),(by simp[go_sem,below,belowL]),(by simp[go_sem] <;> omega),by simp,by simp⟩)
end Go.AM
