/- Doubles and loads, by the specification. Conditions: as each theorem says. -/
import Derived.Test.YtkbgmkhdjmkpdaaGreatDoorGr
import Derived.Test.YtkbgmkhdjmkpdaaGreatDoorDl
namespace Go.AM
open Go.RowKit
def fp4 (F D:List Nat) (t:Nat):Bool:=F.contains t || D.contains t
def isFA4 (F D:List Nat) (o:Oper):Bool:=o.guard.isNone && match o.op with
 | .fieldAddr _ (.tmp f) _=>fp4 F D f
 | .indexAddr _ (.tmp f) _=>fp4 F D f
 | .move (.tmp f)=>fp4 F D f
 | _=>false
def srcS:Op→Option Nat
 | .fieldAddr _ (.tmp f) _=>some f
 | .indexAddr _ (.tmp f) _=>some f
 | .move (.tmp f)=>some f
 | .load _ (.tmp f)=>some f
 | _=>none
def Imm (x:AV):Prop:=(∃l,x=.fptr l)∨∃nl fu s l,x=.fslc nl fu s l
def ImmOk (F:List Nat) (s:List (Nat × AV)):Prop:=∀t ∈ F,Imm (get s t)
def qp (F D:List Nat) (op:Op):Bool:=match jV op with | some t=>fp4 F D t | none=>false
def qv (F D:List Nat) (P:Program) (ops:Array Oper) (p i:Oper):Bool:=p.apart ops i && (Jo (z7 P p.op) (z7 P i.op) || qp F D p.op || qp F D i.op || (isAp p.op && isD P i.op))
def LdAt4 (op:Op) (s:List (Nat × AV)):Prop:=∀t,jV op=some t→Imm (get s t)
theorem ld_src {op:Op} {t:Nat} (h:jV op=some t):srcS op=some t:=by
 unfold jV at h
 split at h
 ·exact h
 ·cases h
theorem src_looks {ops:Array Oper} {o:Oper} {t:Nat} (h:srcS o.op=some t):t ∈ o.looksAt ops:=by
 unfold Oper.looksAt
 refine List.mem_append_left _ ?_
 unfold srcS at h
 split at h <;> first | cases h | skip
 all_goals (rename_i e;rw[e];simp[Op.operands])
theorem f_ld4 [Vars] {P:Program} {ops:Array Oper} {F D:List Nat} {o:Oper} {s:List (Nat × AV)} (hl:qp F D o.op=true) (hF:LdAt4 o.op s):z7 P o.op≠.w∧z7 P o.op≠.a∧z7 P o.op≠.d∧∃X:Option AV,∀nm h,Zj P ops nm o s h=X.map (·,h):=by
 have hs:∃t,jV o.op=some t:=by
  unfold qp at hl
  cases e:jV o.op with
  | none=>rw[e] at hl;cases hl
  | some t=>exact⟨t,rfl⟩
 obtain⟨t,ht⟩:=hs
 have hi:=hF t ht
 have ho:∃ty,o.op=.load ty (.tmp t):=by
  unfold jV at ht
  split at ht
  ·rename_i ty t' e;cases ht;exact⟨ty,e⟩
  ·cases ht
 obtain⟨ty,ho⟩:=ho
 refine⟨by rw[ho];simp[z7],by rw[ho];simp[z7],by rw[ho];simp[z7],?_⟩
 unfold Zj
 cases z6 ops s o.guard with
 | none=>exact⟨none,fun _ _=>rfl⟩
 | some b=>
  cases b with
  | false=>exact⟨some (.tup []),fun _ _=>rfl⟩
  | true=>
   rw[ho]
   simp only[zd]
   cases lay P ty with
   | none=>exact⟨none,fun _ _=>rfl⟩
   | some sg=>
    rcases hi with ⟨l,hg⟩ | ⟨nl,fu,z,l,hg⟩
    ·refine⟨Zt sg l,fun _ _=>?_⟩
     simp only[ev,hg]
    ·refine⟨none,fun _ _=>?_⟩
     simp only[ev,hg]
     rfl
structure Facts4 [Vars] (F D:List Nat) (P:Program) (ops:Array Oper) (st:St) (nmp nmi:Nat) (p i:Oper):Prop extends Facts P ops st nmp nmi p i where
 runsL:qp F D i.op=true→∃x,∀nm h,Zj P ops nm i st.s h=some (x,h)
 wL:qp F D i.op=true→z7 P i.op≠.w∧z7 P i.op≠.d
theorem swap_ok4 [Vars] {F D:List Nat} {P:Program} {ops:Array Oper} {nmp nmi:Nat} {p i:Oper} {st:St} (hc:qv F D P ops p i=true) (FF:Facts4 F D P ops st nmp nmi p i) (hfp:qp F D p.op=true→LdAt4 p.op st.s) {K:St→Prop} (hK:∀a b,Eqv a b→K a→K b)
  (h:aOp P ops nmp p st (fun s1=>aOp P ops nmi i s1 K)):aOp P ops nmi i st (fun s1=>aOp P ops nmp p s1 K):=by
 by_cases hcp:Jo (z7 P p.op) (z7 P i.op)=true
 ·refine swap_ok ?_ FF.toFacts hK h
  simp only[qv,Bool.and_eq_true] at hc
  simp only[comm,Bool.and_eq_true]
  exact⟨hc.1,hcp⟩
 simp only[qv,Bool.and_eq_true,Bool.or_eq_true] at hc
 obtain⟨hap,hcl⟩:=hc
 obtain⟨ha1,ha2,ha3⟩:=Oper.apart_spec hap
 have hrl:=FF.runsL
 have hwl:=FF.wL
 have hdok:=FF.dok
 have hfree:=FF.free
 have hne:=FF.ne
 obtain⟨nt,s,hp,n⟩:=st
 obtain⟨hdp,h⟩:=h
 simp only at hdp h hfp hrl hdok hfree ⊢
 have ag1:∀x h1 n1,agreeOn (i.looksAt ops) (put ⟨nt,s,h1,n1⟩ p.dst x).s s:=fun x h1 n1 t ht=>Je (fun e=>ha1 t e ht)
 have ag2:∀x h1 n1,agreeOn (p.looksAt ops) (put ⟨nt,s,h1,n1⟩ i.dst x).s s:=fun x h1 n1 t ht=>Je (fun e=>ha3 t e ht)
 have hh:ZN P ops nmp p s hp n fun x h1 n1=>ZN P ops nmi i s h1 n1 fun y h2 n2=>K (put ⟨nt,(put ⟨nt,s,h1,n1⟩ p.dst x).s,h2,n2⟩ i.dst y):=by
  refine zt h fun x h1 n1 hk=>?_
  obtain⟨k1,k2⟩:=hk
  rw[put_nt.1,put_nt.2.1,put_nt.2.2] at k2
  exact (ZD (ag1 x h1 n1)).1 k2
 have goal:(ZN P ops nmi i s hp n fun y h1 n1=>ZN P ops nmp p s h1 n1 fun x h2 n2=>K (put ⟨nt,(put ⟨nt,s,h1,n1⟩ p.dst x).s,h2,n2⟩ i.dst y))→aOp P ops nmi i ⟨nt,s,hp,n⟩ (fun s1=>aOp P ops nmp p s1 K):=by
  intro g2
  refine⟨hdok,zt g2 fun y h1 n1 hk=>⟨by rw[put_nt.1];exact hdp,?_⟩⟩
  rw[put_nt.1,put_nt.2.1,put_nt.2.2]
  refine (ZD (ag2 y h1 n1)).2 (zt hk fun x h2 n2 hk=>?_)
  refine hK _ _ (qq (fun t e=>ha2 t e) n2 h2) ?_
  exact hk
 refine goal ?_
 have hs:∀x h1 n1 h2 n2,(put ⟨nt,s,h1,n1⟩ p.dst x).s=(put ⟨nt,s,h2,n2⟩ p.dst x).s:=fun x h1 n1 h2 n2=>by cases p.dst <;> rfl
 by_cases hia:qp F D i.op=true
 ·obtain⟨y,hy⟩:=hrl hia
  have hw:=(hwl hia).1
  have e1:∀h1 n1 K1,ZN P ops nmi i s h1 n1 K1↔K1 y h1 n1:=fun h1 n1 K1=>by rw[Zc hw,hy];rfl
  rw[e1]
  exact zt hh fun x h1 n1 hk=>by rw[e1] at hk;rw[hs x hp n h1 n1];exact hk
 by_cases hpa:qp F D p.op=true
 ·obtain⟨hw,_,_,X,hX⟩:=f_ld4 (P:=P) (ops:=ops) hpa (hfp hpa)
  have e1:∀h1 n1 K1,ZN P ops nmp p s h1 n1 K1↔ZJ (X.map (·,h1)) n1 K1:=fun h1 n1 K1=>by rw[Zc hw,hX]
  rw[e1] at hh
  cases X with
  | none=>exact hh.elim
  | some x=>
   simp only[Option.map_some,ZJ] at hh
   refine zt hh fun y h1 n1 hk=>?_
   rw[e1]
   simp only[Option.map_some,ZJ]
   rw[hs x h1 n1 hp n];exact hk
 obtain⟨hpp,hid⟩:isAp p.op=true∧isD P i.op=true:=by
  rcases hcl with ((h' | h')|h')|h'
  ·exact absurd h' hcp
  ·exact absurd h' hpa
  ·exact absurd h' hia
  ·exact h'
 have hcd:z7 P i.op=.d:=by
  unfold isD at hid
  split at hid
  ·assumption
  ·cases hid
 have hiw:z7 P i.op≠.w:=by rw[hcd];simp
 obtain⟨X,hX⟩:=f_d (ops:=ops) hcd s nmi
 rw[QW (ap_nc hpp)] at hh
 cases hv:Zj P ops nmp p s hp with
 | none=>rw[hv] at hh;exact hh.elim
 | some xh=>
  obtain⟨x,h1⟩:=xh
  rw[hv] at hh
  simp only[ZJ] at hh
  rw[Zc hiw,hX] at hh
  rw[Zc hiw,hX]
  cases X with
  | none=>exact hh.elim
  | some yo=>
   obtain⟨y,oo⟩:=yo
   simp only[Option.map_some,ZJ] at hh ⊢
   rw[QW (ap_nc hpp)]
   cases oo with
   | none=>
    simp only at hh ⊢
    rw[hv]
    simp only[ZJ]
    rw[hs x hp n h1 n];exact hh
   | some ob=>
    simp only at hh ⊢
    rw[(ap_val hpp hv (hfree hcd) (Ne.symm hne)).2 (some ob)]
    simp only[ZJ]
    rw[hs x _ n h1 n];exact hh
def WOk4 (F D:List Nat) (ops:Array Oper):Prop:=∀(i:Nat) o,ops[i]? = some o→∀d,o.dst=some d→d ∉ F∧(d ∈ D→isFA4 F D o=true)
theorem fp4_D {F D:List Nat} {t:Nat} (h:fp4 F D t=true) (hn:t ∉ F):t ∈ D:=by
 simp only[fp4,Bool.or_eq_true,List.contains_iff_mem] at h
 exact h.resolve_left hn
structure Psi4 (F D:List Nat) (ops:Array Oper) (s:List (Nat × AV)) (L:List Nat):Prop where
 fp:ImmOk F s
 ld:∀p ∈ L,∀o,ops[p]? = some o→∀t,srcS o.op=some t→fp4 F D t=true→Imm (get s t)∨∃j ∈ L,j < p∧∃q,ops[j]? = some q∧q.dst=some t
theorem Psi4.head {F D:List Nat} {ops:Array Oper} {s:List (Nat × AV)} {p:Nat} {r:List Nat} (h:Psi4 F D ops s (p :: r)) (hs:(p :: r).Pairwise (·< ·)) {o:Oper} (ho:ops[p]? = some o):∀t,srcS o.op=some t→fp4 F D t=true→Imm (get s t):=by
 intro t ht hf
 rcases h.ld p (by simp) o ho t ht hf with h' | ⟨j,hj,hlt,_⟩
 ·exact h'
 ·exfalso
  rcases List.mem_cons.1 hj with h' | h'
  ·omega
  ·have:=(List.pairwise_cons.1 hs).1 j h';omega
theorem Psi4.at [Vars] {F D:List Nat} {op:Op} {s:List (Nat × AV)} (h:∀t,srcS op=some t→fp4 F D t=true→Imm (get s t)) (hl:qp F D op=true):LdAt4 op s:=fun t ht=>h t (ld_src ht) (by unfold qp at hl;rw[ht] at hl;exact hl)
theorem Psi4.step [Vars] {F D:List Nat} {ops:Array Oper} {s s1:List (Nat × AV)} {L L':List Nat} {p:Nat} {o:Oper} (h:Psi4 F D ops s L) (hW:WOk4 F D ops) (ho:ops[p]? = some o) (hk:∀t,o.dst≠some t→get s1 t=get s t)
  (hfa:isFA4 F D o=true→∀d,o.dst=some d→Imm (get s1 d)) (h1:∀x ∈ L',x ∈ L) (h2:∀x ∈ L,x≠p→x ∈ L'):Psi4 F D ops s1 L':=by
 have hf:ImmOk F s1:=fun t ht=>by rw[hk t (fun e=>(hW p o ho t e).1 ht)];exact h.fp t ht
 refine⟨hf,fun p' hp' o' ho' t ht hl=>?_⟩
 have hdst:o.dst=some t→Imm (get s1 t):=fun e=>hfa ((hW p o ho t e).2 (fp4_D hl (hW p o ho t e).1)) t e
 rcases h.ld p' (h1 p' hp') o' ho' t ht hl with h' | ⟨j,hj,hlt,q,hq,hqd⟩
 ·left
  by_cases e:o.dst=some t
  ·exact hdst e
  ·rw[hk t e];exact h'
 ·by_cases e:j=p
  ·subst e
   rw[ho] at hq;cases hq
   exact .inl (hdst hqd)
  ·exact .inr ⟨j,h2 j hj e,hlt,q,hq,hqd⟩
theorem fa_val4 [Vars] {F D:List Nat} {P:Program} {ops:Array Oper} {nm:Nat} {o:Oper} {s:List (Nat × AV)} {h h':zI} {x:AV} (hf:isFA4 F D o=true) (hF:∀t,srcS o.op=some t→fp4 F D t=true→Imm (get s t)) (he:Zj P ops nm o s h=some (x,h')):Imm x:=by
 simp only[isFA4,Bool.and_eq_true] at hf
 obtain⟨hg,ho⟩:=hf
 have hg:o.guard=none:=by simpa using hg
 unfold Zj at he
 rw[hg] at he
 simp only[z6] at he
 split at ho
 ·rename_i t f k hop
  have hi:=hF f (by rw[hop];rfl) ho
  simp only[hop,zd] at he
  split at he
  ·split at he
   ·cases he
   ·rcases hi with ⟨l,hl⟩ | ⟨nl,fu,z,l,hl⟩
    ·simp only[ev,hl,Option.some.injEq,Prod.mk.injEq] at he
     exact .inl ⟨_,he.1.symm⟩
    ·simp only[ev,hl] at he;cases he
  ·cases he
 ·rename_i t f k hop
  have hi:=hF f (by rw[hop];rfl) ho
  simp only[hop,zd] at he
  split at he
  ·rcases hi with ⟨l,hl⟩ | ⟨nl,fu,z,l,hl⟩
   ·simp only[ev,hl] at he;cases he
   ·simp only[ev,hl] at he
    split at he
    ·split at he
     ·simp only[Option.some.injEq,Prod.mk.injEq] at he
      exact .inl ⟨_,he.1.symm⟩
     ·cases he
    ·cases he
  ·rcases hi with ⟨l,hl⟩ | ⟨nl,fu,z,l,hl⟩
   ·simp only[ev,hl,JN] at he
    split at he
    ·split at he
     ·simp only[Option.map_some,Option.some.injEq,Prod.mk.injEq] at he
      exact .inl ⟨_,he.1.symm⟩
     ·simp at he
    ·simp at he
   ·simp only[ev,hl,JN] at he
    split at he
    ·split at he
     ·simp at he
     ·simp at he
    ·simp at he
 ·rename_i f hop
  have hi:=hF f (by rw[hop];rfl) ho
  simp only[hop,zd,Option.some.injEq,Prod.mk.injEq] at he
  rw[←he.1]
  exact hi
 ·cases ho
theorem fa_nc4 {F D:List Nat} {o:Oper} (hf:isFA4 F D o=true):Zb o.op=none:=by
 simp only[isFA4,Bool.and_eq_true] at hf
 obtain⟨_,ho⟩:=hf
 split at ho
 ·rename_i hop;rw[hop];rfl
 ·rename_i hop;rw[hop];rfl
 ·rename_i hop;rw[hop];rfl
 ·cases ho
theorem aOp_keep4 [Vars] (F D:List Nat) {P:Program} {ops:Array Oper} {nm:Nat} {o:Oper} {st:St} {K:St→Prop} (h:aOp P ops nm o st K) :
  aOp P ops nm o st fun s=>K s∧s.nt=st.nt∧(∀t,o.dst≠some t→get s.s t=get st.s t)∧(z7 P o.op≠.w→∀m,m≠nm→s.h m=st.h m)∧(isAp o.op=true→∀m,m≠nm→st.h m=none→s.h m=none)∧(isFA4 F D o=true→(∀t,srcS o.op=some t→fp4 F D t=true→Imm (get st.s t))→∀d,o.dst=some d→Imm (get s.s d)):=by
 have h1:=aOp_keep h
 cases hc:Zb o.op with
 | some f=>
  refine jR h1 fun s ⟨a1,a2,a3,a4⟩=>⟨a1,a2,a3,a4,fun e=>?_,fun e=>?_⟩
  ·rw[ap_nc e] at hc;cases hc
  ·rw[fa_nc4 e] at hc;cases hc
 | none=>
  obtain⟨hd,h2⟩:=h1
  refine⟨hd,?_⟩
  rw[QW hc] at h2 ⊢
  cases hx:Zj P ops nm o st.s st.h with
  | none=>rw[hx] at h2;exact h2.elim
  | some xh=>
   obtain⟨x,h'⟩:=xh
   rw[hx] at h2
   simp only[ZJ] at h2 ⊢
   obtain⟨a1,a2,a3,a4⟩:=h2
   refine⟨a1,a2,a3,a4,fun e m hm hn=>?_,fun e hF d hd=>?_⟩
   ·rw[put_nt.2.1];exact (ap_val e hx hn hm).1
   ·have hi:=fa_val4 e hF hx
    rw[hd]
    simpa [put,get] using hi
theorem real_run4 [Vars] {F D:List Nat} {P:Program} {w0:World} {G0:Gh} {fl base:Nat} {ops:Array Oper} (hW:WOk4 F D ops) (hfl:fl≤base) {l2:List Nat} {i:Nat} {K:St→Prop} {T:List Tmp}:∀(l1:List Nat) {G:Gh} {st:St} {a:Act} {w:World}
  (_:RSim w0 G0 fl base (l1 ++ i :: l2) G st a w) (_:(l1 ++ i :: l2).Pairwise (·< ·)) (_:∀p ∈ l1,∀o,ops[p]? = some o→∀d,o.dst=some d→d ∉ T) (_:Psi4 F D ops st.s (l1 ++ i :: l2)) (_:zw P ops base K (l1 ++ i :: l2) st),
  ∃st',st'.nt=st.nt∧(∀t ∈ T,get st'.s t=get st.s t)∧Psi4 F D ops st'.s (i :: l2)∧zw P ops base K (i :: l2) st'
 | [],G,st,a,w,S,hn,hT,hp,h=>⟨st,rfl,fun _ _=>rfl,hp,h⟩
 | p :: l1,G,st,a,w,S,hn,hT,hp,h=>by
  simp only[List.cons_append] at S hn hp h
  have hn0:=hn
  have hnd:=List.nodup_cons.1 (show (p :: (l1 ++ i :: l2)).Nodup from hn.imp fun h=>Nat.ne_of_lt h)
  have hn':=List.pairwise_cons.1 hn
  have h':=h
  simp only[zw] at h'
  cases ho:ops[p]? with
  | none=>rw[ho] at h';exact h'.elim
  | some o=>
   rw[ho] at h'
   obtain⟨G1,st1,a1,w1,S1,k1,k2,k3,_,_,k6⟩:=real_step S hfl hnd.1 (aOp_keep4 F D h')
   have hp1:=hp.step hW ho k3 (fun e=>k6 e (hp.head hn0 ho)) (L':=l1 ++ i :: l2) (fun x hx=>by simp only[List.mem_cons];exact .inr hx) (fun x hx hne=>by simpa [hne] using hx)
   obtain⟨st',e1,e2,e2p,e3⟩:=real_run4 hW hfl l1 S1 hn'.2 (fun q hq=>hT q (by simp[hq])) hp1 k1
   exact⟨st',e1.trans k2,fun t ht=>(e2 t ht).trans (k3 t fun e=>hT p (by simp) o ho t e ht),e2p,e3⟩
theorem front4 [Vars] {F D:List Nat} {P:Program} {base:Nat} {ops:Array Oper} {i:Nat} {o:Oper} (hW:WOk4 F D ops) (ho:ops[i]? = some o) {l2:List Nat} {K:St→Prop} (hK:∀a b,Eqv a b→K a→K b):∀(l1:List Nat) (st:St)
  (_:∀p ∈ l1,p≠i∧∀q,ops[p]? = some q→qv F D P ops q o=true∧Facts4 F D P ops st (base + p) (base + i) q o) (_:(l1 ++ i :: l2).Pairwise (·< ·)) (_:Psi4 F D ops st.s (l1 ++ i :: l2)) (_:zw P ops base K (l1 ++ i :: l2) st),
  zw P ops base K (i :: (l1 ++ l2)) st
 | [],st,_,_,_,h=>h
 | p :: l1,st,hc,hsrt,hpsi,h=>by
  simp only[List.cons_append] at h hsrt hpsi
  have h':=h
  simp only[zw] at h'
  obtain⟨hpi,hq⟩:=hc p (by simp)
  cases hp:ops[p]? with
  | none=>rw[hp] at h';exact h'.elim
  | some q=>
   rw[hp] at h'
   obtain⟨hcm,hF⟩:=hq q hp
   have hap:q.apart ops o=true:=by simp only[qv,Bool.and_eq_true] at hcm;exact hcm.1
   obtain⟨ha1,_,_⟩:=Oper.apart_spec hap
   have h1:aOp P ops (base + p) q st (fun s1=>aOp P ops (base + i) o s1 (zw P ops base K (l1 ++ l2))):=by
    refine jR (aOp_keep4 F D h') fun s1 ⟨k1,k2,k3,k4,k5,k6⟩=>?_
    have hpsi1:=hpsi.step hW hp k3 (fun e=>k6 e (hpsi.head hsrt hp)) (L':=l1 ++ i :: l2) (fun x hx=>by simp only[List.mem_cons];exact .inr hx) (fun x hx hne=>by simpa [hne] using hx)
    have ih:=front4 hW ho hK l1 s1 (fun p' hp'=>⟨(hc p' (by simp[hp'])).1,fun q' hq'=>?_⟩) (List.pairwise_cons.1 hsrt).2 hpsi1 k1
    ·simpa only[zw,ho] using ih
    ·obtain⟨g1,g2⟩:=(hc p' (by simp[hp'])).2 q' hq'
     have hag:agreeOn (o.looksAt ops) s1.s st.s:=fun t ht=>k3 t fun e=>ha1 t e ht
     refine⟨g1,⟨g2.ne,fun x hx hd off e=>?_,fun hd=>?_,fun hA=>?_,by rw[k2];exact g2.dok⟩,fun hA=>let ⟨x,hx⟩:=g2.runsL hA;⟨x,fun nm h=>by rw[Zn hag];exact hx nm h⟩,g2.wL⟩
     ·refine g2.look x hx hd off ?_
      rw[←e]
      exact (qm hag x (cl_b hx st.s).1).symm
     ·by_cases hqa:isAp q.op=true
      ·exact k5 hqa _ (fun e=>hpi (by omega)) (g2.free hd)
      have hqw:z7 P q.op≠.w:=by
       intro e
       simp only[qv,Bool.and_eq_true,Bool.or_eq_true] at hcm
       rcases hcm.2 with ((h' | h')|h')|h'
       ·rw[e,hd] at h';simp[Jo] at h'
       ·exact (f_ld4 (P:=P) (ops:=ops) h' (Psi4.at (hpsi.head hsrt hp) h')).1 e
       ·exact (g2.wL h').2 hd
       ·exact hqa h'.1
      rw[k4 hqw _ (fun e=>hpi (by omega))]
      exact g2.free hd
     ·obtain⟨x,hx⟩:=g2.runs hA
      exact⟨x,fun nm h=>by rw[Zn hag];exact hx nm h⟩
   have h2:=swap_ok4 hcm hF (fun e=>Psi4.at (hpsi.head hsrt hp) e) (QJ hK (l1 ++ l2)) h1
   simp only[zw,ho]
   refine jR h2 fun s1 k=>?_
   simp only[List.cons_append,zw,hp]
   exact k
def qO (F D:List Nat) (P:Program) (ops:Array Oper):Bool:=
 let m:=jO [] ops.toList
 (List.range ops.size).all fun i=>match ops[i]? with
   | none=>false
   | some o=>(((match o.dst with | some d=>!F.contains d && (!D.contains d || isFA4 F D o)|none=>true) && (match srcS o.op with | some t=>!fp4 F D t || F.contains t || (List.range i).any (fun j=>match ops[j]? with | some q=>q.dst == some t | none=>false)|none=>true)) && (o.after.toList.all fun e=>!Region.binds .any e || decide (e.on < i))) &&
    (List.range i).all fun p=>(m.getD i 0).testBit p || (match ops[p]? with | some q=>qv F D P ops q o | none=>false)
section
variable {F D : List Nat} {P : Program} {ops : Array Oper}
theorem drawOK4_edge (h:qO F D P ops=true) {i:Nat} {o:Oper} (ho:ops[i]? = some o):∀e ∈ o.after,Region.binds .any e=true→e.on < i:=by
 intro e he hb
 have hi:i < ops.size:=(Array.getElem?_eq_some_iff.1 ho).1
 have:=List.all_eq_true.1 h i (by simpa using hi)
 rw[ho] at this
 simp only[Bool.and_eq_true] at this
 have:=List.all_eq_true.1 this.1.2 e (by simpa using he)
 simpa [hb] using this
theorem drawOK4_comm (h:qO F D P ops=true) {i p:Nat} {o q:Oper} (ho:ops[i]? = some o) (hq:ops[p]? = some q) (hp:p < i) (hn:((jO [] ops.toList).getD i 0).testBit p=false):qv F D P ops q o=true:=by
 have hi:i < ops.size:=(Array.getElem?_eq_some_iff.1 ho).1
 have:=List.all_eq_true.1 h i (by simpa using hi)
 rw[ho] at this
 simp only[Bool.and_eq_true] at this
 have:=List.all_eq_true.1 this.2 p (by simpa using hp)
 rw[hn,hq] at this
 simpa using this
theorem drawOK4_w (h:qO F D P ops=true):WOk4 F D ops:=fun i o ho d hd=>by
 have hi:i < ops.size:=(Array.getElem?_eq_some_iff.1 ho).1
 have:=List.all_eq_true.1 h i (by simpa using hi)
 rw[ho] at this
 simp only[Bool.and_eq_true] at this
 have:=this.1.1.1
 rw[hd] at this
 simp only[Bool.and_eq_true,Bool.or_eq_true,Bool.not_eq_true'] at this
 refine⟨fun e=>by have:=this.1;simp[e] at this,fun e=>?_⟩
 rcases this.2 with h' | h'
 ·simp[e] at h'
 ·exact h'
theorem drawOK4_psi (h:qO F D P ops=true) {s:List (Nat × AV)} (hfp:ImmOk F s):Psi4 F D ops s (List.range ops.size):=⟨hfp,fun i _ o ho t ht hl=>by
 have hi:i < ops.size:=(Array.getElem?_eq_some_iff.1 ho).1
 have:=List.all_eq_true.1 h i (by simpa using hi)
 rw[ho] at this
 simp only[Bool.and_eq_true] at this
 have:=this.1.1.2
 rw[ht] at this
 simp only[Bool.or_eq_true,Bool.not_eq_true',List.any_eq_true,List.mem_range] at this
 rcases this with (h' | h')|⟨j,hj,h'⟩
 ·rw[hl] at h';cases h'
 ·exact .inl (hfp t (by simpa using h'))
 ·split at h'
  ·rename_i q hq
   simp only[beq_iff_eq] at h'
   exact .inr ⟨j,by simp;omega,hj,q,hq,h'⟩
  ·cases h'⟩
theorem any_ok4 [Vars] (r:Option Nat) (hok:qO F D P ops=true) {w0:World} {G0:Gh} {fl base:Nat} (hfl:fl≤base) {K:St→Prop} (hK:∀a b,Eqv a b→K a→K b) {Q:Exit→Act→World→Prop}
  (hQ:∀G st a w,RSim w0 G0 fl base [] G st a w→K st→Q .normal a w):∀(fuel:Nat) (rem:List Nat) (listed:Array Bool) (G:Gh) (st:St) (a:Act) (w:World),
  rem.length≤fuel→rem.Pairwise (·< ·)→listed.size=ops.size→(∀j,j ∈ rem↔j < ops.size∧listed.getD j true=false)→
  (∀(i:Nat) o,ops[i]? = some o→listed.getD i false=true→∀e ∈ o.after,Region.binds .any e=true→listed.getD e.on false=true)→
  RSim w0 G0 fl base rem G st a w→Psi4 F D ops st.s rem→zw P ops base K rem st→wpAnyIn (FR r) 0 P .any ops Q fuel listed a w:=by
 intro fuel
 induction fuel with
 | zero=>
  intro rem listed G st a w hf hs hsz hr hd S hpsi h
  have:rem=[]:=List.length_eq_zero_iff.1 (by omega)
  subst this
  refine⟨?_,hQ G st a w S h⟩
  cases hrd:Region.ready .any ops listed with
  | nil=>rfl
  | cons i r=>
   obtain⟨h1,h2,_⟩:=Zq (by rw[hrd];simp:i ∈ Region.ready .any ops listed)
   have:=(hr i).2 ⟨h1,h2⟩
   simp at this
 | succ fuel ih=>
  intro rem listed G st a w hf hs hsz hr hd S hpsi h
  refine⟨fun hnil=>?_,fun i hi=>?_⟩
  ·cases rem with
   | nil=>exact hQ G st a w S h
   | cons i r=>
    exfalso
    obtain⟨hi1,hi2⟩:=(hr i).1 (by simp)
    have hready:i ∈ Region.ready .any ops listed:=by
     simp only[Region.ready,List.mem_filter,List.mem_range,Bool.and_eq_true,Bool.not_eq_true']
     refine⟨hi1,hi2,?_⟩
     rw[Array.getElem?_eq_getElem hi1]
     simp only[Option.map_some,Option.getD_some]
     refine Array.all_eq_true_iff_forall_mem.2 fun e he=>?_
     by_cases hb:Region.binds .any e=true
     ·have hlt:=drawOK4_edge hok (Array.getElem?_eq_getElem hi1) e he hb
      have:listed.getD e.on false=true:=by
       have hne:e.on ∉ i :: r:=by
        intro hm
        rcases List.mem_cons.1 hm with h' | h'
        ·omega
        ·have:=(List.pairwise_cons.1 hs).1 _ h';omega
       have h3:¬(e.on < ops.size∧listed.getD e.on true=false):=fun h'=>hne ((hr _).2 h')
       have hlt2:e.on < listed.size:=by omega
       simp only[Array.getD_eq_getD_getElem?,Array.getElem?_eq_getElem hlt2,Option.getD_some] at h3 ⊢
       cases hv:listed[e.on] with
       | true=>rfl
       | false=>exact absurd ⟨by omega,hv⟩ h3
      simp[this]
     ·simp[hb]
    rw[hnil] at hready
    cases hready
  ·obtain⟨h1,h2,o,ho,h3⟩:=Zq hi
   have hmem:=(hr i).2 ⟨h1,h2⟩
   obtain⟨l1,l2,hl⟩:=List.append_of_mem hmem
   subst hl
   have hnd:(l1 ++ i :: l2).Nodup:=hs.imp (fun h=>Nat.ne_of_lt h)
   have hpw:=List.pairwise_append.1 hs
   have hcomm:∀p ∈ l1,∀q,ops[p]? = some q→qv F D P ops q o=true:=by
    intro p hp q hq
    have hpi:p < i:=hpw.2.2 p hp i (by simp)
    refine drawOK4_comm hok ho hq hpi ?_
    have hgood:=qk (ops:=ops.toList) (listed:=fun j=>listed.getD j false=true) (fun j o' hj hl e he hb=>hd j o' (by simpa using hj) hl e he hb) ops.toList [] rfl (by simp) (fun j m hm=>by simp at hm)
    cases hb:((jO [] ops.toList).getD i 0).testBit p with
    | false=>rfl
    | true=>
     exfalso
     have hlen:i < (jO [] ops.toList).length:=by rw[jb];simpa using h1
     rw[List.getD_eq_getElem?_getD,List.getElem?_eq_getElem hlen] at hb
     have hlp:=hgood i _ (List.getElem?_eq_getElem hlen) o (by simpa using ho) h3 p (by simpa using hb)
     obtain⟨p1,p2⟩:=(hr p).1 (by simp[hp])
     have hps:p < listed.size:=by omega
     simp only[Array.getD_eq_getD_getElem?,Array.getElem?_eq_getElem hps,Option.getD_some] at hlp p2
     rw[p2] at hlp;cases hlp
   have hTd:∀p ∈ l1,∀q,ops[p]? = some q→∀d,q.dst=some d→d ∉ o.looksAt ops:=by
    intro p hp q hq d hd'
    have:=hcomm p hp q hq
    simp only[qv,Bool.and_eq_true] at this
    exact (Oper.apart_spec this.1).1 d hd'
   obtain⟨st1,r1,r2,r2p,r3⟩:=real_run4 (drawOK4_w hok) hfl l1 S hs hTd hpsi h
   simp only[zw,ho] at r3
   have hfacts:∀p ∈ l1,p≠i∧∀q,ops[p]? = some q→qv F D P ops q o=true∧Facts4 F D P ops st (base + p) (base + i) q o:=by
    intro p hp
    have hpi:p < i:=hpw.2.2 p hp i (by simp)
    refine⟨by omega,fun q hq=>⟨hcomm p hp q hq,⟨by omega,fun x hx hcd off e=>?_,fun hcd=>?_,fun hca=>?_,by rw[←r1];exact r3.1⟩,fun hca=>?_,fun hca=>?_⟩⟩
    ·have:=Qm S.sim.inv.oth.vars S.sim.slots x
     rw[e] at this
     simp only[Rv] at this
     obtain⟨_,_,_,hreg,_⟩:=this
     rw[(S.names p (by simp[hp])).1] at hreg;cases hreg
    ·cases hh:st.h (base + i) with
     | none=>rfl
     | some ob=>
      obtain⟨_,hreg⟩:=(S.sim.inv.obj _ _ hh).hasReg
      rw[(S.names i (by simp)).1] at hreg;cases hreg
    ·obtain⟨X,hX⟩:=f_a (ops:=ops) hca st.s
     have hv:=r3.2
     rw[Zc (by rw[hca];simp),Zn (s':=st.s) (fun t ht=>r2 t ht),hX] at hv
     cases X with
     | none=>exact hv.elim
     | some x=>exact⟨x,fun nm h=>by rw[hX];rfl⟩
    ·obtain⟨hw,_,_,X,hX⟩:=f_ld4 (P:=P) (ops:=ops) hca (Psi4.at (r2p.head (List.pairwise_append.1 hs).2.1 ho) hca)
     have hv:=r3.2
     rw[Zc hw,hX] at hv
     cases X with
     | none=>exact hv.elim
     | some x=>exact⟨x,fun nm h=>by rw[←Zn (s:=st1.s) (fun t ht=>r2 t ht),hX];rfl⟩
    ·obtain⟨hw,_,hd2,_⟩:=f_ld4 (P:=P) (ops:=ops) hca (Psi4.at (r2p.head (List.pairwise_append.1 hs).2.1 ho) hca)
     exact⟨hw,hd2⟩
   have hsrc:∀t,srcS o.op=some t→fp4 F D t=true→Imm (get st.s t):=fun t ht hl=>by
    rw[←r2 t (src_looks ht)]
    exact r2p.head (List.pairwise_append.1 hs).2.1 ho t ht hl
   have hfr:=front4 (drawOK4_w hok) ho hK l1 st hfacts hs hpsi h
   simp only[zw,ho] at hfr
   have hmove:∀j,j ∈ i :: (l1 ++ l2)→j ∈ l1 ++ i :: l2:=by
    intro j hj
    simp only[List.mem_cons,List.mem_append] at hj ⊢
    rcases hj with rfl | hj | hj
    ·exact .inr (.inl rfl)
    ·exact .inl hj
    ·exact .inr (.inr hj)
   have hnotin:i ∉ l1 ++ l2:=by
    intro hm
    have hnd2:=List.nodup_append.1 hnd
    rcases List.mem_append.1 hm with h' | h'
    ·exact hnd2.2.2 i h' i (by simp) rfl
    ·exact (List.nodup_cons.1 hnd2.2.1).1 h'
   have hres:=op_ok (Q:=Q) (S.sub hmove) hfl hnotin (aOp_keep4 F D hfr) (next:=wpAnyIn (FR r) 0 P .any ops Q fuel (listed.setIfInBounds i true)) ?_ r
   ·unfold wpOpIn
    rw[ho]
    simp only
    split at hres
    ·rename_i hw;rw[if_pos hw];exact hres
    ·rename_i hw;rw[if_neg hw];exact hres
   ·intro G' st' a' w' S' h'
    have hsize:(listed.setIfInBounds i true).size=listed.size:=by simp
    have hget:∀(j:Nat) (d:Bool),(listed.setIfInBounds i true).getD j d=if j=i then (if i < listed.size then true else d) else listed.getD j d:=by
     intro j d
     simp only[Array.getD_eq_getD_getElem?,Array.getElem?_setIfInBounds]
     by_cases hji:i=j
     ·subst hji;by_cases hh:i < listed.size <;> simp[hh]
     ·rw[if_neg hji,if_neg (Ne.symm hji)]
    have hil:i < listed.size:=by omega
    refine ih (l1 ++ l2) _ G' st' a' w' ?_ ?_ ?_ (fun j=>?_) (fun j o' hj hl e he hb=>?_) S' (hpsi.step (drawOK4_w hok) ho h'.2.2.1 (fun e=>h'.2.2.2.2.2 e hsrc) (fun x hx=>by simp only[List.mem_append,List.mem_cons] at hx ⊢;rcases hx with h | h;exact .inl h;exact .inr (.inr h)) (fun x hx hne=>by simp only[List.mem_append,List.mem_cons] at hx ⊢;rcases hx with h | h | h;exact .inl h;exact absurd h hne;exact .inr h)) h'.1
    ·simp only[List.length_append,List.length_cons] at hf ⊢;omega
    ·exact List.pairwise_append.2 ⟨hpw.1,(List.pairwise_cons.1 hpw.2.1).2,fun x hx y hy=>hpw.2.2 x hx y (by simp[hy])⟩
    ·rw[hsize];exact hsz
    ·rw[hget]
     have hrj:=hr j
     by_cases hji:j=i
     ·subst hji
      simp only[if_true,hil]
      constructor
      ·intro hm;exact absurd hm hnotin
      ·rintro⟨_,hc⟩;cases hc
     ·rw[if_neg hji,←hrj]
      simp only[List.mem_append,List.mem_cons]
      constructor
      ·rintro (h' | h')
       ·exact .inl h'
       ·exact .inr (.inr h')
      ·rintro (h' | h' | h')
       ·exact .inl h'
       ·exact absurd h' hji
       ·exact .inr h'
    ·rw[hget] at hl ⊢
     by_cases hei:e.on=i
     ·simp[hei,hil]
     ·rw[if_neg hei]
      by_cases hji:j=i
      ·subst hji
       rw[ho] at hj;cases hj
       exact h3 e he hb
      ·rw[if_neg hji] at hl
       exact hd j o' hj hl e he hb
theorem ac_draw4 [Vars] {fl:Nat} {Q:Exit→St→Prop} {st:St} {id:Nat} (hm:P.follows .mixedOrders=true) (hok:qO F D P ops=true) (hfp:ImmOk F st.s) (h:zw P ops st.n (Q .normal) (List.range ops.size) {st with n:=st.n + ops.size}):zi P fl (.region id ops true) Q st:=by
 intro r w0 G a w hr S hf
 have S':Sim w0 G st a w.drew:=⟨S.inv.drew,S.size,S.defers,S.slots,S.fresh⟩
 have hQ:∀(G':Gh) (s:St) (a':Act) (w':World),RSim w0 G fl st.n [] G' s a' w'→(∃s0,Eqv s0 s∧Q .normal s0)→∃G'' st',Ext fl G G''∧fl≤st'.n∧Sim w0 G'' st' a' w'∧Q .normal st':=by
  rintro G' s a' w' S1 ⟨s0,e1,e2⟩
  exact⟨G',s0,S1.ext,by rw[e1.2.2.1];exact S1.lim,⟨by rw[e1.2.1];exact S1.sim.inv,by rw[e1.1];exact S1.sim.size,S1.sim.defers,fun t=>by rw[e1.2.2.2];exact S1.sim.slots t,by rw[e1.2.2.1];exact S1.sim.fresh⟩,e2⟩
 refine wpIn_region_any hm (any_ok4 r hok (base:=st.n) (G0:=G) (w0:=w0) hf (K:=fun s=>∃s0,Eqv s0 s∧Q .normal s0) (fun a b e ⟨s0,e1,e2⟩=>⟨s0,e1.trans e,e2⟩) hQ ops.size (List.range ops.size) (Array.replicate ops.size false) G _ a w.drew
  (by simp) List.pairwise_lt_range (by simp) (fun j=>?_) (fun i o ho hl=>?_) (ZV S' hf ops.size _ (fun j hj=>by simpa using hj)) (drawOK4_psi hok hfp) (qM (fun s hs=>⟨s,Eqv.refl s,hs⟩) _ _ h))
 ·simp only[List.mem_range]
  constructor
  ·intro hj;exact⟨hj,by simp[Array.getD_eq_getD_getElem?,hj]⟩
  ·exact fun h=>h.1
 ·exfalso
  have hi:i < ops.size:=(Array.getElem?_eq_some_iff.1 ho).1
  simp[Array.getD_eq_getD_getElem?,hi] at hl
end
theorem J5 [Vars] (F D:List Nat) {P:Program} {fl:Nat} {Q:Exit→St→Prop} {st:St} {id:Nat} {ops:Array Oper} (hm:P.follows .mixedOrders=true) (hok:qO F D P ops=true) (hfp:ImmOk F st.s) (h:∀K:St→Prop,zC (∀s,Q .normal s→K s)→JO P ops st.n K 0 ops.toList {st with n:=st.n + ops.size}):zi P fl (.region id ops true) Q st:=by
 refine ac_draw4 hm hok hfp ?_
 have:=J9 ops.toList 0 rfl _ (h _ fun _ h=>h)
 rwa [←List.range_eq_range',Array.length_toList] at this
end Go.AM
namespace Du
end Du
namespace Go.AM
open Go.Proofs Cw Du Go.RowKit
set_option maxRecDepth 10000
set_option maxHeartbeats 4000000
end Go.AM
namespace Go.AM
open Go.Proofs Cw Du Go.RowKit
set_option maxRecDepth 10000
set_option maxHeartbeats 4000000
end Go.AM
