/- The abstract machine: quiet regions; a function run on known arguments. Conditions: as each theorem says. -/
import Derived.LoopNIn
import Derived.Test.YtabidiilbgakoaaGreatDoorAme
namespace Go.AM
open Go.RowKit
def qOK (ops:Array Oper):Bool:=(List.range ops.size).all fun i=>match ops[i]? with
 | none=>false
 | some o=>((o.looksAt ops).all fun t=>(List.range ops.size).all fun j=>match ops[j]? with
   | none=>false
   | some q=>q.dst != some t || (decide (j < i) && o.after.toList.any fun e=>e.on == j && Region.binds .any e) || (decide (i < j) && q.after.toList.any fun e=>e.on == i && Region.binds .any e)) &&
  ((List.range i).all fun j=>match ops[j]? with
    | none=>false
    | some q=>q.dst == none || q.dst != o.dst) &&
  o.after.toList.all fun e=>!Region.binds .any e || decide (e.on < i)
def pS (d:Option Tmp) (x:AV) (s:List (Nat × AV)):List (Nat × AV):=match d with
 | some t=>(t,x) :: s
 | none=>s
theorem put_pS (nt n:Nat) (s:List (Nat × AV)) (h:zI) (d:Option Tmp) (x:AV):put ⟨nt,s,h,n⟩ d x=⟨nt,pS d x s,h,n⟩:=by
 cases d <;> rfl
theorem Qh {d:Option Tmp} {x:AV} {s:List (Nat × AV)} {t:Tmp} (h:d≠some t):get (pS d x s) t=get s t:=by
 cases d with
 | none=>rfl
 | some u=>
  simp only[pS,get]
  rw[if_neg (fun e=>h (by rw[e]))]
theorem get_pS {x:AV} {s:List (Nat × AV)} {t:Tmp}:get (pS (some t) x s) t=x:=by simp[pS,get]
section
variable {P : Program} {ops : Array Oper}
def ZA (ops:Array Oper) (S0:List (Nat × AV)) (X:Nat→AV):Nat→List (Nat × AV)
 | 0=>S0
 | i + 1=>match ops[i]? with
  | some o=>pS o.dst (X i) (ZA ops S0 X i)
  | none=>ZA ops S0 X i
theorem jJ {S0:List (Nat × AV)} {X Y:Nat→AV}:∀(i:Nat),(∀j,j < i→X j=Y j)→ZA ops S0 X i=ZA ops S0 Y i
 | 0,_=>rfl
 | i + 1,h=>by
  simp only[ZA]
  rw[jJ i fun j hj=>h j (by omega),h i (by omega)]
def aQ [Vars] (P:Program) (ops:Array Oper) (base nt:Nat) (h:zI) (n:Nat) (K:List (Nat × AV)→Prop):Nat→List Oper→List (Nat × AV)→Prop
 | _,[],s=>K s
 | i,o :: r,s=>Zh nt o.dst=true∧∃x,Zx P ops (base + i) o s h n (fun x' h' n'=>x'=x∧h'=h∧n'=n)∧aQ P ops base nt h n K (i + 1) r (pS o.dst x s)
def QF [Vars] (P:Program) (ops:Array Oper) (base nt:Nat) (h:zI) (n:Nat) (S0:List (Nat × AV)) (X:Nat→AV) (i:Nat) (o:Oper):Prop:=
 Zh nt o.dst=true∧Zx P ops (base + i) o (ZA ops S0 X i) h n (fun x' h' n'=>x'=X i∧h'=h∧n'=n)
theorem aQ_facts [Vars] {base nt:Nat} {h:zI} {n:Nat} {K:List (Nat × AV)→Prop} {S0:List (Nat × AV)}:∀(l:List Oper) (i:Nat) (X0:Nat→AV),ops.toList.drop i=l→aQ P ops base nt h n K i l (ZA ops S0 X0 i)→
  ∃X,(∀j,j < i→X j=X0 j)∧(∀j o,i≤j→ops[j]? = some o→QF P ops base nt h n S0 X j o)∧K (ZA ops S0 X ops.size)
 | [],i,X0,hd,hq=>by
  have hle:ops.size≤i:=by
   have:=congrArg List.length hd
   rw[List.length_drop,Array.length_toList] at this
   simp at this;omega
  refine⟨X0,fun _ _=>rfl,fun j o hj ho=>?_,?_⟩
  ·have:=(Array.getElem?_eq_some_iff.1 ho).1;omega
  ·have:∀k,ZA ops S0 X0 (ops.size + k)=ZA ops S0 X0 ops.size:=by
    intro k
    induction k with
    | zero=>rfl
    | succ k ih=>rw[←Nat.add_assoc];simp only[ZA];rw[Array.getElem?_eq_none (by omega)];exact ih
   have e:=this (i - ops.size)
   rw[show ops.size + (i - ops.size)=i by omega] at e
   rw[←e];exact hq
 | o :: r,i,X0,hd,hq=>by
  obtain⟨h1,x,h2,h3⟩:=hq
  have hi:ops[i]? = some o:=by
   have:=congrArg List.head? hd
   rw[List.head?_drop] at this
   simpa using this
  have hd2:ops.toList.drop (i + 1)=r:=by
   have:=congrArg List.tail hd
   rw[List.tail_drop] at this
   simpa using this
  obtain⟨X1,hX1⟩:∃X1:Nat→AV,X1=fun j=>if j=i then x else X0 j:=⟨_,rfl⟩
  have e0:ZA ops S0 X1 i=ZA ops S0 X0 i:=jJ i fun j hj=>by rw[hX1];simp only;rw[if_neg (by omega)]
  have e1:X1 i=x:=by rw[hX1];simp
  have e2:ZA ops S0 X1 (i + 1)=pS o.dst x (ZA ops S0 X0 i):=by
   simp only[ZA];rw[hi,e0,e1]
  rw[←e2] at h3
  obtain⟨X,g1,g2,g3⟩:=aQ_facts r (i + 1) X1 hd2 h3
  have eX:ZA ops S0 X i=ZA ops S0 X0 i:=by rw[←e0];exact jJ i fun j hj=>g1 j (by omega)
  refine⟨X,fun j hj=>?_,fun j o' hj ho'=>?_,g3⟩
  ·rw[g1 j (by omega),hX1];simp only;rw[if_neg (by omega)]
  ·by_cases hji:j=i
   ·subst hji
    rw[hi] at ho';cases ho'
    refine⟨h1,?_⟩
    rw[eX,g1 j (by omega),e1];exact h2
   ·exact g2 j o' (by omega) ho'
theorem qOK_look (hok:qOK ops=true) {i:Nat} {o:Oper} (ho:ops[i]? = some o) {t:Tmp} (ht:t ∈ o.looksAt ops) {j:Nat} {q:Oper} (hq:ops[j]? = some q) (hd:q.dst=some t):(j < i∧∃e ∈ o.after,e.on=j∧Region.binds .any e=true)∨(i < j∧∃e ∈ q.after,e.on=i∧Region.binds .any e=true):=by
 have hi:=(Array.getElem?_eq_some_iff.1 ho).1
 have hj:=(Array.getElem?_eq_some_iff.1 hq).1
 have h1:=List.all_eq_true.1 hok i (by simpa using hi)
 rw[ho] at h1
 simp only[Bool.and_eq_true] at h1
 have h2:=List.all_eq_true.1 h1.1.1 t ht
 have h3:=List.all_eq_true.1 h2 j (by simpa using hj)
 rw[hq] at h3
 simp only[hd,bne_self_eq_false,Bool.false_or,Bool.or_eq_true,Bool.and_eq_true,decide_eq_true_eq,List.any_eq_true,beq_iff_eq] at h3
 rcases h3 with ⟨h4,e,h5,h6,h7⟩ | ⟨h4,e,h5,h6,h7⟩
 ·exact .inl ⟨h4,e,by simpa using h5,h6,h7⟩
 ·exact .inr ⟨h4,e,by simpa using h5,h6,h7⟩
theorem qOK_dst (hok:qOK ops=true) {i j:Nat} {o q:Oper} (ho:ops[i]? = some o) (hq:ops[j]? = some q) {t:Tmp} (h1:o.dst=some t) (h2:q.dst=some t):i=j:=by
 have key:∀{i j:Nat} {o q:Oper},ops[i]? = some o→ops[j]? = some q→o.dst=some t→q.dst=some t→¬j < i:=by
  intro i j o q ho hq h1 h2 hlt
  have hi:=(Array.getElem?_eq_some_iff.1 ho).1
  have h3:=List.all_eq_true.1 hok i (by simpa using hi)
  rw[ho] at h3
  simp only[Bool.and_eq_true] at h3
  have h4:=List.all_eq_true.1 h3.1.2 j (by simpa using hlt)
  rw[hq] at h4
  simp[h1,h2] at h4
 have:=key ho hq h1 h2
 have:=key hq ho h2 h1
 omega
theorem qOK_edge (hok:qOK ops=true) {i:Nat} {o:Oper} (ho:ops[i]? = some o):∀e ∈ o.after,Region.binds .any e=true→e.on < i:=by
 intro e he hb
 have hi:=(Array.getElem?_eq_some_iff.1 ho).1
 have h1:=List.all_eq_true.1 hok i (by simpa using hi)
 rw[ho] at h1
 simp only[Bool.and_eq_true] at h1
 have:=List.all_eq_true.1 h1.2 e (by simpa using he)
 simpa [hb] using this
theorem Jf [Vars] {S0:List (Nat × AV)} {X:Nat→AV} {t:Tmp}:∀(i:Nat),(∀j q,j < i→ops[j]? = some q→q.dst≠some t)→get (ZA ops S0 X i) t=get S0 t
 | 0,_=>rfl
 | i + 1,h=>by
  simp only[ZA]
  cases ho:ops[i]? with
  | none=>exact Jf i fun j q hj=>h j q (by omega)
  | some o=>
   simp only
   rw[Qh (h i o (by omega) ho)]
   exact Jf i fun j q hj=>h j q (by omega)
theorem QX [Vars] (hok:qOK ops=true) {S0:List (Nat × AV)} {X:Nat→AV} {t:Tmp} {j:Nat} {q:Oper} (hq:ops[j]? = some q) (hd:q.dst=some t):∀(i:Nat),j < i→get (ZA ops S0 X i) t=X j
 | 0,h=>absurd h (Nat.not_lt_zero j)
 | i + 1,h=>by
  simp only[ZA]
  cases ho:ops[i]? with
  | none=>
   have h2:=(Array.getElem?_eq_some_iff.1 hq).1
   have h3:ops.size≤i:=Array.getElem?_eq_none_iff.1 ho
   exact QX hok hq hd i (by omega)
  | some o=>
   simp only
   by_cases e:i=j
   ·subst e
    rw[ho] at hq;cases hq
    rw[hd];exact get_pS
   ·rw[Qh fun e2=>e (qOK_dst hok ho hq e2 hd)]
    exact QX hok hq hd i (by omega)
structure SI (ops:Array Oper) (S0:List (Nat × AV)) (X:Nat→AV) (listed:Array Bool) (s:List (Nat × AV)):Prop where
 done:∀t j o,ops[j]? = some o→o.dst=some t→listed.getD j false=true→get s t=X j
 not:∀t,(∀j o,ops[j]? = some o→o.dst=some t→listed.getD j false=false)→get s t=get S0 t
 wait:∀(j:Nat) (q:Oper),ops[j]? = some q→listed.getD j false=true→∀e ∈ q.after,Region.binds .any e=true→listed.getD e.on false=true
theorem SI.agree [Vars] (hok:qOK ops=true) {S0:List (Nat × AV)} {X:Nat→AV} {listed:Array Bool} {s:List (Nat × AV)} (I:SI ops S0 X listed s) {i:Nat} {o:Oper} (ho:ops[i]? = some o)
  (hr:∀e ∈ o.after,Region.binds .any e=true→listed.getD e.on false=true) (hn:listed.getD i true=false):agreeOn (o.looksAt ops) (ZA ops S0 X i) s:=by
 intro t ht
 by_cases hx:∃(j:Nat) (q:Oper),ops[j]? = some q∧q.dst=some t
 ·obtain⟨j,q,hq,hd⟩:=hx
  rcases qOK_look hok ho ht hq hd with ⟨h1,e,h2,h3,h4⟩ | ⟨h1,e,h2,h3,h4⟩
  ·rw[QX hok hq hd i h1,I.done t j q hq hd (by rw[←h3];exact hr e h2 h4)]
  ·rw[Jf i fun j' q' hj' hq' hd'=>by have:=qOK_dst hok hq' hq hd' hd;omega,I.not t fun j' q' hq' hd'=>?_]
   have ej:=qOK_dst hok hq' hq hd' hd
   subst ej
   cases hv:listed.getD j' false with
   | false=>rfl
   | true=>
    rw[hq'] at hq;cases hq
    have h5:=I.wait j' _ hq' hv e h2 h4
    rw[h3] at h5
    simp only[Array.getD_eq_getD_getElem?] at h5 hn
    cases hz:listed[i]? with
    | none=>rw[hz] at hn;simp at hn
    | some z=>rw[hz] at hn h5;simp only[Option.getD_some] at hn h5;rw[hn] at h5;cases h5
 ·rw[Jf i fun j q _ hq hd=>hx ⟨j,q,hq,hd⟩,I.not t fun j q hq hd=>absurd ⟨j,q,hq,hd⟩ hx]
theorem SI.step [Vars] (hok:qOK ops=true) {S0:List (Nat × AV)} {X:Nat→AV} {listed:Array Bool} {s:List (Nat × AV)} (I:SI ops S0 X listed s) {i:Nat} {o:Oper} (ho:ops[i]? = some o) (hl:i < listed.size) (hr:∀e ∈ o.after,Region.binds .any e=true→listed.getD e.on false=true) :
  SI ops S0 X (listed.setIfInBounds i true) (pS o.dst (X i) s):=by
 have hget:∀j,(listed.setIfInBounds i true).getD j false=if i=j then true else listed.getD j false:=by
  intro j
  simp only[Array.getD_eq_getD_getElem?,Array.getElem?_setIfInBounds]
  by_cases e:i=j
  ·subst e;simp[hl]
  ·simp[e]
 constructor
 ·intro t j q hq hd hj
  rw[hget] at hj
  by_cases e:i=j
  ·subst e
   rw[ho] at hq;cases hq
   rw[hd];exact get_pS
  ·rw[if_neg e] at hj
   rw[Qh fun e2=>e (qOK_dst hok ho hq e2 hd)]
   exact I.done t j q hq hd hj
 ·intro t h
  have hne:o.dst≠some t:=by
   intro e
   have:=h i o ho e
   rw[hget,if_pos rfl] at this
   cases this
  rw[Qh hne]
  refine I.not t fun j q hq hd=>?_
  have:=h j q hq hd
  rw[hget] at this
  by_cases e:i=j
  ·rw[if_pos e] at this;cases this
  ·rw[if_neg e] at this;exact this
 ·intro j q hq hj e he hb
  rw[hget]
  by_cases e3:i=e.on
  ·rw[if_pos e3]
  ·rw[if_neg e3]
   rw[hget] at hj
   by_cases e2:i=j
   ·subst e2
    rw[ho] at hq;cases hq
    exact hr e he hb
   ·rw[if_neg e2] at hj
    exact I.wait j q hq hj e he hb
theorem quiet_ok [Vars] (r:Option Nat) (hok:qOK ops=true) {w0:World} {G0:Gh} {fl base nt n:Nat} {h:zI} {S0:List (Nat × AV)} {X:Nat→AV} (hfl:fl≤base) {Q:Exit→Act→World→Prop} (hF:∀i o,ops[i]? = some o→QF P ops base nt h n S0 X i o)
  (hQ:∀G s a w,RSim w0 G0 fl base [] G ⟨nt,s,h,n⟩ a w→(∀t,get s t=get (ZA ops S0 X ops.size) t)→Q .normal a w):∀(fuel:Nat) (rem:List Nat) (listed:Array Bool) (G:Gh) (s:List (Nat × AV)) (a:Act) (w:World),
  rem.length≤fuel→rem.Pairwise (·< ·)→(∀j,j ∈ rem↔j < ops.size∧listed.getD j true=false)→listed.size=ops.size→SI ops S0 X listed s→
  RSim w0 G0 fl base rem G ⟨nt,s,h,n⟩ a w→wpAnyIn (FR r) 0 P .any ops Q fuel listed a w:=by
 intro fuel
 have hend:∀(listed:Array Bool) (G:Gh) (s:List (Nat × AV)) (a:Act) (w:World),(∀j,j ∈ ([]:List Nat)↔j < ops.size∧listed.getD j true=false)→listed.size=ops.size→SI ops S0 X listed s→RSim w0 G0 fl base [] G ⟨nt,s,h,n⟩ a w→Q .normal a w:=by
  intro listed G s a w hr hsz I S
  refine hQ G s a w S fun t=>?_
  have hl:∀j,j < ops.size→listed.getD j false=true:=by
   intro j hj
   have h1:¬(j < ops.size∧listed.getD j true=false):=fun h=>by have:=(hr j).2 h;simp at this
   have hlt:j < listed.size:=by omega
   simp only[Array.getD_eq_getD_getElem?,Array.getElem?_eq_getElem hlt,Option.getD_some] at h1 ⊢
   cases hv:listed[j] with
   | true=>rfl
   | false=>exact absurd ⟨hj,hv⟩ h1
  by_cases hx:∃(j:Nat) (q:Oper),ops[j]? = some q∧q.dst=some t
  ·obtain⟨j,q,hq,hd⟩:=hx
   have hj:=(Array.getElem?_eq_some_iff.1 hq).1
   rw[QX hok hq hd _ hj,I.done t j q hq hd (hl j hj)]
  ·rw[Jf _ fun j q _ hq hd=>hx ⟨j,q,hq,hd⟩,I.not t fun j q hq hd=>absurd ⟨j,q,hq,hd⟩ hx]
 induction fuel with
 | zero=>
  intro rem listed G s a w hf hs hr hsz I S
  have:rem=[]:=List.length_eq_zero_iff.1 (by omega)
  subst this
  refine⟨?_,hend listed G s a w hr hsz I S⟩
  cases hrd:Region.ready .any ops listed with
  | nil=>rfl
  | cons i r=>
   obtain⟨h1,h2,_⟩:=jr (by rw[hrd];simp:i ∈ Region.ready .any ops listed)
   have:=(hr i).2 ⟨h1,h2⟩
   simp at this
 | succ fuel ih=>
  intro rem listed G s a w hf hs hr hsz I S
  refine⟨fun hnil=>?_,fun i hi=>?_⟩
  ·cases rem with
   | nil=>exact hend listed G s a w hr hsz I S
   | cons i r=>
    exfalso
    obtain⟨hi1,hi2⟩:=(hr i).1 (by simp)
    have hready:i ∈ Region.ready .any ops listed:=by
     simp only[Region.ready,List.mem_filter,List.mem_range,Bool.and_eq_true,Bool.not_eq_true']
     refine⟨hi1,hi2,?_⟩
     rw[Array.getElem?_eq_getElem hi1]
     simp only[Option.map_some,Option.getD_some]
     refine Array.all_eq_true_iff_forall_mem.2 fun e he=>?_
     by_cases hb:Region.binds .any e=true
     ·have hlt:=qOK_edge hok (Array.getElem?_eq_getElem hi1) e he hb
      have:listed.getD e.on false=true:=by
       have hne:e.on ∉ i :: r:=by
        intro hm
        rcases List.mem_cons.1 hm with h' | h'
        ·omega
        ·have:=(List.pairwise_cons.1 hs).1 _ h';omega
       have h3:¬(e.on < ops.size∧listed.getD e.on true=false):=fun h'=>hne ((hr _).2 h')
       have hlt2:e.on < listed.size:=by omega
       simp only[Array.getD_eq_getD_getElem?,Array.getElem?_eq_getElem hlt2,Option.getD_some] at h3 ⊢
       cases hv:listed[e.on] with
       | true=>rfl
       | false=>exact absurd ⟨by omega,hv⟩ h3
      simp[this]
     ·simp[hb]
    rw[hnil] at hready
    cases hready
  ·obtain⟨h1,h2,o,ho,h3⟩:=jr hi
   have hirem:i ∈ rem:=(hr i).2 ⟨h1,h2⟩
   have hnd:rem.Nodup:=hs.imp (fun h=>Nat.ne_of_lt h)
   have hmove:∀j,j ∈ i :: rem.erase i→j ∈ rem:=fun j hj=>by
    rcases List.mem_cons.1 hj with rfl | hj
    ·exact hirem
    ·exact List.mem_of_mem_erase hj
   have hnot:i ∉ rem.erase i:=fun h'=>(hnd.mem_erase_iff.1 h').1 rfl
   obtain⟨f1,f2⟩:=hF i o ho
   have hop:aOp P ops (base + i) o ⟨nt,s,h,n⟩ (fun st'=>st'=⟨nt,pS o.dst (X i) s,h,n⟩):=
    ⟨f1,ZV ((Zc (I.agree hok ho h3 h2)).1 f2) fun x h' n' ⟨e1,e2,e3⟩=>by subst e1;subst e2;subst e3;exact put_pS _ _ _ _ _ _⟩
   have hres:=op_ok (Q:=Q) (S.sub hmove) hfl hnot hop (next:=wpAnyIn (FR r) 0 P .any ops Q fuel (listed.setIfInBounds i true)) ?_ r
   ·unfold wpOpIn
    rw[ho]
    simp only
    split at hres
    ·rename_i hw;rw[if_pos hw];exact hres
    ·rename_i hw;rw[if_neg hw];exact hres
   ·intro G' st' a' w' S' h'
    subst h'
    refine ih (rem.erase i) _ G' _ a' w' ?_ (hs.sublist List.erase_sublist) (fun j=>?_) (by simpa using hsz) (I.step hok ho (by omega) h3) S'
    ·rw[List.length_erase_of_mem hirem];omega
    rw[hnd.mem_erase_iff,hr j]
    have hil:i < listed.size:=by omega
    simp only[Array.getD_eq_getD_getElem?,Array.getElem?_setIfInBounds]
    by_cases hji:i=j
    ·subst hji;simp[hil]
    ·rw[if_neg hji]
     constructor
     ·rintro⟨_,h3⟩;exact h3
     ·intro h3;exact⟨fun e=>hji e.symm,h3⟩
theorem ac_quiet [Vars] {fl:Nat} {Q:Exit→St→Prop} {st:St} {id:Nat} (hm:P.follows .mixedOrders=true) (hok:qOK ops=true)
  (h:aQ P ops st.n st.nt st.h (st.n + ops.size) (fun s=>Q .normal ⟨st.nt,s,st.h,st.n + ops.size⟩) 0 ops.toList st.s):ze P fl (.region id ops true) Q st:=by
 intro r w0 G a w hr S hf
 have S':Sim w0 G st a w.drew:=⟨S.inv.drew,S.size,S.defers,S.slots,S.fresh⟩
 obtain⟨X,_,hF,hK⟩:=aQ_facts (S0:=st.s) ops.toList 0 (fun _=>.undef) rfl h
 refine wpIn_region_any hm (quiet_ok r (base:=st.n) (G0:=G) (w0:=w0) (nt:=st.nt) (n:=st.n + ops.size) (h:=st.h) (S0:=st.s) (X:=X) hok hf (fun i o ho=>hF i o (Nat.zero_le i) ho) (fun G' s a' w' S1 hq=>?_) ops.size (List.range ops.size) _ G st.s a w.drew (by simp) (List.pairwise_lt_range) (fun j=>?_) (by simp) ?_ (ZD S' hf ops.size _ (fun j hj=>by simpa using hj)))
 ·refine⟨G',⟨st.nt,ZA ops st.s X ops.size,st.h,st.n + ops.size⟩,S1.ext,S1.lim,⟨S1.sim.inv,S1.sim.size,S1.sim.defers,fun t=>?_,S1.sim.fresh⟩,hK⟩
  have:=S1.sim.slots t
  rw[hq t] at this
  exact this
 ·simp only[List.mem_range]
  constructor
  ·intro hj;exact⟨hj,by simp[Array.getD_eq_getD_getElem?,hj]⟩
  ·exact fun h=>h.1
 ·refine⟨fun t j o hj _ hl=>?_,fun t _=>rfl,fun j q hj hl=>?_⟩
  ·have hj':=(Array.getElem?_eq_some_iff.1 hj).1
   simp[Array.getD_eq_getD_getElem?,hj'] at hl
  ·have hj':=(Array.getElem?_eq_some_iff.1 hj).1
   simp[Array.getD_eq_getD_getElem?,hj'] at hl
end
end Go.AM
namespace Go.AM
open Go.RowKit
def chOK (E:List Nat) (ops:Array Oper):Bool:=(qOK ops && (List.range E.length).all fun k=>(List.range k).all fun l=>decide (E.getD l 0 < E.getD k 0)) &&
 ((List.range E.length).all fun k=>k == 0 || (match ops[E.getD k 0]? with | some o=>o.after.toList.any fun e=>e.on == E.getD (k - 1) 0 && Region.binds .any e | none=>false)) &&
 E.getLast? == some (ops.size - 1) &&
 (List.range (ops.size - 1)).all fun p=>((qV [] ops.toList).getD (ops.size - 1) 0).testBit p
section
variable {P : Program} {ops : Array Oper}
def aC [Vars] (P:Program) (ops:Array Oper) (E:List Nat) (Hp:zI→Prop) (base nt:Nat) (n:Nat) (K:List (Nat × AV)→zI→Prop):Nat→List Oper→List (Nat × AV)→zI→Prop
 | _,[],s,h=>K s h
 | i,o :: r,s,h=>Zh nt o.dst=true∧((i ∈ E∧∃x h2,Zx P ops (base + i) o s h n (fun x' h' n'=>x'=x∧h'=h2∧n'=n)∧(r=[]∨Hp h2)∧aC P ops E Hp base nt n K (i + 1) r (pS o.dst x s) h2)∨
   (i ∉ E∧∃x,(∀h',Hp h'→Zx P ops (base + i) o s h' n (fun x' h2 n'=>x'=x∧h2=h'∧n'=n))∧aC P ops E Hp base nt n K (i + 1) r (pS o.dst x s) h))
def CF [Vars] (P:Program) (ops:Array Oper) (E:List Nat) (Hp:zI→Prop) (base nt:Nat) (n:Nat) (S0:List (Nat × AV)) (X:Nat→AV) (M:Nat→zI) (i:Nat) (o:Oper):Prop:=
 Zh nt o.dst=true∧((i ∈ E∧Zx P ops (base + i) o (ZA ops S0 X i) (M i) n (fun x' h' n'=>x'=X i∧h'=M (i + 1)∧n'=n)∧(i + 1=ops.size∨Hp (M (i + 1))))∨
  (i ∉ E∧M (i + 1)=M i∧∀h',Hp h'→Zx P ops (base + i) o (ZA ops S0 X i) h' n (fun x' h2 n'=>x'=X i∧h2=h'∧n'=n)))
theorem aC_facts [Vars] {E:List Nat} {Hp:zI→Prop} {base nt:Nat} {n:Nat} {K:List (Nat × AV)→zI→Prop} {S0:List (Nat × AV)}:∀(l:List Oper) (i:Nat) (X0:Nat→AV) (M0:Nat→zI),ops.toList.drop i=l→i≤ops.size→aC P ops E Hp base nt n K i l (ZA ops S0 X0 i) (M0 i)→
  ∃X M,(∀j,j < i→X j=X0 j)∧(∀j,j≤i→M j=M0 j)∧(∀j o,i≤j→ops[j]? = some o→CF P ops E Hp base nt n S0 X M j o)∧K (ZA ops S0 X ops.size) (M ops.size)
 | [],i,X0,M0,hd,hi,hq=>by
  have hle:ops.size≤i:=by
   have:=congrArg List.length hd
   rw[List.length_drop,Array.length_toList] at this
   simp at this;omega
  have he:i=ops.size:=by omega
  subst he
  exact⟨X0,M0,fun _ _=>rfl,fun _ _=>rfl,fun j o hj ho=>by have:=(Array.getElem?_eq_some_iff.1 ho).1;omega,hq⟩
 | o :: r,i,X0,M0,hd,hi,hq=>by
  obtain⟨h1,h2⟩:=hq
  have hio:ops[i]? = some o:=by
   have:=congrArg List.head? hd
   rw[List.head?_drop] at this
   simpa using this
  have hlt:=(Array.getElem?_eq_some_iff.1 hio).1
  have hd2:ops.toList.drop (i + 1)=r:=by
   have:=congrArg List.tail hd
   rw[List.tail_drop] at this
   simpa using this
  have hlen:r=[]→i + 1=ops.size:=fun e=>by
   have:=congrArg List.length hd2
   rw[e,List.length_drop,Array.length_toList] at this
   simp at this;omega
  obtain⟨x,m,h3,h4⟩:∃x m,aC P ops E Hp base nt n K (i + 1) r (pS o.dst x (ZA ops S0 X0 i)) m∧((i ∈ E∧Zx P ops (base + i) o (ZA ops S0 X0 i) (M0 i) n (fun x' h' n'=>x'=x∧h'=m∧n'=n)∧(i + 1=ops.size∨Hp m))∨(i ∉ E∧m=M0 i∧∀h',Hp h'→Zx P ops (base + i) o (ZA ops S0 X0 i) h' n (fun x' h2 n'=>x'=x∧h2=h'∧n'=n))):=by
   rcases h2 with ⟨a,x,m,b,c,d⟩ | ⟨a,x,b,c⟩
   ·exact⟨x,m,d,.inl ⟨a,b,c.imp hlen id⟩⟩
   ·exact⟨x,M0 i,c,.inr ⟨a,rfl,b⟩⟩
  obtain⟨X1,hX1⟩:∃X1:Nat→AV,X1=fun j=>if j=i then x else X0 j:=⟨_,rfl⟩
  obtain⟨M1,hM1⟩:∃M1:Nat→zI,M1=fun j=>if j=i + 1 then m else M0 j:=⟨_,rfl⟩
  have e0:ZA ops S0 X1 i=ZA ops S0 X0 i:=jJ i fun j hj=>by rw[hX1];simp only;rw[if_neg (by omega)]
  have e1:X1 i=x:=by rw[hX1];simp
  have e2:ZA ops S0 X1 (i + 1)=pS o.dst x (ZA ops S0 X0 i):=by
   simp only[ZA];rw[hio,e0,e1]
  have e3:M1 (i + 1)=m:=by rw[hM1];simp
  rw[←e2,←e3] at h3
  obtain⟨X,M,g1,g2,g3,g4⟩:=aC_facts r (i + 1) X1 M1 hd2 (by omega) h3
  have eX:ZA ops S0 X i=ZA ops S0 X0 i:=by rw[←e0];exact jJ i fun j hj=>g1 j (by omega)
  have eM:M i=M0 i:=by rw[g2 i (by omega),hM1];simp
  have eM1:M (i + 1)=m:=by rw[g2 (i + 1) (Nat.le_refl _),e3]
  have eXi:X i=x:=by rw[g1 i (by omega),e1]
  refine⟨X,M,fun j hj=>?_,fun j hj=>?_,fun j o' hj ho'=>?_,g4⟩
  ·rw[g1 j (by omega),hX1];simp only;rw[if_neg (by omega)]
  ·rw[g2 j (by omega),hM1];simp only;rw[if_neg (by omega)]
  ·by_cases hji:j=i
   ·subst hji
    rw[hio] at ho';cases ho'
    refine⟨h1,?_⟩
    rw[eX,eM,eM1,eXi]
    exact h4
   ·exact g3 j o' (by omega) ho'
theorem chOK_q {E:List Nat} (hok:chOK E ops=true):qOK ops=true:=by
 simp only[chOK,Bool.and_eq_true] at hok;exact hok.1.1.1.1
theorem Zw {E:List Nat} (hok:chOK E ops=true) {k l a b:Nat} (hk:E[k]? = some b) (hl:E[l]? = some a) (h:l < k):a < b:=by
 simp only[chOK,Bool.and_eq_true] at hok
 have hlt:=(List.getElem?_eq_some_iff.1 hk).1
 have h1:=List.all_eq_true.1 hok.1.1.1.2 k (by simpa using hlt)
 have h2:=List.all_eq_true.1 h1 l (by simpa using h)
 rw[decide_eq_true_eq,List.getD_eq_getElem?_getD,hl,List.getD_eq_getElem?_getD,hk] at h2
 exact h2
theorem chOK_last {E:List Nat} (hok:chOK E ops=true):E.getLast? = some (ops.size - 1):=by
 simp only[chOK,Bool.and_eq_true,beq_iff_eq] at hok;exact hok.1.2
theorem Qy {E:List Nat} (hok:chOK E ops=true) {k i j:Nat} (hj:E[k]? = some j) (hi:E[k + 1]? = some i) {o:Oper} (ho:ops[i]? = some o):∃e ∈ o.after,e.on=j∧Region.binds .any e=true:=by
 simp only[chOK,Bool.and_eq_true] at hok
 have hlt:=(List.getElem?_eq_some_iff.1 hi).1
 have h1:=List.all_eq_true.1 hok.1.1.2 (k + 1) (by simpa using hlt)
 have e1:E.getD (k + 1) 0=i:=by rw[List.getD_eq_getElem?_getD,hi];rfl
 have e2:E.getD (k + 1 - 1) 0=j:=by rw[List.getD_eq_getElem?_getD,Nat.add_sub_cancel,hj];rfl
 rw[e1,e2,ho] at h1
 simp only[Bool.or_eq_true,beq_iff_eq,Nat.add_eq_zero_iff,Nat.one_ne_zero,and_false,false_or,List.any_eq_true,Bool.and_eq_true] at h1
 obtain⟨e,he,h2,h3⟩:=h1
 exact⟨e,by simpa using he,h2,h3⟩
theorem chOK_anc {E:List Nat} (hok:chOK E ops=true) {p:Nat} (hp:p < ops.size - 1):((qV [] ops.toList).getD (ops.size - 1) 0).testBit p=true:=by
 simp only[chOK,Bool.and_eq_true] at hok
 exact List.all_eq_true.1 hok.2 p (by simpa using hp)
section
variable {E : List Nat} {Hp : zI → Prop} {base nt n : Nat} {S0 : List (Nat × AV)} {X : Nat → AV} {M : Nat → zI}
theorem m_const [Vars] (hF:∀i o,ops[i]? = some o→CF P ops E Hp base nt n S0 X M i o) {a:Nat}:∀(d:Nat),a + d≤ops.size→(∀j,a≤j→j < a + d→j ∉ E)→M (a + d)=M a
 | 0,_,_=>rfl
 | d + 1,h,hn=>by
  have ih:=m_const hF (a:=a) d (by omega) fun j h1 h2=>hn j h1 (by omega)
  obtain⟨_,h3⟩:=hF (a + d) ops[a + d] (Array.getElem?_eq_getElem (by omega))
  rcases h3 with ⟨h4,_⟩ | ⟨_,h5,_⟩
  ·exact absurd h4 (hn _ (by omega) (by omega))
  ·rw[←Nat.add_assoc,h5,ih]
theorem m_hp [Vars] (hF:∀i o,ops[i]? = some o→CF P ops E Hp base nt n S0 X M i o) (h0:Hp (M 0)):∀(i:Nat),i < ops.size→Hp (M i)
 | 0,_=>h0
 | i + 1,h=>by
  have ih:=m_hp hF h0 i (by omega)
  obtain⟨_,h3⟩:=hF i ops[i] (Array.getElem?_eq_getElem (by omega))
  rcases h3 with ⟨_,_,h4⟩ | ⟨_,h5,_⟩
  ·rcases h4 with h4 | h4
   ·omega
   ·exact h4
  ·rw[h5];exact ih
def nx (E:List Nat) (sz:Nat) (listed:Array Bool):Nat:=(E.find? fun e=>!listed.getD e false).getD sz
theorem chain_ok [Vars] (r:Option Nat) (hok:chOK E ops=true) {w0:World} {G0:Gh} {fl:Nat} (hfl:fl≤base) {Q:Exit→Act→World→Prop} (hF:∀i o,ops[i]? = some o→CF P ops E Hp base nt n S0 X M i o) (hH0:Hp (M 0))
  (hQ:∀G s a w,RSim w0 G0 fl base [] G ⟨nt,s,M ops.size,n⟩ a w→(∀t,get s t=get (ZA ops S0 X ops.size) t)→Q .normal a w):∀(fuel:Nat) (rem:List Nat) (listed:Array Bool) (G:Gh) (s:List (Nat × AV)) (a:Act) (w:World),
  rem.length≤fuel→rem.Pairwise (·< ·)→(∀j,j ∈ rem↔j < ops.size∧listed.getD j true=false)→listed.size=ops.size→SI ops S0 X listed s→
  (∀(i:Nat) o,ops[i]? = some o→listed.getD i false=true→∀e ∈ o.after,Region.binds .any e=true→listed.getD e.on false=true)→
  RSim w0 G0 fl base rem G ⟨nt,s,M (nx E ops.size listed),n⟩ a w→wpAnyIn (FR r) 0 P .any ops Q fuel listed a w:=by
 have hq:=chOK_q hok
 have hlast:=chOK_last hok
 intro fuel
 have hend:∀(listed:Array Bool) (G:Gh) (s:List (Nat × AV)) (a:Act) (w:World),(∀j,j ∈ ([]:List Nat)↔j < ops.size∧listed.getD j true=false)→listed.size=ops.size→SI ops S0 X listed s→RSim w0 G0 fl base [] G ⟨nt,s,M (nx E ops.size listed),n⟩ a w→Q .normal a w:=by
  intro listed G s a w hr hsz I S
  have hl:∀j,j < ops.size→listed.getD j false=true:=by
   intro j hj
   have h1:¬(j < ops.size∧listed.getD j true=false):=fun h=>by have:=(hr j).2 h;simp at this
   have hlt:j < listed.size:=by omega
   simp only[Array.getD_eq_getD_getElem?,Array.getElem?_eq_getElem hlt,Option.getD_some] at h1 ⊢
   cases hv:listed[j] with
   | true=>rfl
   | false=>exact absurd ⟨hj,hv⟩ h1
  have hnx:M (nx E ops.size listed)=M ops.size:=by
   unfold nx
   cases hf:E.find? fun e=>!listed.getD e false with
   | none=>rfl
   | some e=>
    have h1:=List.find?_some hf
    by_cases he:e < ops.size
    ·rw[hl e he] at h1;cases h1
    ·-- beyond the region: nothing runs there
     have hle:∀k:Nat,∀e,E[k]? = some e→e≤ops.size - 1:=by
      intro k e hk
      have hlt:=(List.getElem?_eq_some_iff.1 hk).1
      rw[List.getLast?_eq_getElem?] at hlast
      by_cases hk2:k=E.length - 1
      ·subst hk2;rw[hk] at hlast;cases hlast;exact Nat.le_refl _
      ·have:=Zw hok hlast hk (by omega);omega
     obtain⟨k,hk⟩:=List.getElem?_of_mem (List.mem_of_find?_eq_some hf)
     have:=hle k e hk
     have h0:ops.size=0:=by omega
     have he0:e=0:=by omega
     simp only[Option.getD_some]
     rw[he0,h0]
  rw[hnx] at S
  refine hQ G s a w S fun t=>?_
  by_cases hx:∃(j:Nat) (q:Oper),ops[j]? = some q∧q.dst=some t
  ·obtain⟨j,q,hq2,hd⟩:=hx
   have hj:=(Array.getElem?_eq_some_iff.1 hq2).1
   rw[QX hq hq2 hd _ hj,I.done t j q hq2 hd (hl j hj)]
  ·rw[Jf _ fun j q _ hq hd=>hx ⟨j,q,hq,hd⟩,I.not t fun j q hq hd=>absurd ⟨j,q,hq,hd⟩ hx]
 induction fuel with
 | zero=>
  intro rem listed G s a w hf hs hr hsz I hd S
  have:rem=[]:=List.length_eq_zero_iff.1 (by omega)
  subst this
  refine⟨?_,hend listed G s a w hr hsz I S⟩
  cases hrd:Region.ready .any ops listed with
  | nil=>rfl
  | cons i r=>
   obtain⟨h1,h2,_⟩:=jr (by rw[hrd];simp:i ∈ Region.ready .any ops listed)
   have:=(hr i).2 ⟨h1,h2⟩
   simp at this
 | succ fuel ih=>
  intro rem listed G s a w hf hs hr hsz I hd S
  refine⟨fun hnil=>?_,fun i hi=>?_⟩
  ·cases rem with
   | nil=>exact hend listed G s a w hr hsz I S
   | cons i r=>
    exfalso
    obtain⟨hi1,hi2⟩:=(hr i).1 (by simp)
    have hready:i ∈ Region.ready .any ops listed:=by
     simp only[Region.ready,List.mem_filter,List.mem_range,Bool.and_eq_true,Bool.not_eq_true']
     refine⟨hi1,hi2,?_⟩
     rw[Array.getElem?_eq_getElem hi1]
     simp only[Option.map_some,Option.getD_some]
     refine Array.all_eq_true_iff_forall_mem.2 fun e he=>?_
     by_cases hb:Region.binds .any e=true
     ·have hlt:=qOK_edge hq (Array.getElem?_eq_getElem hi1) e he hb
      have:listed.getD e.on false=true:=by
       have hne:e.on ∉ i :: r:=by
        intro hm
        rcases List.mem_cons.1 hm with h' | h'
        ·omega
        ·have:=(List.pairwise_cons.1 hs).1 _ h';omega
       have h3:¬(e.on < ops.size∧listed.getD e.on true=false):=fun h'=>hne ((hr _).2 h')
       have hlt2:e.on < listed.size:=by omega
       simp only[Array.getD_eq_getD_getElem?,Array.getElem?_eq_getElem hlt2,Option.getD_some] at h3 ⊢
       cases hv:listed[e.on] with
       | true=>rfl
       | false=>exact absurd ⟨by omega,hv⟩ h3
      simp[this]
     ·simp[hb]
    rw[hnil] at hready
    cases hready
  ·obtain⟨h1,h2,o,ho,h3⟩:=jr hi
   have hirem:i ∈ rem:=(hr i).2 ⟨h1,h2⟩
   have hnd:rem.Nodup:=hs.imp (fun h=>Nat.ne_of_lt h)
   have hmove:∀j,j ∈ i :: rem.erase i→j ∈ rem:=fun j hj=>by
    rcases List.mem_cons.1 hj with rfl | hj
    ·exact hirem
    ·exact List.mem_of_mem_erase hj
   have hnot:i ∉ rem.erase i:=fun h'=>(hnd.mem_erase_iff.1 h').1 rfl
   have hil:i < listed.size:=by omega
   have hif:listed.getD i false=false:=by
    simp only[Array.getD_eq_getD_getElem?,Array.getElem?_eq_getElem hil,Option.getD_some] at h2 ⊢
    exact h2
   have hget:∀j,(listed.setIfInBounds i true).getD j false=if i=j then true else listed.getD j false:=by
    intro j
    simp only[Array.getD_eq_getD_getElem?,Array.getElem?_setIfInBounds]
    by_cases e:i=j
    ·subst e;simp[hil]
    ·simp[e]
   obtain⟨f1,f2⟩:=hF i o ho
   have hop:aOp P ops (base + i) o ⟨nt,s,M (nx E ops.size listed),n⟩ (fun st'=>st'=⟨nt,pS o.dst (X i) s,M (nx E ops.size (listed.setIfInBounds i true)),n⟩):=by
    rcases f2 with ⟨hE,f3,_⟩ | ⟨hE,f3,f4⟩
    ·-- of the chain
     obtain⟨k,hk⟩:=List.getElem?_of_mem hE
     have hpre:∀l a,l < k→E[l]? = some a→listed.getD a false=true:=by
      have step:∀d,∀l a,l + d + 1=k→E[l]? = some a→listed.getD a false=true:=by
       intro d
       induction d with
       | zero=>
        intro l a hl ha
        have hk2:E[l + 1]? = some i:=by rw[show l + 1=k by omega];exact hk
        obtain⟨e,he,e1,e2⟩:=Qy hok ha hk2 ho
        rw[←e1];exact h3 e he e2
       | succ d ih2=>
        intro l a hl ha
        have hl1:l + 1 < E.length:=by have:=(List.getElem?_eq_some_iff.1 hk).1;omega
        have hb:E[l + 1]? = some E[l + 1]:=List.getElem?_eq_getElem hl1
        have hlb:=ih2 (l + 1) _ (by omega) hb
        have hbs:E[l + 1] < ops.size:=by
         have:=Zw hok hk hb (by omega);omega
        obtain⟨e,he,e1,e2⟩:=Qy hok ha hb (Array.getElem?_eq_getElem hbs)
        rw[←e1];exact hd _ _ (Array.getElem?_eq_getElem hbs) hlb e he e2
      intro l a hl ha
      exact step (k - l - 1) l a (by omega) ha
     have hklt:=(List.getElem?_eq_some_iff.1 hk).1
     have hsp:E=E.take k ++ i :: E.drop (k + 1):=by
      have hki:=(List.getElem?_eq_some_iff.1 hk).2
      rw[←hki,List.getElem_cons_drop hklt,List.take_append_drop]
     have htk:∀x ∈ E.take k,listed.getD x false=true:=by
      intro x hx
      obtain⟨l,hl⟩:=List.getElem?_of_mem hx
      have hl2:=(List.getElem?_eq_some_iff.1 hl).1
      rw[List.length_take] at hl2
      rw[List.getElem?_take_of_lt (by omega)] at hl
      exact hpre l x (by omega) hl
     have hn1:nx E ops.size listed=i:=by
      unfold nx
      rw[hsp,List.find?_append,List.find?_eq_none.2 (by intro x hx;rw[htk x hx];simp)]
      simp only[Option.none_or,List.find?_cons,hif,Bool.not_false,Option.getD_some]
     have hdr:∀x ∈ E.drop (k + 1),i < x∧listed.getD x false=false:=by
      intro x hx
      obtain⟨l,hl⟩:=List.getElem?_of_mem hx
      rw[List.getElem?_drop] at hl
      refine⟨Zw hok hl hk (by omega),?_⟩
      have hno:∀d x,E[k + 1 + d]? = some x→listed.getD x false=false:=by
       intro d
       induction d with
       | zero=>
        intro x hx
        cases hv:listed.getD x false with
        | false=>rfl
        | true=>
         have hxs:x < ops.size:=by
          rcases Nat.lt_or_ge x ops.size with h | h
          ·exact h
          ·simp[Array.getD_eq_getD_getElem?,Array.getElem?_eq_none (show listed.size≤x by omega)] at hv
         obtain⟨e,he,e1,e2⟩:=Qy hok hk hx (Array.getElem?_eq_getElem hxs)
         have:=hd _ _ (Array.getElem?_eq_getElem hxs) hv e he e2
         rw[e1,hif] at this;cases this
       | succ d ih2=>
        intro x hx
        obtain⟨y,hb⟩:∃y,E[k + 1 + d]? = some y:=⟨_,List.getElem?_eq_getElem (show k + 1 + d < E.length by have:=(List.getElem?_eq_some_iff.1 hx).1;omega)⟩
        cases hv:listed.getD x false with
        | false=>rfl
        | true=>
         have hxs:x < ops.size:=by
          rcases Nat.lt_or_ge x ops.size with h | h
          ·exact h
          ·simp[Array.getD_eq_getD_getElem?,Array.getElem?_eq_none (show listed.size≤x by omega)] at hv
         obtain⟨e,he,e1,e2⟩:=Qy hok hb (by rw[show k + 1 + d + 1=k + 1 + (d + 1) by omega];exact hx) (Array.getElem?_eq_getElem hxs)
         have:=hd _ _ (Array.getElem?_eq_getElem hxs) hv e he e2
         rw[e1,ih2 _ hb] at this;cases this
      exact hno l x hl
     have hn2:M (nx E ops.size (listed.setIfInBounds i true))=M (i + 1):=by
      unfold nx
      rw[hsp,List.find?_append,List.find?_eq_none.2 (by
       intro x hx
       rw[hget]
       by_cases e:i=x
       ·simp[e]
       ·rw[if_neg e,htk x hx];simp)]
      simp only[Option.none_or,List.find?_cons,hget,if_true,Bool.not_true]
      cases hdl:E.drop (k + 1) with
      | nil=>
       simp only[List.find?_nil,Option.getD_none]
       have hlen:=congrArg List.length hdl
       rw[List.length_drop] at hlen
       simp only[List.length_nil] at hlen
       rw[List.getLast?_eq_getElem?] at hlast
       have:k=E.length - 1:=by omega
       subst this
       rw[hk] at hlast
       cases hlast
       rw[show ops.size - 1 + 1=ops.size by omega]
      | cons x rr=>
       have hx:E[k + 1]? = some x:=by
        have:=congrArg List.head? hdl
        rw[List.head?_drop] at this
        simpa using this
       obtain⟨hx1,hx2⟩:=hdr x (by rw[hdl];simp)
       simp only[List.find?_cons]
       rw[if_neg (by omega),hx2]
       simp only[Bool.not_false,Option.getD_some]
       have hxs:x≤ops.size:=by
        rw[List.getLast?_eq_getElem?] at hlast
        by_cases e:k + 1=E.length - 1
        ·rw[e,hlast] at hx;cases hx;omega
        ·have:=Zw hok hlast hx (by have:=(List.getElem?_eq_some_iff.1 hx).1;omega);omega
       have:=m_const hF (a:=i + 1) (x - (i + 1)) (by omega) (fun j j1 j2 hj=>by
        obtain⟨l,hl⟩:=List.getElem?_of_mem hj
        rcases Nat.lt_trichotomy l k with g | g | g
        ·have:=Zw hok hk hl g;omega
        ·subst g;rw[hk] at hl;cases hl;omega
        ·rcases Nat.lt_trichotomy l (k + 1) with g2 | g2 | g2
         ·omega
         ·subst g2;rw[hx] at hl;cases hl;omega
         ·have:=Zw hok hl hx g2;omega)
       rw[show i + 1 + (x - (i + 1))=x by omega] at this
       exact this
     rw[hn1,hn2]
     exact⟨f1,ZV ((Zc (I.agree hq ho h3 h2)).1 f3) fun x h' n' ⟨e1,e2,e3⟩=>by subst e1;subst e2;subst e3;exact put_pS _ _ _ _ _ _⟩
    ·-- one that leaves memory as it is
     have hne:∀e ∈ E,i≠e:=fun e he e2=>hE (e2 ▸ he)
     have hn1:nx E ops.size (listed.setIfInBounds i true)=nx E ops.size listed:=by
      unfold nx
      have:∀l:List Nat,(∀e ∈ l,i≠e)→l.find? (fun e=>!(listed.setIfInBounds i true).getD e false)=l.find? (fun e=>!listed.getD e false):=by
       intro l
       induction l with
       | nil=>intro _;rfl
       | cons x r ih3=>
        intro hl
        rw[List.find?_cons,List.find?_cons,hget,if_neg (hl x (by simp)),ih3 fun e he=>hl e (by simp[he])]
      rw[this E hne]
     have hlm:ops.size - 1 ∈ E:=List.mem_of_getLast? hlast
     have hil2:i < ops.size - 1:=by
      have:=hne _ hlm
      omega
     have hll:listed.getD (ops.size - 1) false=false:=by
      cases hv:listed.getD (ops.size - 1) false with
      | false=>rfl
      | true=>
       have hsz2:ops.size - 1 < ops.size:=by omega
       have g:=anc_good (ops:=ops.toList) (listed:=fun j=>listed.getD j false=true) (fun j q hq2 hl=>hd j q (by simpa using hq2) hl) ops.toList [] rfl (Nat.zero_le _) (fun a b hab=>by simp at hab)
       have hml:(qV [] ops.toList)[ops.size - 1]? = some ((qV [] ops.toList).getD (ops.size - 1) 0):=by
        have hlen:=qo ops.toList []
        rw[List.getD_eq_getElem?_getD,List.getElem?_eq_getElem (by rw[hlen];simp;omega)]
        rfl
       have hoL:ops.toList[ops.size - 1]? = some ops[ops.size - 1]:=by simp
       have:=g _ _ hml _ hoL (fun e he hb=>hd _ _ (Array.getElem?_eq_getElem hsz2) hv e he hb) i (chOK_anc hok hil2)
       simp only[hif] at this;cases this
     have hnlt:nx E ops.size listed < ops.size:=by
      unfold nx
      cases hf2:E.find? fun e=>!listed.getD e false with
      | none=>
       have:=List.find?_eq_none.1 hf2 _ hlm
       rw[hll] at this;simp at this
      | some e=>
       simp only[Option.getD_some]
       obtain⟨k,hk⟩:=List.getElem?_of_mem (List.mem_of_find?_eq_some hf2)
       rw[List.getLast?_eq_getElem?] at hlast
       by_cases e2:k=E.length - 1
       ·subst e2;rw[hk] at hlast;cases hlast;omega
       ·have:=Zw hok hlast hk (by have:=(List.getElem?_eq_some_iff.1 hk).1;omega);omega
     have hp:=m_hp hF hH0 _ hnlt
     rw[hn1]
     exact⟨f1,ZV ((Zc (I.agree hq ho h3 h2)).1 (f4 _ hp)) fun x h' n' ⟨e1,e2,e3⟩=>by subst e1;subst e2;subst e3;exact put_pS _ _ _ _ _ _⟩
   have hres:=op_ok (Q:=Q) (S.sub hmove) hfl hnot hop (next:=wpAnyIn (FR r) 0 P .any ops Q fuel (listed.setIfInBounds i true)) ?_ r
   ·unfold wpOpIn
    rw[ho]
    simp only
    split at hres
    ·rename_i hw;rw[if_pos hw];exact hres
    ·rename_i hw;rw[if_neg hw];exact hres
   ·intro G' st' a' w' S' h'
    subst h'
    refine ih (rem.erase i) _ G' _ a' w' ?_ (hs.sublist List.erase_sublist) (fun j=>?_) (by simpa using hsz) (I.step hq ho (by omega) h3) (fun j q hq2 hl e he hb=>?_) S'
    ·rw[List.length_erase_of_mem hirem];omega
    ·rw[hnd.mem_erase_iff,hr j]
     simp only[Array.getD_eq_getD_getElem?,Array.getElem?_setIfInBounds]
     by_cases hji:i=j
     ·subst hji;simp[hil]
     ·rw[if_neg hji]
      constructor
      ·rintro⟨_,h3⟩;exact h3
      ·intro h3;exact⟨fun e=>hji e.symm,h3⟩
    ·rw[hget] at hl ⊢
     by_cases e1:i=e.on
     ·rw[if_pos e1]
     ·rw[if_neg e1]
      by_cases e2:i=j
      ·subst e2
       rw[ho] at hq2;cases hq2
       exact h3 e he hb
      ·rw[if_neg e2] at hl
       exact hd j q hq2 hl e he hb
end
theorem ac_chain [Vars] (E:List Nat) (Hp:zI→Prop) {fl:Nat} {Q:Exit→St→Prop} {st:St} {id:Nat} (hm:P.follows .mixedOrders=true) (hok:chOK E ops=true) (hp:Hp st.h)
  (h:aC P ops E Hp st.n st.nt (st.n + ops.size) (fun s h=>Q .normal ⟨st.nt,s,h,st.n + ops.size⟩) 0 ops.toList st.s st.h):ze P fl (.region id ops true) Q st:=by
 intro r w0 G a w hr S hf
 have S':Sim w0 G st a w.drew:=⟨S.inv.drew,S.size,S.defers,S.slots,S.fresh⟩
 obtain⟨X,M,_,hM,hF,hK⟩:=aC_facts (S0:=st.s) ops.toList 0 (fun _=>.undef) (fun _=>st.h) rfl (Nat.zero_le _) h
 have hM0:M 0=st.h:=hM 0 (Nat.le_refl _)
 have hF2:∀i o,ops[i]? = some o→CF P ops E Hp st.n st.nt (st.n + ops.size) st.s X M i o:=fun i o ho=>hF i o (Nat.zero_le i) ho
 have hnf:∀j,(Array.replicate ops.size false).getD j false=false:=fun j=>by
  simp only[Array.getD_eq_getD_getElem?,Array.getElem?_replicate]
  split <;> rfl
 have hnx:M (nx E ops.size (Array.replicate ops.size false))=st.h:=by
  have hlast:=chOK_last hok
  cases hE:E with
  | nil=>rw[hE] at hlast;cases hlast
  | cons x rr=>
   have hx0:E[0]? = some x:=by rw[hE];rfl
   unfold nx
   rw[List.find?_cons,hnf]
   simp only[Bool.not_false,Option.getD_some]
   have hxs:x≤ops.size:=by
    rw[List.getLast?_eq_getElem?] at hlast
    by_cases e:0=E.length - 1
    ·rw[←e,hx0] at hlast;cases hlast;omega
    ·have:=Zw hok hlast hx0 (by omega);omega
   have:=m_const hF2 (a:=0) x (by omega) (fun j _ j2 hj=>by
    obtain⟨l,hl⟩:=List.getElem?_of_mem hj
    rcases Nat.eq_zero_or_pos l with g | g
    ·subst g;rw[hx0] at hl;cases hl;omega
    ·have:=Zw hok hl hx0 g;omega)
   rw[Nat.zero_add] at this
   rw[this,hM0]
 refine wpIn_region_any hm (chain_ok r (base:=st.n) (G0:=G) (w0:=w0) (nt:=st.nt) (n:=st.n + ops.size) (S0:=st.s) (X:=X) (M:=M) hok hf hF2 (by rw[hM0];exact hp) (fun G' s a' w' S1 hq=>?_) ops.size (List.range ops.size) (Array.replicate ops.size false) G st.s a w.drew (by simp) (List.pairwise_lt_range) (fun j=>?_) (by simp) ?_ (fun i o _ hl=>by rw[hnf] at hl;cases hl) (by rw[hnx];exact ZD S' hf ops.size _ (fun j hj=>by simpa using hj)))
 ·refine⟨G',⟨st.nt,ZA ops st.s X ops.size,M ops.size,st.n + ops.size⟩,S1.ext,S1.lim,⟨S1.sim.inv,S1.sim.size,S1.sim.defers,fun t=>?_,S1.sim.fresh⟩,hK⟩
  have:=S1.sim.slots t
  rw[hq t] at this
  exact this
 ·simp only[List.mem_range]
  constructor
  ·intro hj;exact⟨hj,by simp[Array.getD_eq_getD_getElem?,hj]⟩
  ·exact fun h=>h.1
 ·refine⟨fun t j o hj _ hl=>?_,fun t _=>rfl,fun j q hj hl=>?_⟩
  ·rw[hnf] at hl;cases hl
  ·rw[hnf] at hl;cases hl
end
end Go.AM
namespace Go.AM
open Go.RowKit
theorem fzD_scalar (m:Nat) (c:List AV) (agg:Bool) (x:AV) (h:x.scalar=true):(fzD m c agg x).scalar=true:=by
 cases x <;> simp only[fzD] <;> try exact h
 split <;> rfl
theorem fzDL_scalar [Vars] (m:Nat) (c:List AV) (agg:Bool):∀(l:List AV),l.all AV.scalar=true→(QM m c agg l).all AV.scalar=true
 | [],_=>rfl
 | x :: r,h=>by
  simp only[List.all_cons,Bool.and_eq_true] at h
  simp only[QM,List.all_cons,Bool.and_eq_true]
  exact⟨fzD_scalar m c agg x h.1,fzDL_scalar m c agg r h.2⟩
theorem fzDL_length (m:Nat) (c:List AV) (agg:Bool):∀(l:List AV),(QM m c agg l).length=l.length
 | []=>rfl
 | x :: r=>by simp only[QM,List.length_cons,fzDL_length m c agg r]
theorem Inv.fzcell [Vars] {w0:World} {G:Gh} {h:zI} {w:World} (I:Inv w0 G h w) {m p:Nat} {c L:List AV} (agg:Bool) (hmp:p≠m) (hm:h m=some (.cells c)) (hp:h p=some (.cells L)) {r:Nat × Nat × Nat} (hr:G.reg m=some r) :
  Inv w0 (G.freeze w r) ((h.upd m none).upd p (some (.cells (QM m c agg L)))) w:=by
 have I1:=I.freeze hm hr
 have e0:(h.upd m none) p=some (.cells L):=by rw[zB _ _ _ _ hmp];exact hp
 have hx:∀k o,((h.upd m none).upd p (some (.cells (QM m c agg L)))) k=some o→∃o',(h.upd m none) k=some o':=by
  intro k o hk
  by_cases e:k=p
  ·subst e;exact⟨_,e0⟩
  ·rw[zB _ _ _ _ e] at hk;exact⟨o,hk⟩
 refine⟨I1.below,I1.imm,fun k o hk=>?_,fun a b o q r1 r2 hab h1 h2=>?_,fun a o r1 x v h1=>?_,I1.oth⟩
 ·by_cases e:k=p
  ·subst e
   rw[zD] at hk
   cases hk
   obtain⟨r',vs,g1,g2⟩:=I.obj k _ hp
   exact⟨r',vs,g1,⟨g2.base,g2.lt,by rw[fzDL_length];exact g2.len,fzDL_scalar m c agg L g2.sc,fzDL_ok I hm hr agg L vs g2.rel,g2.val,g2.some,g2.free⟩⟩
  ·rw[zB _ _ _ _ e] at hk;exact I1.obj k o hk
 ·obtain⟨o',k1⟩:=hx a o h1
  obtain⟨q',k2⟩:=hx b q h2
  exact I1.disj a b o' q' r1 r2 hab k1 k2
 ·obtain⟨o',k1⟩:=hx a o h1
  exact I1.sep a o' r1 x v k1
section
variable {P : Program} {fl : Nat}
theorem ac_fzcell [Vars] {code:Code} {Q:Exit→St→Prop} {st:St} (m p:Nat) {c L:List AV} (agg:Bool) (hmp:p≠m) (hm:st.h m=some (.cells c)) (hp:st.h p=some (.cells L))
  (h:ze P fl code Q {st with h:=(st.h.upd m none).upd p (some (.cells (QM m c agg L)))}):ze P fl code Q st:=by
 intro r w0 G a w hr S hf
 obtain⟨rg,hreg⟩:=(S.inv.obj m _ hm).hasReg
 have hle:=Gh.le_freeze S.inv hm hreg
 have hx:Ext fl G (G.freeze w rg):=⟨fun _ _=>rfl,hle.imm,⟨[],rfl⟩,rfl,fun _ e=>e⟩
 exact wpIn_mono (h r w0 (G.freeze w rg) a w hr ⟨S.inv.fzcell agg hmp hm hp hreg,S.size,S.defers,fun t'=>(S.slots t').mono hle.v _ _,S.fresh⟩ hf) fun _ _ _ ⟨G',st',e1,e2⟩=>⟨G',st',hx.trans e1,e2⟩
end
end Go.AM
namespace Go.AM
section
variable {P : Program} {ops : Array Oper} {base nt n nm : Nat} {o : Oper} {s : List (Nat × AV)} {h h2 : zI} {x : AV}
theorem Z4 [Vars] {K:List (Nat × AV)→Prop} {i:Nat} {r:List Oper} (hd:Zh nt o.dst=true) (hf:Zx P ops (base + i) o s h n (fun x' h' n'=>x'=x∧h'=h∧n'=n)) (hr:aQ P ops base nt h n K (i + 1) r (pS o.dst x s)):aQ P ops base nt h n K i (o :: r) s:=
 ⟨hd,x,hf,hr⟩
theorem j3 [Vars] {E:List Nat} {Hp:zI→Prop} {K:List (Nat × AV)→zI→Prop} {i:Nat} (hk:K s h):aC P ops E Hp base nt n K i [] s h:=by unfold aC;exact hk
theorem ZH [Vars] {K:List (Nat × AV)→Prop} {i:Nat} (hk:K s):aQ P ops base nt h n K i [] s:=by unfold aQ;exact hk
theorem zU (t:Tmp) (x:AV) (s:List (Nat × AV)):pS (some t) x s=(t,x) :: s:=rfl
theorem ZB (x:AV) (s:List (Nat × AV)):pS none x s=s:=rfl
end
end Go.AM
namespace Go.AM
open Go.RowKit
def Zl [Vars] (P:Program) (fl:Nat) (c:Code) (Q:Exit→St→Prop):Nat→St→Prop
 | 0,_=>False
 | m + 1,st=>ze P fl c (zG (Zl P fl c Q m) Q) st
theorem Z8 [Vars] {P:Program} {fl:Nat} {c:Code} {Q:Exit→St→Prop} {st:St} (m:Nat) (h:Zl P fl c Q m st):ze P fl (.loop c) Q st:=by
 intro r w0 G a w hr S hf
 refine wpIn_loop_rounds m ?_
 have key:∀(m:Nat) (G1:Gh) (s1:St) (a1:Act) (w1:World),Ext fl G G1→fl≤s1.n→Sim w0 G1 s1 a1 w1→Zl P fl c Q m s1→
   Code.roundsIn (FR r) 0 P c (fun e a' w'=>∃G' st',Ext fl G G'∧fl≤st'.n∧Sim w0 G' st' a' w'∧Q e st') m a1 w1:=by
  intro m
  induction m with
  | zero=>intro _ _ _ _ _ _ _ h;exact h.elim
  | succ m ih=>
   intro G1 s1 a1 w1 e1 e2 e3 h
   rw[roundsIn_succ]
   refine wpIn_mono (h r w0 G1 a1 w1 (fun l hl=>e1.lps _ (hr l hl)) e3 e2) ?_
   rintro e a2 w2 ⟨G2,s2,f1,f2,f3,f4⟩
   cases e with
   | normal=>exact ih G2 s2 a2 w2 (e1.trans f1) f2 f3 f4
   | _=>exact⟨G2,s2,e1.trans f1,f2,f3,f4⟩
 exact key m G st a w (Ext.refl _ _) hf S h
end Go.AM
namespace Go.AM
open Go.RowKit
def dds:Nat→List (Nat × AV)→List (Nat × AV)
 | _,[]=>[]
 | m,(k,v) :: r=>if m.testBit k then dds m r else (k,v) :: dds (m ||| 2 ^ k) r
theorem dds_get:∀(l:List (Nat × AV)) (m t:Nat),m.testBit t=false→get (dds m l) t=get l t
 | [],_,_,_=>rfl|(k,v) :: r,m,t,h=>by
  simp only[dds]
  split
  ·rename_i hk
   have hne:t≠k:=fun e=>by subst e;rw[h] at hk;cases hk
   rw[dds_get r m t h];simp only[get,if_neg hne]
  ·by_cases e:t=k
   ·subst e;simp[get]
   ·simp only[get,if_neg e]
    refine dds_get r _ t ?_
    rw[Nat.testBit_or,h,Nat.testBit_two_pow];simp;omega
mutual
def refs:AV→List Nat
 | .ptr n _=>[n]
 | .slc n _ _ _=>[n]
 | .map n=>[n]
 | .chan n=>[n]
 | .yld n=>[n]
 | .fptr l=>jT l
 | .fslc _ _ _ l=>jT l
 | .func _ a b=>jT a ++ jT b
 | .iface _ v=>refs v
 | .agg l=>jT l
 | .tup l=>jT l
 | _=>[]
def jT:List AV→List Nat
 | []=>[]
 | x :: r=>refs x ++ jT r
end
def refsO:AObj→List Nat
 | .cells l=>jT l
 | .tcells _ _ l=>jT l
 | .map _ _ es=>jT (es.map (·.2))
 | .chan _ b _=>jT b
 | .loop _ _ _ s _ _ _=>jT (s.map (·.2))
 | .iter m _ _ _=>[m]
def lookO:List (Nat × AObj)→Nat→Option AObj
 | [],_=>none|(k,o) :: r,t=>if t=k then some o else lookO r t
def QW (h:zI):Nat→List Nat→List (Nat × AObj)→List (Nat × AObj)
 | 0,_,acc=>acc
 | _,[],acc=>acc
 | f + 1,k :: r,acc=>if (lookO acc k).isSome then QW h f r acc else match h k with
  | some o=>QW h f (refsO o ++ r) ((k,o) :: acc)
  | none=>QW h f r acc
theorem lookO_sound {h:zI}:∀{l:List (Nat × AObj)},(∀x ∈ l,h x.1=some x.2)→∀{k:Nat} {o:AObj},lookO l k=some o→h k=some o
 | [],_,k,o,e=>by cases e|(k',o') :: r,hl,k,o,e=>by
  simp only[lookO] at e
  split at e
  ·rename_i hk;cases e;subst hk;exact hl (k,_) (by simp)
  ·exact lookO_sound (fun x hx=>hl x (by simp[hx])) e
theorem qC {h:zI}:∀(f:Nat) (l:List Nat) (acc:List (Nat × AObj)),(∀x ∈ acc,h x.1=some x.2)→∀x ∈ QW h f l acc,h x.1=some x.2
 | 0,_,acc,ha=>ha
 | f + 1,[],acc,ha=>ha
 | f + 1,k :: r,acc,ha=>by
  simp only[QW]
  split
  ·exact qC f r acc ha
  ·split
   ·rename_i o ho
    refine qC f _ _ fun x hx=>?_
    rcases List.mem_cons.1 hx with rfl | hx
    ·exact ho
    ·exact ha x hx
   ·exact qC f r acc ha
theorem rounds_wk [Vars] {P:Program} {fl:Nat} {c:Code} {Q:Exit→St→Prop} {m:Nat} {s s':St} (k:Wk s s') (h:Zl P fl c Q m s'):Zl P fl c Q m s:=by
 cases m with
 | zero=>exact h
 | succ m=>exact ac_wk k h
end Go.AM
namespace Go.AM
open Go.RowKit
mutual
def fzI (m:Nat) (c:List AV):AV→AV
 | .slc n off len s=>if n=m∧off + len * s≤c.length then .fslc false false s (JX (s != 1) s len (c.drop off)) else .slc n off len s
 | .ptr n off=>if n=m∧off≤c.length then .fptr (c.drop off) else .ptr n off
 | .fslc nl full s l=>.fslc nl full s (Qb m c l)
 | .fptr l=>.fptr (Qb m c l)
 | .func f a b=>.func f (Qb m c a) (Qb m c b)
 | .iface t x=>.iface t (fzI m c x)
 | .agg l=>.agg (Qb m c l)
 | .tup l=>.tup (Qb m c l)
 | .undef=>.undef
 | .c v=>.c v
 | .map n=>.map n
 | .chan n=>.chan n
 | .yld n=>.yld n
def Qb (m:Nat) (c:List AV):List AV→List AV
 | []=>[]
 | x :: r=>fzI m c x :: Qb m c r
end
theorem fzI_scalar (m:Nat) (c:List AV) (x:AV) (h:x.scalar=true):(fzI m c x).scalar=true:=by
 cases x <;> simp only[fzI] <;> first | exact h|(split <;> rfl)|rfl
theorem fzIL_scalar [Vars] (m:Nat) (c:List AV):∀l:List AV,l.all AV.scalar=true→(Qb m c l).all AV.scalar=true
 | [],_=>rfl
 | x :: r,h=>by
  simp only[List.all_cons,Bool.and_eq_true] at h
  simp only[Qb,List.all_cons,Bool.and_eq_true]
  exact⟨fzI_scalar m c x h.1,fzIL_scalar m c r h.2⟩
theorem J7 (m:Nat) (c:List AV):∀l:List AV,(Qb m c l).length=l.length
 | []=>rfl
 | x :: r=>by simp only[Qb,List.length_cons,J7 m c r]
theorem fzI_cells [Vars] (m:Nat) (c:List AV) (x:AV) (h:(cellsOf x).all AV.scalar=true):(cellsOf (fzI m c x)).all AV.scalar=true:=by
 cases x with
 | agg l=>simp only[fzI,cellsOf] at h ⊢;exact fzIL_scalar m c l h
 | tup l=>simp[cellsOf,AV.scalar] at h
 | undef=>simp[cellsOf,AV.scalar] at h
 | slc n off len s=>simp only[fzI];split <;> rfl
 | ptr n off=>simp only[fzI];split <;> rfl
 | _=>rfl
theorem freeze_ptr [Vars] {w0:World} {G:Gh} {h:zI} {w:World} (I:Inv w0 G h w) {n off:Nat} {l:List AV} (hn:h n=some (.cells l)) {r:Nat × Nat × Nat} (hr:G.reg n=some r) (_hle:off≤l.length) {v:Value} (hv:Rv G (.ptr n off) v):Rv (G.freeze w r) (.fptr (l.drop off)) v:=by
 simp only[Rv] at hv
 obtain⟨b,lo,t,hr',rfl⟩:=hv
 rw[hr] at hr';cases hr'
 obtain⟨r',vs,hr'',ok⟩:=I.obj n _ hn
 rw[hr] at hr'';cases hr''
 have hok:=ok.len
 have hvl:=ok.rel.length
 simp only at hok
 simp only[Rv]
 refine⟨_,vs.drop off,rfl,(ok.rel.drop off).mono (Gh.le_freeze I hn hr).v,fun j v e=>?_⟩
 rw[List.getElem?_drop] at e
 have hj:off + j < vs.length:=(List.getElem?_eq_some_iff.1 e).1
 have:=ok.val _ _ e
 simp only[z7,Gh.freeze]
 rw[if_pos (by exact⟨rfl,by simp;omega,by simp only;omega⟩)]
 simpa [Nat.add_assoc] using this
mutual
theorem fzI_ok [Vars] {w0:World} {G:Gh} {h:zI} {w:World} (I:Inv w0 G h w) {m:Nat} {c:List AV} (hm:h m=some (.cells c)) {r:Nat × Nat × Nat} (hr:G.reg m=some r):∀(x:AV) (v:Value),Rv G x v→Rv (G.freeze w r) (fzI m c x) v
 | .slc n off len s,v,hv=>by
  simp only[fzI]
  split
  ·rename_i hc
   obtain⟨rfl,h1⟩:=hc
   exact freeze_slc I hm hr _ (fun e=>by simpa using e) h1 hv
  ·exact hv.mono (Gh.le_freeze I hm hr).v
 | .ptr n off,v,hv=>by
  simp only[fzI]
  split
  ·rename_i hc
   obtain⟨rfl,h1⟩:=hc
   exact freeze_ptr I hm hr h1 hv
  ·exact hv.mono (Gh.le_freeze I hm hr).v
 | .fslc nl full s l,v,hv=>by
  simp only[fzI,Rv] at hv ⊢
  obtain⟨a,cap,h1,h2,h3,h4,h5⟩:=hv
  refine⟨a,cap,by rw[J7];exact h1,by rw[J7];exact h2,by rw[J7];exact h3,h4,fun e=>?_⟩
  obtain⟨ad,p,q⟩:=h5 e
  exact⟨ad,p,fzIE_ok I hm hr ad s l 0 q⟩
 | .fptr l,v,hv=>by
  simp only[fzI,Rv] at hv ⊢
  obtain⟨a,vs,h1,h2,h3⟩:=hv
  exact⟨a,vs,h1,Qq I hm hr l vs h2,h3.mono (Gh.le_freeze I hm hr).v⟩
 | .func f a b,v,hv=>by
  simp only[fzI,Rv] at hv ⊢
  obtain⟨f',c',h1,h2,h3⟩:=hv
  exact⟨f',c',h1,Qq I hm hr a _ h2,Qq I hm hr b _ h3⟩
 | .iface t x,v,hv=>by
  simp only[fzI,Rv] at hv ⊢
  obtain⟨y,h1,h2⟩:=hv
  exact⟨y,h1,fzI_ok I hm hr x y h2⟩
 | .agg l,v,hv=>by
  simp only[fzI,Rv] at hv ⊢
  obtain⟨vs,e,h⟩:=hv
  exact⟨vs,e,Qq I hm hr l _ h⟩
 | .tup l,v,hv=>by
  simp only[fzI,Rv] at hv ⊢
  obtain⟨vs,e,h⟩:=hv
  exact⟨vs,e,Qq I hm hr l _ h⟩
 | .undef,v,hv | .c _,v,hv | .map _,v,hv | .chan _,v,hv | .yld _,v,hv=>by
  simp only[fzI];exact hv.mono (Gh.le_freeze I hm hr).v
theorem Qq [Vars] {w0:World} {G:Gh} {h:zI} {w:World} (I:Inv w0 G h w) {m:Nat} {c:List AV} (hm:h m=some (.cells c)) {r:Nat × Nat × Nat} (hr:G.reg m=some r):∀(l:List AV) (vs:List Value),RvL G l vs→RvL (G.freeze w r) (Qb m c l) vs
 | [],vs,hv=>by simpa [Qb,RvL] using hv
 | x :: l,vs,hv=>by
  simp only[Qb,RvL] at hv ⊢
  obtain⟨v,vr,e,h1,h2⟩:=hv
  exact⟨v,vr,e,fzI_ok I hm hr x v h1,Qq I hm hr l vr h2⟩
theorem fzIE_ok [Vars] {w0:World} {G:Gh} {h:zI} {w:World} (I:Inv w0 G h w) {m:Nat} {c:List AV} (hm:h m=some (.cells c)) {r:Nat × Nat × Nat} (hr:G.reg m=some r) (a:Addr) (s:Nat):∀(l:List AV) (i:Nat),RvE G a s i l→RvE (G.freeze w r) a s i (Qb m c l)
 | [],_,_=>by simp[Qb,RvE]
 | x :: l,i,hv=>by
  simp only[Qb,RvE] at hv ⊢
  obtain⟨⟨hs,v,h1,h2,h3⟩,h4⟩:=hv
  exact⟨⟨fzI_cells m c x hs,v,fzI_ok I hm hr x v h1,h2,h3.mono (Gh.le_freeze I hm hr).v⟩,fzIE_ok I hm hr a s l _ h4⟩
end
theorem ret_fzI [Vars] {fl:Nat} {K:AV→zI→Nat→Prop} {x:AV} {h:zI} {n:Nat} {m:Nat} {c:List AV} (hm:h m=some (.cells c)) (hk:Zg fl K (fzI m c x) (h.upd m none) n):Zg fl K x h n:=by
 refine ret_step (fun w0 G w v I f hr hl=>?_) hk
 obtain⟨r,hreg⟩:=(I.obj m _ hm).hasReg
 have hle:=Gh.le_freeze I hm hreg
 exact⟨G.freeze w r,⟨⟨fun _ _=>rfl,hle.imm,⟨[],rfl⟩,rfl,fun _ e=>e⟩,rfl⟩,I.freeze hm hreg,f,fzI_ok I hm hreg _ _ hr,hl⟩
def deepF:Nat→zI→AV→AV
 | 0,_,x=>x
 | k + 1,h,x=>match refs x with
  | []=>x
  | m :: _=>match h m with
   | some (.cells c)=>deepF k (h.upd m none) (fzI m c x)
   | _=>x
theorem ret_deepF [Vars] {fl:Nat} {K:AV→Prop}:∀(k:Nat) (h:zI) (x:AV) {n:Nat},K (deepF k h x)→Zg fl (fun y _ _=>K y) x h n
 | 0,h,x,n,hk=>zY hk
 | k + 1,h,x,n,hk=>by
  simp only[deepF] at hk
  split at hk
  ·exact zY hk
  ·split at hk
   ·rename_i c hm;exact ret_fzI hm (ret_deepF k _ _ hk)
   ·exact zY hk
mutual
theorem refs_below:∀(x:AV),refs x=[]→below 0 x
 | .ptr n _,h | .slc n _ _ _,h | .map n,h | .chan n,h | .yld n,h=>by simp[refs] at h
 | .fptr l,h=>by simp only[refs] at h;simp only[below];exact Z0 l h
 | .fslc _ _ _ l,h=>by simp only[refs] at h;simp only[below];exact Z0 l h
 | .func _ a b,h=>by simp only[refs,List.append_eq_nil_iff] at h;simp only[below];exact⟨Z0 a h.1,Z0 b h.2⟩
 | .iface _ x,h=>by simp only[refs] at h;simp only[below];exact refs_below x h
 | .agg l,h=>by simp only[refs] at h;simp only[below];exact Z0 l h
 | .tup l,h=>by simp only[refs] at h;simp only[below];exact Z0 l h
 | .undef,_=>by simp[below]
 | .c _,_=>by simp[below]
theorem Z0:∀(l:List AV),jT l=[]→belowL 0 l
 | [],_=>by simp[belowL]
 | x :: r,h=>by
  simp only[jT,List.append_eq_nil_iff] at h
  simp only[belowL]
  exact⟨refs_below x h.1,Z0 r h.2⟩
end
theorem zQ.closed [Vars] {P:Program} {f:FuncId} {args:List AV} {Kc:AV→Prop} (hb:belowL 0 args) (hc:zQ P f args (fun _=>none) 0 (fun x h' n'=>Zg 0 (fun x _ _=>below 0 x∧Kc x) x h' n')) {h:zI} {n:Nat} {K:AV→zI→Nat→Prop} (hk:∀x,Kc x→K x h n):zQ P f args h n K:=by
 refine⟨hc.1,fun w0 G w vs I hf hr=>?_⟩
 obtain⟨G0,hG0⟩:∃G0:Gh,G0 = {reg:=fun _=>none,imm:=G.imm,own:=[],base:=(G.own ++ G.base.1,[],G.imm),lps:=G.lps}:=⟨_,rfl⟩
 have i0:G0.imm=G.imm:=by rw[hG0]
 have I0:Inv w G0 (fun _=>none) w:=by
  rw[hG0]
  refine⟨BelowD.refl _ _,I.imm,fun n o e=>(by cases e),fun n m o p r q hn e=>(by cases e),fun n o r a v e=>(by cases e),⟨fun b hb=>(by cases hb),fun b hb=>?_,by simpa using I.oth.nd,I.oth.lps,fun a v e _=>e,I.oth.vars,I.tabs⟩⟩
  rcases List.mem_append.1 hb with h' | h'
  ·exact (I.oth.own b h').1
  ·exact I.oth.base b h'
 have hr0:RvL G0 args vs:=hr.restrict (n:=0) (fun k hk=>absurd hk (Nat.not_lt_zero k)) (fun a v e=>by rw[i0];exact e) _ _ hb
 refine (hc.2 w G0 w vs I0 (fun k _=>by rw[hG0]) hr0).mono ?_
 rintro e w' ⟨G',r,x,h',n',e1,⟨e2,eo⟩,e3,e4,e5,e6,x2,h2,n2,hs,hb2,hkc⟩
 obtain⟨G2,⟨f1,fo⟩,f2,f3,f4,f5⟩:=hs w G' w' r e3 e4 e6 (Nat.zero_le _)
 have hbase:G2.base.2.2=G.imm:=by rw[f1.base,e2.base,hG0]
 have himm:∀a v,G.imm a=some v→G2.imm a=some v:=fun a v e=>f1.imm _ _ (e2.imm _ _ (by rw[i0];exact e))
 have hold:∀k,k < w.heap.size→w'.heap[k]? = w.heap[k]?:=f2.below.block
 have hv:VLe G {reg:=G.reg,imm:=G2.imm,own:=G.own,base:=G.base,lps:=G2.lps}:=⟨fun _ _ e=>e,himm⟩
 have hlt:∀k (o:Obj),w.heap[k]? = some o→k < w.heap.size:=fun k o e=>(Array.getElem?_eq_some_iff.1 e).1
 refine⟨{reg:=G.reg,imm:=G2.imm,own:=G.own,base:=G.base,lps:=G2.lps},r,x2,h,n,e1,⟨⟨fun _ _=>rfl,himm,⟨[],rfl⟩,rfl,fun b hb=>f1.lps _ (e2.lps _ (by rw[hG0];exact hb))⟩,rfl⟩,?_,fun k hk=>hf k hk,Nat.le_refl _,
  Rv.restrict (G:=G2) (G':={reg:=G.reg,imm:=G2.imm,own:=G.own,base:=G.base,lps:=G2.lps}) (n:=0) (fun k hk=>absurd hk (Nat.not_lt_zero k)) (fun a v e=>e) _ _ hb2 f4,hk _ hkc⟩
 refine⟨I.below.trans ⟨f2.below.toBelow.mono I.below.size,f2.below.drawn⟩,f2.imm,fun n o e=>(I.obj n o e).keep hv f2.below.size (fun r hr a ha=>?_) (fun r hr _=>hold _ ((I.obj n o e).lt hr)) (fun r p' hr hp=>by rw[Zr (hold _ ((I.obj n o e).lt hr))];exact hp),I.disj,fun n o r a v e h1 ei hin=>?_,⟨fun b hb=>?_,fun b hb=>?_,I.oth.nd,f2.oth.lps,fun a v ei hl=>?_,f2.oth.vars,I.oth.tabs⟩⟩
 ·have:=hold a.block (by rw[ha.1];exact (I.obj n o e).lt hr)
  exact⟨cell?_congr this,frozen?_congr this⟩
 ·have hl:a.block < w.heap.size:=by rw[hin.1];exact (I.obj n o e).lt h1
  have:=f2.oth.old a v ei hl
  rw[hbase] at this
  exact I.sep n o r a v e h1 this hin
 ·have:=I.oth.own b hb
  exact⟨by rw[hold b (hlt _ _ this.1)];exact this.1,this.2⟩
 ·have:=I.oth.base b hb
  rw[hold b (hlt _ _ this)];exact this
 ·have:=f2.oth.old a v ei (Nat.lt_of_lt_of_le hl I.below.size)
  rw[hbase] at this
  exact I.oth.old a v this hl
end Go.AM
namespace Go.AM
open Go.RowKit
def rdy (ops:Array Oper) (rem:List Nat) (i:Nat):Bool:=match ops[i]? with
 | some o=>o.after.toList.all fun e=>!Region.binds .any e || (decide (e.on < ops.size) && !rem.contains e.on)
 | none=>false
def cls (cm:Bool) (P:Program) (o:Oper):Nat:=match Zo o.op with
 | some _=>if cm then 0 else 2
 | none=>match Z7 P o.op with
  | .a=>0
  | .b _=>1
  | _=>2
def waits (ops:Array Oper) (rem:List Nat):Nat→Nat→Nat→Bool
 | 0,_,_=>false
 | f + 1,j,i=>match ops[j]? with
  | some o=>o.after.toList.any fun e=>Region.binds .any e && (e.on == i || (rem.contains e.on && waits ops rem f e.on i))
  | none=>false
def mild (P:Program) (q:Oper):Bool:=match Z7 P q.op with
 | .a=>true
 | .b _=>true
 | .d=>true
 | _=>false
def freeAt (cm:Bool) (P:Program) (ops:Array Oper) (rem:List Nat) (i:Nat):Bool:=match ops[i]? with
 | some o=>rem.all fun j=>j == i || waits ops rem 12 j i || (match ops[j]? with
  | some q=>o.apart ops q && (cls cm P o == 0 || (cls cm P o == 1 && mild P q))
  | none=>false)
 | none=>false
def pick (cm:Bool) (P:Program) (ops:Array Oper) (rem:List Nat):Option Nat:=
 match rem.find? (fun i=>(match ops[i]? with | some o=>cls cm P o == 0 | none=>false) && rdy ops rem i && freeAt cm P ops rem i) with
 | some i=>some i
 | none=>rem.find? (fun i=>rdy ops rem i && freeAt cm P ops rem i)
end Go.AM
namespace Go.AM
open Go.RowKit
def aAny [Vars] (P:Program) (ops:Array Oper) (base:Nat) (Q:St→Prop):Nat→List Nat→St→Prop
 | 0,rem,st=>rem=[]∧Q st
 | f + 1,rem,st=>(rem=[]→Q st)∧(rem≠[]→∃i ∈ rem,rdy ops rem i=true)∧
   ∀i ∈ rem,rdy ops rem i=true→∃o,ops[i]? = some o∧aOp P ops (base + i) o st (aAny P ops base Q f (rem.erase i))
section
variable {P : Program} {ops : Array Oper} {base : Nat} {Q : St → Prop}
theorem aAny_eqv [Vars] (hQ:∀a b,Eqv a b→Q a→Q b):∀(f:Nat) (rem:List Nat) (a b:St),Eqv a b→aAny P ops base Q f rem a→aAny P ops base Q f rem b
 | 0,rem,a,b,e,h=>⟨h.1,hQ a b e h.2⟩
 | f + 1,rem,a,b,e,h=>⟨fun hr=>hQ a b e (h.1 hr),h.2.1,fun i hi hr=>by
   obtain⟨o,ho,h'⟩:=h.2.2 i hi hr
   exact⟨o,ho,aOp_eqv e (aAny_eqv hQ f _) h'⟩⟩
theorem rdy_iff {rem:List Nat} {i:Nat} {o:Oper} (ho:ops[i]? = some o):rdy ops rem i=true↔∀e ∈ o.after,Region.binds .any e=true→e.on < ops.size∧e.on ∉ rem:=by
 simp only[rdy,ho,List.all_eq_true,Array.mem_toList_iff,Bool.or_eq_true,Bool.not_eq_true',Bool.and_eq_true,decide_eq_true_eq]
 constructor
 ·intro h e he hb
  rcases h e he with h' | ⟨h1,h2⟩
  ·rw[hb] at h';cases h'
  ·exact⟨h1,fun hm=>by rw[List.contains_eq_mem,decide_eq_false_iff_not] at h2;exact h2 hm⟩
 ·intro h e he
  cases hb:Region.binds .any e with
  | false=>exact .inl rfl
  | true=>obtain⟨h1,h2⟩:=h e he hb;exact .inr ⟨h1,by rw[List.contains_eq_mem,decide_eq_false_iff_not];exact h2⟩
theorem rdy_some {rem:List Nat} {i:Nat} (h:rdy ops rem i=true):∃o,ops[i]? = some o:=by
 unfold rdy at h
 split at h
 ·rename_i o ho;exact⟨o,ho⟩
 ·cases h
theorem Qz [Vars] {rem:List Nat} {i j:Nat} (h:rdy ops rem i=true):rdy ops (rem.erase j) i=true:=by
 obtain⟨o,ho⟩:=rdy_some h
 rw[rdy_iff ho] at h ⊢
 exact fun e he hb=>⟨(h e he hb).1,fun hm=>(h e he hb).2 (List.mem_of_mem_erase hm)⟩
theorem waits_not [Vars] {rem:List Nat} {i:Nat} (hi:i ∈ rem):∀(f j:Nat),waits ops rem f j i=true→rdy ops rem j=false
 | 0,j,h=>by cases h
 | f + 1,j,h=>by
  cases hr:rdy ops rem j with
  | false=>rfl
  | true=>
   obtain⟨o,ho⟩:=rdy_some hr
   rw[rdy_iff ho] at hr
   simp only[waits,ho,List.any_eq_true,Array.mem_toList_iff,Bool.and_eq_true,Bool.or_eq_true,beq_iff_eq] at h
   obtain⟨e,he,hb,h1⟩:=h
   have:=(hr e he hb).2
   rcases h1 with h1 | ⟨h1,_⟩
   ·exact absurd (by rw[h1];exact hi) this
   ·exact absurd (by simpa using h1) this
theorem waits_erase [Vars] {rem:List Nat} {i k:Nat} (hi:i ∈ rem) (hk:rdy ops rem k=true):∀(f j:Nat),waits ops rem f j i=true→waits ops (rem.erase k) f j i=true
 | 0,j,h=>by cases h
 | f + 1,j,h=>by
  simp only[waits] at h ⊢
  split at h
  ·rename_i o ho
   simp only[List.any_eq_true,Array.mem_toList_iff,Bool.and_eq_true,Bool.or_eq_true,beq_iff_eq] at h ⊢
   obtain⟨e,he,hb,h1⟩:=h
   refine⟨e,he,hb,?_⟩
   rcases h1 with h1 | ⟨h1,h2⟩
   ·exact .inl h1
   ·refine .inr ⟨?_,waits_erase hi hk f _ h2⟩
    have hne:e.on≠k:=fun he=>by
     have:=waits_not hi f _ h2
     rw[he,hk] at this;cases this
    simp only[List.contains_eq_mem,decide_eq_true_eq] at h1 ⊢
    exact (List.mem_erase_of_ne hne).2 h1
  ·cases h
def Free (_:Program) (ops:Array Oper) (o:Oper) (i:Nat) (c:Oper→Prop) (rem:List Nat):Prop:=
 ∀j ∈ rem,j≠i→(∃f,waits ops rem f j i=true)∨∃q,ops[j]? = some q∧o.apart ops q=true∧c q
theorem Free.erase [Vars] {o:Oper} {i k:Nat} {c:Oper→Prop} {rem:List Nat} (hi:i ∈ rem) (hk:rdy ops rem k=true) (h:Free P ops o i c rem):Free P ops o i c (rem.erase k):=by
 intro j hj hne
 rcases h j (List.mem_of_mem_erase hj) hne with ⟨f,hw⟩ | hq
 ·exact .inl ⟨f,waits_erase hi hk f j hw⟩
 ·exact .inr hq
def PureAt [Vars] (P:Program) (ops:Array Oper) (nm:Nat) (o:Oper) (s:List (Nat × AV)) (x:AV):Prop:=
 ∀s',agreeOn (o.looksAt ops) s s'→∀h n (K:AV→zI→Nat→Prop),K x h n→Zx P ops nm o s' h n K
theorem agreeOn.trans {l:List Tmp} {a b c:List (Nat × AV)} (h:agreeOn l a b) (k:agreeOn l b c):agreeOn l a c:=fun t ht=>(h t ht).trans (k t ht)
theorem Qi {nt n:Nat} {s:List (Nat × AV)} {h:zI} {d:Option Tmp} {x:AV} {l:List Tmp} (hd:∀t,d=some t→t ∉ l):agreeOn l s (put ⟨nt,s,h,n⟩ d x).s:=fun t ht=>(get_put fun e=>hd t e ht).symm
theorem pure_first [Vars] (hQ:∀a b,Eqv a b→Q a→Q b) {i:Nat} {o:Oper} (ho:ops[i]? = some o) {x:AV}:∀(f:Nat) (rem:List Nat) (st:St),rem.Nodup→i ∈ rem→rdy ops rem i=true→Free P ops o i (fun _=>True) rem→
  PureAt P ops (base + i) o st.s x→Zh st.nt o.dst=true→aAny P ops base Q f (rem.erase i) (put st o.dst x)→aAny P ops base Q (f + 1) rem st:=by
 intro f
 induction f with
 | zero=>
  intro rem st hnd hi hr hF hp hd h
  refine⟨fun e=>(by rw[e] at hi;cases hi),fun _=>⟨i,hi,hr⟩,fun j hj hrj=>?_⟩
  have:j=i:=by
   by_cases e:j=i
   ·exact e
   ·have:j ∈ rem.erase i:=(List.mem_erase_of_ne e).2 hj
    rw[h.1] at this;cases this
  subst this
  exact⟨o,ho,hd,hp st.s (fun _ _=>rfl) _ _ _ h⟩
 | succ f ih=>
  intro rem st hnd hi hr hF hp hd h
  refine⟨fun e=>(by rw[e] at hi;cases hi),fun _=>⟨i,hi,hr⟩,fun j hj hrj=>?_⟩
  by_cases e:j=i
  ·subst e;exact⟨o,ho,hd,hp st.s (fun _ _=>rfl) _ _ _ h⟩
  ·rcases hF j hj e with ⟨g,hw⟩ | ⟨q,hq,hap,_⟩
   ·rw[waits_not hi g j hw] at hrj;cases hrj
   ·obtain⟨ha1,ha2,ha3⟩:=Oper.apart_spec hap
    obtain⟨q',hq',hop⟩:=h.2.2 j ((List.mem_erase_of_ne e).2 hj) (Qz hrj)
    rw[hq] at hq';cases hq'
    refine⟨q,hq,?_⟩
    obtain⟨nt,s,hp0,n⟩:=st
    obtain⟨hdq,hv⟩:=hop
    simp only[put_nt.1,put_nt.2.1,put_nt.2.2] at hdq hv
    refine⟨hdq,(Zc (Qi fun t e ht=>ha1 t e ht)).2 (ZV hv fun y h' n' hk=>?_)⟩
    refine ih (rem.erase j) _ (hnd.erase j) ((List.mem_erase_of_ne (Ne.symm e)).2 hi) (Qz hr) (hF.erase hi hrj) (fun s' ha=>hp s' (agreeOn.trans (Qi fun t e ht=>ha3 t e ht) ha)) (by rw[put_nt.1];exact hd) ?_
    rw[List.erase_comm]
    refine aAny_eqv hQ _ _ _ _ ?_ hk
    have:=(put_swap (nt:=nt) (s:=s) (h:=hp0) (n:=n) (x:=x) (y:=y) (fun t e=>ha2 t e) n' h')
    cases hod:o.dst <;> cases hqd:q.dst <;> simp only[hod,hqd,put] at this ⊢ <;> exact this
def ReadAt [Vars] (P:Program) (ops:Array Oper) (base:Nat) (rem:List Nat) (nm:Nat) (o:Oper) (s:List (Nat × AV)) (h:zI) (x:AV):Prop:=
 ∀s',agreeOn (o.looksAt ops) s s'→∀h',(∀k,(∀j ∈ rem,k≠base + j)→h' k=h k)→∀n (K:AV→zI→Nat→Prop),K x h' n→Zx P ops nm o s' h' n K
theorem mild_frame [Vars] {q:Oper} (hm:mild P q=true) {nm:Nat} {s:List (Nat × AV)} {h:zI} {n:Nat} {K:AV→zI→Nat→Prop} (hv:Zx P ops nm q s h n K) :
  Zx P ops nm q s h n fun y h' n'=>K y h' n'∧∀k,k≠nm→h' k=h k:=by
 have hw:Z7 P q.op≠.w:=fun e=>by simp[mild,e] at hm
 rw[Jm hw] at hv ⊢
 cases hf:JV P ops nm q s h with
 | none=>rw[hf] at hv;exact hv.elim
 | some xh=>
  obtain⟨x,h'⟩:=xh
  rw[hf] at hv
  refine⟨hv,?_⟩
  cases hc:Z7 P q.op with
  | a=>obtain⟨X,hX⟩:=f_a (ops:=ops) hc s;rw[hX] at hf;simp only[Option.map_eq_some_iff,Prod.mk.injEq] at hf;obtain⟨_,_,_,e⟩:=hf;exact fun k _=>by rw[←e]
  | b x=>obtain⟨X,hX,_⟩:=f_b (ops:=ops) hc s;rw[hX] at hf;simp only[Option.map_eq_some_iff,Prod.mk.injEq] at hf;obtain⟨_,_,_,e⟩:=hf;exact fun k _=>by rw[←e]
  | d=>
   obtain⟨X,hX⟩:=f_d (ops:=ops) hc s nm
   rw[hX] at hf
   simp only[Option.map_eq_some_iff,Prod.mk.injEq] at hf
   obtain⟨⟨x2,o2⟩,_,_,e⟩:=hf
   intro k hk
   rw[←e]
   cases o2 with
   | none=>rfl
   | some o2=>exact zB _ _ _ _ hk
  | w=>exact absurd hc hw
theorem read_first [Vars] (hQ:∀a b,Eqv a b→Q a→Q b) {i:Nat} {o:Oper} (ho:ops[i]? = some o) {x:AV}:∀(f:Nat) (rem:List Nat) (st:St),rem.Nodup→i ∈ rem→rdy ops rem i=true→Free P ops o i (fun q=>mild P q=true) rem→
  ReadAt P ops base rem (base + i) o st.s st.h x→Zh st.nt o.dst=true→aAny P ops base Q f (rem.erase i) (put st o.dst x)→aAny P ops base Q (f + 1) rem st:=by
 intro f
 induction f with
 | zero=>
  intro rem st hnd hi hr hF hp hd h
  refine⟨fun e=>(by rw[e] at hi;cases hi),fun _=>⟨i,hi,hr⟩,fun j hj hrj=>?_⟩
  have:j=i:=by
   by_cases e:j=i
   ·exact e
   ·have:j ∈ rem.erase i:=(List.mem_erase_of_ne e).2 hj
    rw[h.1] at this;cases this
  subst this
  exact⟨o,ho,hd,hp st.s (fun _ _=>rfl) _ (fun _ _=>rfl) _ _ h⟩
 | succ f ih=>
  intro rem st hnd hi hr hF hp hd h
  refine⟨fun e=>(by rw[e] at hi;cases hi),fun _=>⟨i,hi,hr⟩,fun j hj hrj=>?_⟩
  by_cases e:j=i
  ·subst e;exact⟨o,ho,hd,hp st.s (fun _ _=>rfl) _ (fun _ _=>rfl) _ _ h⟩
  ·rcases hF j hj e with ⟨g,hw⟩ | ⟨q,hq,hap,hm⟩
   ·rw[waits_not hi g j hw] at hrj;cases hrj
   ·obtain⟨ha1,ha2,ha3⟩:=Oper.apart_spec hap
    obtain⟨q',hq',hop⟩:=h.2.2 j ((List.mem_erase_of_ne e).2 hj) (Qz hrj)
    rw[hq] at hq';cases hq'
    refine⟨q,hq,?_⟩
    obtain⟨nt,s,hp0,n⟩:=st
    obtain⟨hdq,hv⟩:=hop
    simp only[put_nt.1,put_nt.2.1,put_nt.2.2] at hdq hv
    refine⟨hdq,(Zc (Qi fun t e ht=>ha1 t e ht)).2 (ZV (mild_frame hm hv) fun y h' n' hk=>?_)⟩
    obtain⟨hk,hfr⟩:=hk
    refine ih (rem.erase j) _ (hnd.erase j) ((List.mem_erase_of_ne (Ne.symm e)).2 hi) (Qz hr) (hF.erase hi hrj) (fun s' ha h'' hh=>hp s' (agreeOn.trans (Qi fun t e ht=>ha3 t e ht) ha) h'' fun k hkk=>?_) (by rw[put_nt.1];exact hd) ?_
    ·rw[hh k fun j' hj'=>hkk j' (List.mem_of_mem_erase hj'),put_nt.2.1]
     exact hfr k (hkk j hj)
    ·rw[List.erase_comm]
     refine aAny_eqv hQ _ _ _ _ ?_ hk
     have:=(put_swap (nt:=nt) (s:=s) (h:=hp0) (n:=n) (x:=x) (y:=y) (fun t e=>ha2 t e) n' h')
     cases hod:o.dst <;> cases hqd:q.dst <;> simp only[hod,hqd,put] at this ⊢ <;> exact this
theorem any_sound [Vars] (r:Option Nat) {w0:World} {G0:Gh} {fl:Nat} (hfl:fl≤base) {Q':Exit→Act→World→Prop}
  (hQ:∀G st a w,RSim w0 G0 fl base [] G st a w→Q st→Q' .normal a w):∀(fuel:Nat) (rem:List Nat) (listed:Array Bool) (G:Gh) (st:St) (a:Act) (w:World),
  rem.Nodup→listed.size=ops.size→(∀j,j ∈ rem↔j < ops.size∧listed.getD j true=false)→
  RSim w0 G0 fl base rem G st a w→aAny P ops base Q fuel rem st→wpAnyIn (FR r) 0 P .any ops Q' fuel listed a w:=by
 have hrd:∀(rem:List Nat) (listed:Array Bool),listed.size=ops.size→(∀j,j ∈ rem↔j < ops.size∧listed.getD j true=false)→∀i,i ∈ Region.ready .any ops listed↔i ∈ rem∧rdy ops rem i=true:=by
  intro rem listed hsz hr i
  have hl:∀j,j < ops.size→(listed.getD j false=true↔j ∉ rem):=by
   intro j hj
   have hlt:j < listed.size:=by omega
   rw[hr j]
   simp only[Array.getD_eq_getD_getElem?,Array.getElem?_eq_getElem hlt,Option.getD_some]
   cases hv:listed[j] <;> simp[hj]
  constructor
  ·intro h
   obtain⟨h1,h2,o,ho,h3⟩:=jr h
   refine⟨(hr i).2 ⟨h1,h2⟩,(rdy_iff ho).2 fun e he hb=>?_⟩
   have h4:=h3 e he hb
   have hlt:e.on < ops.size:=by
    rcases Nat.lt_or_ge e.on ops.size with h' | h'
    ·exact h'
    ·rw[Array.getD_eq_getD_getElem?,Array.getElem?_eq_none (by omega)] at h4;cases h4
   exact⟨hlt,(hl _ hlt).1 h4⟩
  ·rintro⟨h1,h2⟩
   obtain⟨h3,h4⟩:=(hr i).1 h1
   simp only[Region.ready,List.mem_filter,List.mem_range,Bool.and_eq_true,Bool.not_eq_true']
   refine⟨h3,h4,?_⟩
   rw[Array.getElem?_eq_getElem h3]
   simp only[Option.map_some,Option.getD_some]
   refine Array.all_eq_true_iff_forall_mem.2 fun e he=>?_
   by_cases hb:Region.binds .any e=true
   ·obtain⟨q1,q2⟩:=(rdy_iff (Array.getElem?_eq_getElem h3)).1 h2 e he hb
    simp[(hl _ q1).2 q2]
   ·simp[hb]
 intro fuel
 induction fuel with
 | zero=>
  intro rem listed G st a w hnd hsz hr S h
  obtain⟨h1,h2⟩:=h
  subst h1
  refine⟨?_,hQ G st a w S h2⟩
  cases hc:Region.ready .any ops listed with
  | nil=>rfl
  | cons i r=>
   have:=((hrd [] listed hsz hr i).1 (by rw[hc];simp)).1
   cases this
 | succ fuel ih=>
  intro rem listed G st a w hnd hsz hr S h
  obtain⟨h1,h2,h3⟩:=h
  refine⟨fun hnil=>?_,fun i hi=>?_⟩
  ·by_cases he:rem=[]
   ·subst he;exact hQ G st a w S (h1 rfl)
   ·obtain⟨i,hi,hri⟩:=h2 he
    have:=(hrd rem listed hsz hr i).2 ⟨hi,hri⟩
    rw[hnil] at this;cases this
  ·obtain⟨hirem,hri⟩:=(hrd rem listed hsz hr i).1 hi
   obtain⟨o,ho,hop⟩:=h3 i hirem hri
   have hmove:∀j,j ∈ i :: rem.erase i→j ∈ rem:=fun j hj=>by
    rcases List.mem_cons.1 hj with rfl | hj
    ·exact hirem
    ·exact List.mem_of_mem_erase hj
   have hnot:i ∉ rem.erase i:=fun h'=>(hnd.mem_erase_iff.1 h').1 rfl
   have hres:=op_ok (Q:=Q') (S.sub hmove) hfl hnot hop (next:=wpAnyIn (FR r) 0 P .any ops Q' fuel (listed.setIfInBounds i true)) ?_ r
   ·unfold wpOpIn
    rw[ho]
    simp only
    split at hres
    ·rename_i hw;rw[if_pos hw];exact hres
    ·rename_i hw;rw[if_neg hw];exact hres
   ·intro G' st' a' w' S' h'
    refine ih (rem.erase i) _ G' st' a' w' (hnd.erase i) (by simpa using hsz) (fun j=>?_) S' h'
    rw[hnd.mem_erase_iff,hr j]
    have hil:i < listed.size:=by have:=((hr i).1 hirem).1;omega
    simp only[Array.getD_eq_getD_getElem?,Array.getElem?_setIfInBounds]
    by_cases hji:i=j
    ·subst hji;simp[hil]
    ·rw[if_neg hji]
     constructor
     ·rintro⟨_,h3⟩;exact h3
     ·intro h3;exact⟨fun e=>hji e.symm,h3⟩
theorem ac_any [Vars] {fl:Nat} {Q:Exit→St→Prop} {st:St} {id:Nat} (hm:P.follows .mixedOrders=true)
  (h:aAny P ops st.n (fun s=>∃s0,Eqv s0 s∧Q .normal s0) ops.size (List.range ops.size) {st with n:=st.n + ops.size}):ze P fl (.region id ops true) Q st:=by
 intro r w0 G a w hr S hf
 have S':Sim w0 G st a w.drew:=⟨S.inv.drew,S.size,S.defers,S.slots,S.fresh⟩
 refine wpIn_region_any hm (any_sound r (base:=st.n) (G0:=G) (w0:=w0) hf (Q:=fun s=>∃s0,Eqv s0 s∧Q .normal s0) (fun G' s a' w' S1 hq=>?_) ops.size (List.range ops.size) _ G _ a w.drew List.nodup_range (by simp) (fun j=>?_) (ZD S' hf ops.size _ (fun j hj=>by simpa using hj)) h)
 ·obtain⟨s0,e,hq⟩:=hq
  obtain⟨e1,e2,e3,e4⟩:=e
  refine⟨G',s0,S1.ext,by rw[e3];exact S1.lim,⟨by rw[e2];exact S1.sim.inv,by rw[e1];exact S1.sim.size,S1.sim.defers,fun t=>by rw[e4 t];exact S1.sim.slots t,by rw[e3];exact S1.sim.fresh⟩,hq⟩
 ·simp only[List.mem_range]
  constructor
  ·intro hj;exact⟨hj,by simp[Array.getD_eq_getD_getElem?,hj]⟩
  ·exact fun h=>h.1
end
end Go.AM
namespace Go.AM
open Go.RowKit
def lEq {α:Type} (f:α→α→Bool):List α→List α→Bool
 | [],[]=>true
 | x :: r,y :: q=>f x y && lEq f r q
 | _,_=>false
theorem lEq_eq {α:Type} {f:α→α→Bool} (hf:∀a b,f a b=true→a=b):∀a b,lEq f a b=true→a=b
 | [],b,h=>by cases b <;> simp_all [lEq]
 | x :: r,b,h=>by
  cases b with
  | nil=>simp[lEq] at h
  | cons y q=>
   simp only[lEq,Bool.and_eq_true] at h
   rw[hf _ _ h.1,lEq_eq hf r q h.2]
def arEq {α:Type} (f:α→α→Bool) (a b:Array α):Bool:=lEq f a.toList b.toList
theorem jh [Vars] {α:Type} {f:α→α→Bool} (hf:∀a b,f a b=true→a=b) (a b:Array α) (h:arEq f a b=true):a=b:=Array.ext' (lEq_eq hf _ _ h)
def Qf {α:Type} (f:α→α→Bool):Option α→Option α→Bool
 | none,none=>true
 | some a,some b=>f a b
 | _,_=>false
theorem JP {α:Type} {f:α→α→Bool} (hf:∀a b,f a b=true→a=b):∀a b,Qf f a b=true→a=b
 | none,b,h=>by cases b <;> simp_all [Qf]
 | some a,b,h=>by
  cases b with
  | none=>simp[Qf] at h
  | some b=>rw[hf a b h]
def nEq (a b:Nat):Bool:=Nat.beq a b
theorem zz (a b:Nat) (h:nEq a b=true):a=b:=Nat.eq_of_beq_eq_true h
mutual
def vEq:Value→Value→Bool
 | .bool a,.bool b=>a == b
 | .int k a,.int l b=>decide (k=l) && decide (a=b)
 | .string a,.string b=>decide (a.data.toList=b.data.toList)
 | .nilFunc,.nilFunc=>true
 | .nilIface,.nilIface=>true
 | .pointer none,.pointer none=>true
 | .map none,.map none=>true
 | .agg a,.agg b=>vEqL a.toList b.toList
 | _,_=>false
def vEqL:List Value→List Value→Bool
 | [],[]=>true
 | x :: r,y :: q=>vEq x y && vEqL r q
 | _,_=>false
end
mutual
theorem vEq_eq:∀(a b:Value),vEq a b=true→a=b
 | .bool a,b,h=>by cases b <;> simp_all [vEq]
 | .int k a,b,h=>by cases b <;> simp_all [vEq]
 | .string a,b,h=>by
  cases b with
  | string b=>
   simp only[vEq,decide_eq_true_eq] at h
   have:a.data=b.data:=Array.ext' h
   cases a;cases b;simp_all
  | _=>simp[vEq] at h
 | .nilFunc,b,h=>by cases b <;> simp_all [vEq]
 | .nilIface,b,h=>by cases b <;> simp_all [vEq]
 | .pointer none,b,h=>by
  cases b with
  | pointer p=>cases p <;> simp_all [vEq]
  | _=>simp[vEq] at h
 | .map none,b,h=>by
  cases b with
  | map p=>cases p <;> simp_all [vEq]
  | _=>simp[vEq] at h
 | .agg ⟨a⟩,b,h=>by
  cases b with
  | agg b=>
   simp only[vEq] at h
   have:=vEqL_eq a b.toList h
   subst this
   simp
  | _=>simp[vEq] at h
 | .pointer (some _),b,h | .map (some _),b,h=>by cases b <;> simp[vEq] at h
 | .float ..,b,h | .complex ..,b,h | .slice ..,b,h | .chan ..,b,h | .func ..,b,h | .iface ..,b,h | .tuple ..,b,h=>by cases b <;> simp[vEq] at h
theorem vEqL_eq:∀(a b:List Value),vEqL a b=true→a=b
 | [],b,h=>by cases b <;> simp_all [vEqL]
 | x :: r,b,h=>by
  cases b with
  | nil=>simp[vEqL] at h
  | cons y q=>
   simp only[vEqL,Bool.and_eq_true] at h
   rw[vEq_eq x y h.1,vEqL_eq r q h.2]
end
def xEq:Operand→Operand→Bool
 | .tmp a,.tmp b=>nEq a b
 | .const a,.const b=>vEq a b
 | .global a,.global b=>nEq a b
 | .func a,.func b=>nEq a b
 | _,_=>false
theorem zq [Vars] (a b:Operand) (h:xEq a b=true):a=b:=by
 unfold xEq at h
 split at h
 ·rw[zz _ _ h]
 ·rw[vEq_eq _ _ h]
 ·rw[zz _ _ h]
 ·rw[zz _ _ h]
 ·cases h
def caEq:Call→Call→Bool
 | ⟨.value f,a,t⟩,⟨.value g,b,u⟩=>xEq f g && arEq xEq a b && arEq nEq t u
 | ⟨.builtin f,a,t⟩,⟨.builtin g,b,u⟩=>decide (f=g) && arEq xEq a b && arEq nEq t u
 | _,_=>false
theorem caEq_eq [Vars] (a b:Call) (h:caEq a b=true):a=b:=by
 unfold caEq at h
 split at h
 ·simp only[Bool.and_eq_true] at h
  rw[zq _ _ h.1.1,jh zq _ _ h.1.2,jh zz _ _ h.2]
 ·simp only[Bool.and_eq_true,decide_eq_true_eq] at h
  rw[h.1.1,jh zq _ _ h.1.2,jh zz _ _ h.2]
 ·cases h
def pxEq (a b:Nat × Operand):Bool:=nEq a.1 b.1 && xEq a.2 b.2
theorem pxEq_eq [Vars] (a b:Nat × Operand) (h:pxEq a b=true):a=b:=by
 simp only[pxEq,Bool.and_eq_true] at h
 exact Prod.ext (zz _ _ h.1) (zq _ _ h.2)
def bEq (a b:Bool):Bool:=a == b
theorem bEq_eq (a b:Bool) (h:bEq a b=true):a=b:=by simpa [bEq] using h
def opEq:Op→Op→Bool
 | .move a,.move b=>xEq a b
 | .assign a,.assign b=>xEq a b
 | .pick a b c,.pick a' b' c'=>xEq a a' && (xEq b b' && xEq c c')
 | .alloc a,.alloc b=>nEq a b
 | .box t a,.box u b=>nEq t u && xEq a b
 | .build t a,.build u b=>nEq t u && arEq pxEq a b
 | .buildSlice t n a,.buildSlice u m b=>nEq t u && (nEq n m && arEq pxEq a b)
 | .load t a,.load u b=>nEq t u && xEq a b
 | .store t a b,.store t' a' b'=>nEq t t' && (xEq a a' && xEq b b')
 | .nilCheck a,.nilCheck b=>xEq a b
 | .binOp o t a b u,.binOp o' t' a' b' u'=>decide (o=o') && (nEq t t' && (xEq a a' && (xEq b b' && nEq u u')))
 | .unOp o t a,.unOp o' t' a'=>decide (o=o') && (nEq t t' && xEq a a')
 | .convert t u a,.convert t' u' a'=>nEq t t' && (nEq u u' && xEq a a')
 | .makeFunc f a b,.makeFunc f' a' b'=>decide (f=f') && (arEq xEq a a' && arEq xEq b b')
 | .makeMap t a,.makeMap t' a'=>nEq t t' && Qf xEq a a'
 | .makeSlice t a b,.makeSlice t' a' b'=>nEq t t' && (xEq a a' && xEq b b')
 | .slice t a b c d,.slice t' a' b' c' d'=>nEq t t' && (xEq a a' && (Qf xEq b b' && (Qf xEq c c' && Qf xEq d d')))
 | .fieldAddr t a n,.fieldAddr t' a' n'=>nEq t t' && (xEq a a' && nEq n n')
 | .field t a n,.field t' a' n'=>nEq t t' && (xEq a a' && nEq n n')
 | .indexAddr t a b,.indexAddr t' a' b'=>nEq t t' && (xEq a a' && xEq b b')
 | .index t a b,.index t' a' b'=>nEq t t' && (xEq a a' && xEq b b')
 | .lookup t a b c,.lookup t' a' b' c'=>nEq t t' && (xEq a a' && (xEq b b' && bEq c c'))
 | .mapUpdate t a b c,.mapUpdate t' a' b' c'=>nEq t t' && (xEq a a' && (xEq b b' && xEq c c'))
 | .mapEntry t a b,.mapEntry t' a' b'=>nEq t t' && (xEq a a' && xEq b b')
 | .entryStore t a b c,.entryStore t' a' b' c'=>nEq t t' && (xEq a a' && (xEq b b' && xEq c c'))
 | .range t a,.range t' a'=>nEq t t' && xEq a a'
 | .next a b,.next a' b'=>xEq a a' && bEq b b'
 | .entry a,.entry b=>xEq a b
 | .extract a n,.extract a' n'=>xEq a a' && nEq n n'
 | .call a,.call b=>caEq a b
 | .makeInterface t a,.makeInterface u b=>nEq t u && xEq a b
 | .panic a,.panic b=>xEq a b
 | _,_=>false
theorem opEq_eq [Vars] (a b:Op) (h:opEq a b=true):a=b:=by
 unfold opEq at h
 split at h
 ·try simp only[Bool.and_eq_true,decide_eq_true_eq] at h
  rw[zq _ _ h]
 ·try simp only[Bool.and_eq_true,decide_eq_true_eq] at h
  rw[zq _ _ h]
 ·try simp only[Bool.and_eq_true] at h
  rw[zq _ _ h.1,zq _ _ h.2.1,zq _ _ h.2.2]
 ·try simp only[Bool.and_eq_true,decide_eq_true_eq] at h
  rw[zz _ _ h]
 ·try simp only[Bool.and_eq_true] at h
  rw[zz _ _ h.1,zq _ _ h.2]
 ·try simp only[Bool.and_eq_true] at h
  rw[zz _ _ h.1,jh pxEq_eq _ _ h.2]
 ·try simp only[Bool.and_eq_true] at h
  rw[zz _ _ h.1,zz _ _ h.2.1,jh pxEq_eq _ _ h.2.2]
 ·try simp only[Bool.and_eq_true] at h
  rw[zz _ _ h.1,zq _ _ h.2]
 ·try simp only[Bool.and_eq_true] at h
  rw[zz _ _ h.1,zq _ _ h.2.1,zq _ _ h.2.2]
 ·try simp only[Bool.and_eq_true,decide_eq_true_eq] at h
  rw[zq _ _ h]
 ·try simp only[Bool.and_eq_true,decide_eq_true_eq] at h
  rw[h.1,zz _ _ h.2.1,zq _ _ h.2.2.1,zq _ _ h.2.2.2.1,zz _ _ h.2.2.2.2]
 ·try simp only[Bool.and_eq_true,decide_eq_true_eq] at h
  rw[h.1,zz _ _ h.2.1,zq _ _ h.2.2]
 ·try simp only[Bool.and_eq_true] at h
  rw[zz _ _ h.1,zz _ _ h.2.1,zq _ _ h.2.2]
 ·try simp only[Bool.and_eq_true,decide_eq_true_eq] at h
  rw[h.1,jh zq _ _ h.2.1,jh zq _ _ h.2.2]
 ·try simp only[Bool.and_eq_true] at h
  rw[zz _ _ h.1,JP zq _ _ h.2]
 ·try simp only[Bool.and_eq_true] at h
  rw[zz _ _ h.1,zq _ _ h.2.1,zq _ _ h.2.2]
 ·try simp only[Bool.and_eq_true] at h
  rw[zz _ _ h.1,zq _ _ h.2.1,JP zq _ _ h.2.2.1,JP zq _ _ h.2.2.2.1,JP zq _ _ h.2.2.2.2]
 ·try simp only[Bool.and_eq_true] at h
  rw[zz _ _ h.1,zq _ _ h.2.1,zz _ _ h.2.2]
 ·try simp only[Bool.and_eq_true] at h
  rw[zz _ _ h.1,zq _ _ h.2.1,zz _ _ h.2.2]
 ·try simp only[Bool.and_eq_true] at h
  rw[zz _ _ h.1,zq _ _ h.2.1,zq _ _ h.2.2]
 ·try simp only[Bool.and_eq_true] at h
  rw[zz _ _ h.1,zq _ _ h.2.1,zq _ _ h.2.2]
 ·try simp only[Bool.and_eq_true] at h
  rw[zz _ _ h.1,zq _ _ h.2.1,zq _ _ h.2.2.1,bEq_eq _ _ h.2.2.2]
 ·try simp only[Bool.and_eq_true] at h
  rw[zz _ _ h.1,zq _ _ h.2.1,zq _ _ h.2.2.1,zq _ _ h.2.2.2]
 ·try simp only[Bool.and_eq_true] at h
  rw[zz _ _ h.1,zq _ _ h.2.1,zq _ _ h.2.2]
 ·try simp only[Bool.and_eq_true] at h
  rw[zz _ _ h.1,zq _ _ h.2.1,zq _ _ h.2.2.1,zq _ _ h.2.2.2]
 ·try simp only[Bool.and_eq_true] at h
  rw[zz _ _ h.1,zq _ _ h.2]
 ·try simp only[Bool.and_eq_true] at h
  rw[zq _ _ h.1,bEq_eq _ _ h.2]
 ·try simp only[Bool.and_eq_true,decide_eq_true_eq] at h
  rw[zq _ _ h]
 ·try simp only[Bool.and_eq_true] at h
  rw[zq _ _ h.1,zz _ _ h.2]
 ·try simp only[Bool.and_eq_true,decide_eq_true_eq] at h
  rw[caEq_eq _ _ h]
 ·try simp only[Bool.and_eq_true] at h
  rw[zz _ _ h.1,zq _ _ h.2]
 ·try simp only[Bool.and_eq_true,decide_eq_true_eq] at h
  rw[zq _ _ h]
 ·cases h
def edEq (a b:Edge):Bool:=nEq a.on b.on && decide (a.ground=b.ground)
theorem edEq_eq [Vars] (a b:Edge) (h:edEq a b=true):a=b:=by
 simp only[edEq,Bool.and_eq_true,decide_eq_true_eq] at h
 cases a;cases b;simp only[Edge.mk.injEq];exact⟨zz _ _ h.1,h.2⟩
def gdEq (a b:Nat × Bool):Bool:=nEq a.1 b.1 && bEq a.2 b.2
theorem gdEq_eq [Vars] (a b:Nat × Bool) (h:gdEq a b=true):a=b:=by
 simp only[gdEq,Bool.and_eq_true] at h
 exact Prod.ext (zz _ _ h.1) (bEq_eq _ _ h.2)
def orEq (a b:Oper):Bool:=Qf nEq a.dst b.dst && (opEq a.op b.op && (nEq a.type b.type && (arEq edEq a.after b.after && (Qf gdEq a.guard b.guard && decide (a.pos=b.pos)))))
theorem orEq_eq [Vars] (a b:Oper) (h:orEq a b=true):a=b:=by
 simp only[orEq,Bool.and_eq_true,decide_eq_true_eq] at h
 obtain⟨h1,h2,h3,h4,h5,h6⟩:=h
 cases a;cases b
 simp only[Oper.mk.injEq]
 exact⟨JP zz _ _ h1,opEq_eq _ _ h2,zz _ _ h3,h6,jh edEq_eq _ _ h4,JP gdEq_eq _ _ h5⟩
def Jz:Code→Code→Bool
 | .skip,.skip=>true
 | .ret,.ret=>true
 | .region i o d,.region j p e=>nEq i j && (arEq orEq o p && bEq d e)
 | .seq a b,.seq c d=>Jz a c && Jz b d
 | .cond x a b,.cond y c d=>xEq x y && (Jz a c && Jz b d)
 | .block i a,.block j b=>nEq i j && Jz a b
 | .loop a,.loop b=>Jz a b
 | .exit i,.exit j=>nEq i j
 | .label i,.label j=>nEq i j
 | .rangeFunc f p a b,.rangeFunc g q c d=>xEq f g && (arEq nEq p q && (Jz a c && Jz b d))
 | _,_=>false
theorem cdEq_eq [Vars]:∀(a b:Code),Jz a b=true→a=b:=by
 intro a
 induction a with
 | seq x y ihx ihy=>intro b h;cases b <;> simp only[Jz,Bool.and_eq_true,Bool.false_eq_true] at h;rw[ihx _ h.1,ihy _ h.2]
 | cond o x y ihx ihy=>intro b h;cases b <;> simp only[Jz,Bool.and_eq_true,Bool.false_eq_true] at h;rw[zq _ _ h.1,ihx _ h.2.1,ihy _ h.2.2]
 | block i x ih=>intro b h;cases b <;> simp only[Jz,Bool.and_eq_true,Bool.false_eq_true] at h;rw[zz _ _ h.1,ih _ h.2]
 | loop x ih=>intro b h;cases b <;> simp only[Jz,Bool.false_eq_true] at h;rw[ih _ h]
 | rangeFunc f p x y ihx ihy=>intro b h;cases b <;> simp only[Jz,Bool.and_eq_true,Bool.false_eq_true] at h;rw[zq _ _ h.1,jh zz _ _ h.2.1,ihx _ h.2.2.1,ihy _ h.2.2.2]
 | region i o d=>intro b h;cases b <;> simp only[Jz,Bool.and_eq_true,Bool.false_eq_true] at h;rw[zz _ _ h.1,jh orEq_eq _ _ h.2.1,bEq_eq _ _ h.2.2]
 | skip=>intro b h;cases b <;> simp only[Jz,Bool.false_eq_true] at h;rfl
 | ret=>intro b h;cases b <;> simp only[Jz,Bool.false_eq_true] at h;rfl
 | exit i=>intro b h;cases b <;> simp only[Jz,Bool.false_eq_true] at h;rw[zz _ _ h]
 | label i=>intro b h;cases b <;> simp only[Jz,Bool.false_eq_true] at h;rw[zz _ _ h]
 | _=>intro b h;cases b <;> simp only[Jz,Bool.false_eq_true] at h
end Go.AM
namespace Go.AM
open Go.RowKit
mutual
def jP:AV→AV→Bool
 | .undef,.undef=>true
 | .c a,.c b=>vEq a b
 | .ptr a b,.ptr c d=>a == c && b == d
 | .fptr a,.fptr b=>JW a b
 | .slc a b c d,.slc a' b' c' d'=>a == a' && b == b' && c == c' && d == d'
 | .fslc a b c l,.fslc a' b' c' l'=>a == a' && b == b' && c == c' && JW l l'
 | .map a,.map b=>a == b
 | .func (.func f) a b,.func (.func g) c d=>f == g && JW a c && JW b d
 | .iface t x,.iface u y=>t == u && jP x y
 | .agg a,.agg b=>JW a b
 | .tup a,.tup b=>JW a b
 | .chan a,.chan b=>a == b
 | .yld a,.yld b=>a == b
 | _,_=>false
def JW:List AV→List AV→Bool
 | [],[]=>true
 | x :: r,y :: q=>jP x y && JW r q
 | _,_=>false
end
mutual
theorem qw:∀(a b:AV),jP a b=true→a=b
 | .undef,b,h=>by cases b <;> simp_all [jP]
 | .c x,b,h=>by
  cases b with
  | c y=>simp only[jP] at h;rw[vEq_eq x y h]
  | _=>simp[jP] at h
 | .ptr ..,b,h=>by cases b <;> simp_all [jP]
 | .fptr l,b,h=>by
  cases b with
  | fptr k=>simp only[jP] at h;rw[jL l k h]
  | _=>simp[jP] at h
 | .slc ..,b,h=>by cases b <;> simp_all [jP]
 | .fslc _ _ _ l,b,h=>by
  cases b with
  | fslc _ _ _ k=>simp only[jP,Bool.and_eq_true,beq_iff_eq] at h;obtain⟨⟨⟨h1,h2⟩,h3⟩,h4⟩:=h;subst h1;subst h2;subst h3;rw[jL l k h4]
  | _=>simp[jP] at h
 | .map ..,b,h=>by cases b <;> simp_all [jP]
 | .func (.func f) a c,b,h=>by
  cases b with
  | func g a' c'=>
   cases g with
   | func g=>simp only[jP,Bool.and_eq_true,beq_iff_eq] at h;obtain⟨⟨h1,h2⟩,h3⟩:=h;subst h1;rw[jL a a' h2,jL c c' h3]
   | _=>simp[jP] at h
  | _=>simp[jP] at h
 | .func (.method _) a c,b,h | .func (.methodOf _ _) a c,b,h | .func (.yield _) a c,b,h=>by cases b <;> simp[jP] at h
 | .iface t x,b,h=>by
  cases b with
  | iface u y=>simp only[jP,Bool.and_eq_true,beq_iff_eq] at h;obtain⟨h1,h2⟩:=h;subst h1;rw[qw x y h2]
  | _=>simp[jP] at h
 | .agg l,b,h=>by
  cases b with
  | agg k=>simp only[jP] at h;rw[jL l k h]
  | _=>simp[jP] at h
 | .tup l,b,h=>by
  cases b with
  | tup k=>simp only[jP] at h;rw[jL l k h]
  | _=>simp[jP] at h
 | .chan ..,b,h=>by cases b <;> simp_all [jP]
 | .yld ..,b,h=>by cases b <;> simp_all [jP]
theorem jL:∀(a b:List AV),JW a b=true→a=b
 | [],b,h=>by cases b <;> simp_all [JW]
 | x :: r,b,h=>by
  cases b with
  | nil=>simp[JW] at h
  | cons y q=>
   simp only[JW,Bool.and_eq_true] at h
   rw[qw x y h.1,jL r q h.2]
end
def pEq {α:Type} (f:α→α→Bool):List (Nat × α)→List (Nat × α)→Bool
 | [],[]=>true|(k,x) :: r,(l,y) :: q=>k == l && f x y && pEq f r q
 | _,_=>false
theorem pEq_eq {α:Type} {f:α→α→Bool} (hf:∀a b,f a b=true→a=b):∀a b,pEq f a b=true→a=b
 | [],b,h=>by cases b <;> simp_all [pEq]|(k,x) :: r,b,h=>by
  cases b with
  | nil=>simp[pEq] at h
  | cons y q=>
   obtain⟨l,y⟩:=y
   simp only[pEq,Bool.and_eq_true,beq_iff_eq] at h
   obtain⟨⟨h1,h2⟩,h3⟩:=h
   subst h1
   rw[hf _ _ h2,pEq_eq hf r q h3]
def mEq:List (Value × AV)→List (Value × AV)→Bool
 | [],[]=>true|(k,x) :: r,(l,y) :: q=>vEq k l && jP x y && mEq r q
 | _,_=>false
theorem mEq_eq [Vars]:∀a b,mEq a b=true→a=b
 | [],b,h=>by cases b <;> simp_all [mEq]|(k,x) :: r,b,h=>by
  cases b with
  | nil=>simp[mEq] at h
  | cons y q=>
   obtain⟨l,y⟩:=y
   simp only[mEq,Bool.and_eq_true] at h
   obtain⟨⟨h1,h2⟩,h3⟩:=h
   rw[vEq_eq _ _ h1,qw _ _ h2,mEq_eq r q h3]
def lsEq:LoopState→LoopState→Bool
 | .ready,.ready=>true
 | .busy,.busy=>true
 | .done,.done=>true
 | .exhausted,.exhausted=>true
 | _,_=>false
theorem lsEq_eq (a b:LoopState) (h:lsEq a b=true):a=b:=by
 unfold lsEq at h
 split at h <;> first | rfl | cases h
def oEq:AObj→AObj→Bool
 | .cells a,.cells b=>JW a b
 | .tcells e t a,.tcells f u b=>nEq e f && (Qf nEq t u && JW a b)
 | .map k c a,.map k' c' b=>k == k' && c == c' && mEq a b
 | .iter a b c l,.iter a' b' c' l'=>a == a' && b == b' && c == c' && l == l'
 | .loop a b n s p x y,.loop a' b' n' s' p' x' y'=>lsEq a a' && (Qf Jz b b' && (nEq n n' && (pEq jP s s' && (arEq nEq p p' && (Jz x x' && Jz y y')))))
 | _,_=>false
theorem oEq_eq [Vars]:∀a b,oEq a b=true→a=b
 | .cells a,b,h=>by
  cases b with
  | cells b=>simp only[oEq] at h;rw[jL a b h]
  | _=>simp[oEq] at h
 | .tcells e t a,b,h=>by
  cases b with
  | tcells f u b=>simp only[oEq,Bool.and_eq_true] at h;rw[zz _ _ h.1,JP zz _ _ h.2.1,jL a b h.2.2]
  | _=>simp[oEq] at h
 | .map k c a,b,h=>by
  cases b with
  | map k' c' b=>simp only[oEq,Bool.and_eq_true,beq_iff_eq] at h;obtain⟨⟨h1,h2⟩,h3⟩:=h;subst h1;subst h2;rw[mEq_eq a b h3]
  | _=>simp[oEq] at h
 | .iter ..,b,h=>by cases b <;> simp_all [oEq]
 | .loop ..,b,h=>by
  cases b with
  | loop=>simp only[oEq,Bool.and_eq_true] at h;obtain⟨h1,h2,h3,h4,h5,h6,h7⟩:=h;rw[lsEq_eq _ _ h1,JP cdEq_eq _ _ h2,zz _ _ h3,pEq_eq qw _ _ h4,jh zz _ _ h5,cdEq_eq _ _ h6,cdEq_eq _ _ h7]
  | _=>simp[oEq] at h
 | .chan ..,b,h=>by cases b <;> simp[oEq] at h
structure FS where
 nt:Nat
 s:List (Nat × AV)
 h:List (Nat × AObj)
 n:Nat
def FS.st (x:FS):St:=⟨x.nt,x.s,lookO x.h,x.n⟩
def fsEq (a b:FS):Bool:=a.nt == b.nt && a.n == b.n && pEq jP a.s b.s && pEq oEq a.h b.h
theorem fsEq_eq [Vars] (a b:FS) (h:fsEq a b=true):a=b:=by
 obtain⟨a1,a2,a3,a4⟩:=a
 obtain⟨b1,b2,b3,b4⟩:=b
 simp only[fsEq,Bool.and_eq_true,beq_iff_eq] at h
 obtain⟨⟨⟨h1,h2⟩,h3⟩,h4⟩:=h
 rw[h1,h2,pEq_eq qw _ _ h3,pEq_eq oEq_eq _ _ h4]
def keepS (lm:Nat):List (Nat × AV)→List (Nat × AV)
 | []=>[]|(k,v) :: r=>bif lm.testBit k then (k,v) :: keepS lm r else keepS lm r
theorem Qw (lm:Nat):∀(l:List (Nat × AV)) (t:Nat),get (keepS lm l) t=.undef∨get (keepS lm l) t=get l t
 | [],t=>.inl rfl|(k,v) :: r,t=>by
  simp only[keepS]
  cases hk:lm.testBit k with
  | true=>
   simp only[cond_true,get]
   by_cases e:t=k
   ·rw[if_pos e,if_pos e];exact .inr rfl
   ·rw[if_neg e,if_neg e];exact Qw lm r t
  | false=>
   simp only[cond_false,get]
   by_cases e:t=k
   ·subst e
    left
    have:∀l:List (Nat × AV),get (keepS lm l) t=.undef:=by
     intro l
     induction l with
     | nil=>rfl
     | cons p q ih=>
      obtain⟨j,u⟩:=p
      simp only[keepS]
      cases hj:lm.testBit j with
      | true=>
       simp only[cond_true,get]
       by_cases e2:t=j
       ·subst e2;rw[hk] at hj;cases hj
       ·rw[if_neg e2];exact ih
      | false=>exact ih
    exact this r
   ·rw[if_neg e];exact Qw lm r t
theorem orU {a b c:AV} (h:a=.undef∨a=b) (k:b=.undef∨b=c):a=.undef∨a=c:=by
 rcases h with h | h
 ·exact .inl h
 ·rcases k with k | k
  ·exact .inl (h.trans k)
  ·exact .inr (h.trans k)
def insS (k:Nat) (v:AV):List (Nat × AV)→List (Nat × AV)
 | []=>[(k,v)]|(j,u) :: r=>bif Nat.blt j k then (j,u) :: insS k v r else (k,v) :: (j,u) :: r
def sortS:List (Nat × AV)→List (Nat × AV)
 | []=>[]|(k,v) :: r=>insS k v (sortS r)
theorem insS_get (k:Nat) (v:AV):∀(l:List (Nat × AV)) (t:Nat),get (insS k v l) t=if t=k then v else get l t
 | [],t=>rfl|(j,u) :: r,t=>by
  simp only[insS]
  cases hb:Nat.blt j k with
  | false=>rfl
  | true=>
   simp only[cond_true,get,insS_get k v r t]
   have hlt:j < k:=by simpa [Nat.blt_eq] using hb
   by_cases h1:t=j
   ·rw[if_pos h1,if_neg (by omega),if_pos h1]
   ·by_cases h2:t=k
    ·rw[if_neg h1,if_pos h2,if_pos h2]
    ·rw[if_neg h1,if_neg h2,if_neg h2,if_neg h1]
theorem sortS_get [Vars]:∀(l:List (Nat × AV)) (t:Nat),get (sortS l) t=get l t
 | [],t=>rfl|(k,v) :: r,t=>by simp only[sortS,insS_get,sortS_get r t,get]
def canF (lm:Nat) (rt:List Nat) (st:St):FS:=match st with
 | ⟨nt,s0,h,n⟩=>let s:=sortS (keepS lm (dds 0 s0))
  ⟨nt,s,QW h 3000 (jT (s.map (·.2)) ++ rt) [],n⟩
theorem Qg [Vars] {h:zI} (f:Nat) (l:List Nat):∀k o,lookO (QW h f l []) k=some o→h k=some o:=
 fun _ _ e=>lookO_sound (qC f l [] (fun x hx=>by cases hx)) e
theorem canF_wk [Vars] (lm:Nat) (rt:List Nat) (st:St):Wk st (canF lm rt st).st:=
 ⟨rfl,rfl,fun t=>orU (.inr (sortS_get _ t)) (orU (Qw lm _ t) (.inr (dds_get st.s 0 t (by simp)))),Qg _ _⟩
def nrmR (lm:Nat) (rt:List Nat) (st:St):FS:=match st with
 | ⟨nt,s0,h,n⟩=>let s:=keepS lm (dds 0 s0)
  ⟨nt,s,QW h 3000 (jT (s.map (·.2)) ++ rt) [],n⟩
theorem nrmR_wk [Vars] (lm:Nat) (rt:List Nat) (st:St):Wk st (nrmR lm rt st).st:=
 ⟨rfl,rfl,fun t=>orU (Qw lm _ t) (.inr (dds_get st.s 0 t (by simp))),Qg _ _⟩
def ddup {α:Type} (f:α→α→Bool):List α→List α
 | []=>[]
 | x :: r=>let r':=ddup f r;if r'.any (f x) then r' else x :: r'
theorem QS {α:Type} {f:α→α→Bool} (hf:∀a b,f a b=true→a=b):∀(l:List α) (x:α),x ∈ l→x ∈ ddup f l
 | [],_,h=>by cases h
 | y :: r,x,h=>by
  simp only[ddup]
  rcases List.mem_cons.1 h with rfl | h
  ·split
   ·rename_i ha
    obtain⟨z,hz,he⟩:=List.any_eq_true.1 ha
    rw[hf _ _ he];exact hz
   ·simp
  ·have:=QS hf r x h
   split
   ·exact this
   ·simp[this]
def joinS (lm:Nat) (rt:List Nat) (l:List St):List St:=match l with
 | []=>[]
 | [s]=>match nrmR lm rt s with | ⟨nt,s,h,n⟩=>[⟨nt,s,lookO h,n⟩]
 | l=>(ddup fsEq (l.map (canF lm rt))).map FS.st
theorem joinS_wk [Vars] {lm:Nat} {rt:List Nat} {l:List St} {s:St} (h:s ∈ l):∃s' ∈ joinS lm rt l,Wk s s':=by
 unfold joinS
 split
 ·cases h
 ·simp only[List.mem_singleton] at h
  subst h
  exact⟨(nrmR lm rt s).st,List.mem_singleton.2 rfl,nrmR_wk lm rt s⟩
 ·exact⟨_,List.mem_map_of_mem (QS fsEq_eq _ _ (List.mem_map_of_mem h)),canF_wk lm rt s⟩
def exEq:Exit→Exit→Bool
 | .normal,.normal=>true
 | .ret,.ret=>true
 | .exit a,.exit b=>a == b
 | _,_=>false
theorem exEq_eq:∀a b,exEq a b=true→a=b
 | .normal,b,h=>by cases b <;> simp_all [exEq]
 | .ret,b,h=>by cases b <;> simp_all [exEq]
 | .exit _,b,h=>by cases b <;> simp_all [exEq]
 | .goto _,b,h | .panic _,b,h | .outgrown,b,h=>by cases b <;> simp[exEq] at h
def joinE (lm:Nat) (rt:List Nat) (l:List (Exit × St)):List (Exit × St):=match l with
 | []=>[]
 | [s]=>[s]
 | l=>(ddup (fun a b=>exEq a.1 b.1 && fsEq a.2 b.2) (l.map fun x=>(x.1,canF lm rt x.2))).map fun x=>(x.1,x.2.st)
theorem joinE_wk [Vars] {lm:Nat} {rt:List Nat} {l:List (Exit × St)} {e:Exit} {s:St} (h:(e,s) ∈ l):∃s',(e,s') ∈ joinE lm rt l∧Wk s s':=by
 unfold joinE
 split
 ·cases h
 ·exact⟨s,h,rfl,rfl,fun _=>.inr rfl,fun _ _ e=>e⟩
 ·have h1:(e,canF lm rt s) ∈ l.map fun x=>(x.1,canF lm rt x.2):=List.mem_map.2 ⟨_,h,rfl⟩
  have h2:=QS (f:=fun a b:Exit × FS=>exEq a.1 b.1 && fsEq a.2 b.2) (fun a b hab=>by
   simp only[Bool.and_eq_true] at hab
   exact Prod.ext (exEq_eq _ _ hab.1) (fsEq_eq _ _ hab.2)) _ _ h1
  exact⟨_,List.mem_map.2 ⟨_,h2,rfl⟩,canF_wk lm rt s⟩
def bindL {α β:Type} (f:α→Option (List β)):List α→Option (List β)
 | []=>some []
 | x :: r=>match r with
  | []=>f x
  | y :: q=>match f x with
   | none=>none
   | some a=>match bindL f (y :: q) with
    | none=>none
    | some b=>some (a ++ b)
theorem QE {α β:Type} {f:α→Option (List β)}:∀{l:List α} {L:List β},bindL f l=some L→∀x ∈ l,∃L',f x=some L'∧∀y ∈ L',y ∈ L
 | [],_,_,x,h=>by cases h
 | z :: r,L,hb,x,h=>by
  cases r with
  | nil=>
   simp only[List.mem_singleton] at h
   subst h
   exact⟨L,hb,fun _ h=>h⟩
  | cons y q=>
   simp only[bindL] at hb
   split at hb
   ·cases hb
   ·rename_i a ha
    split at hb
    ·cases hb
    ·rename_i b hb2
     cases hb
     rcases List.mem_cons.1 h with rfl | h
     ·exact⟨a,ha,fun y hy=>List.mem_append.2 (.inl hy)⟩
     ·obtain⟨L',h1,h2⟩:=QE hb2 x h
      exact⟨L',h1,fun y hy=>List.mem_append.2 (.inr (h2 y hy))⟩
def Ju {α β:Type} (o:Option (List α)) (f:α→Option (List β)):Option (List β):=match o with
 | none=>none
 | some l=>bindL f l
theorem jG [Vars] {α β:Type} {o:Option (List α)} {f:α→Option (List β)} {L:List β} (h:Ju o f=some L):∃l,o=some l∧∀x ∈ l,∃L',f x=some L'∧∀y ∈ L',y ∈ L:=by
 unfold Ju at h
 split at h
 ·cases h
 ·rename_i l;exact⟨l,rfl,fun x hx=>QE h x hx⟩
end Go.AM
namespace Go.AM
open Go.RowKit
abbrev Outs:=Option (List (AV × zI × Nat))
abbrev CTr:=List Nat→AV→List AV→zI→Nat→Outs
def qD [Vars] (P:Program) (ct:CTr):Prop:=∀rt fv args h n L,ct rt fv args h n=some L→∀K:AV→zI→Nat→Prop,(∀o ∈ L,K o.1 o.2.1 o.2.2)→callK P fv args h n K
abbrev CCl:=AV→List AV→Option AV
def Q5 [Vars] (P:Program) (cl:CCl):Prop:=∀fv args x,cl fv args=some x→∀h n (K:AV→zI→Nat→Prop),K x h n→callK P fv args h n K
def ptrOk (base:Nat) (rem:List Nat):AV→Bool
 | .ptr m _=>rem.all fun j=>m != base + j
 | _=>true
section
variable (P : Program) (ct : CTr) (cl : CCl) (rt : List Nat) (ops : Array Oper) (base : Nat)
def evVal [Vars] (nm:Nat) (o:Oper) (st:St):Outs:=match ZR ops st.s o.guard with
 | none=>none
 | some false=>some [(.tup [],st.h,st.n)]
 | some true=>match Zo o.op with
  | some (f,args)=>ct (jT (st.s.map (·.2)) ++ rt) (ev st.s f) (args.map (ev st.s)) st.h st.n
  | none=>match zc P nm o.op st.s st.h with
   | some (x,h)=>some [(x,h,st.n)]
   | none=>none
def evOp [Vars] (nm:Nat) (o:Oper) (st:St) (k:St→Option (List St)):Option (List St):=if Zh st.nt o.dst then Ju (evVal P ct rt ops nm o st) fun r=>k (put ⟨st.nt,st.s,r.2.1,r.2.2⟩ o.dst r.1) else none
def qv [Vars]:Nat→List Oper→St→Option (List St)
 | _,[],st=>some [st]
 | i,o :: r,st=>evOp P ct rt ops (base + i) o st (qv (i + 1) r)
def evFree [Vars] (cm:Bool) (rem:List Nat) (nm:Nat) (o:Oper) (st:St):Option AV:=match Zo o.op with
 | some (f,args)=>if cm then match ZR ops st.s o.guard with
   | none=>none
   | some false=>some (.tup [])
   | some true=>cl (ev st.s f) (args.map (ev st.s))
  else none
 | none=>match Z7 P o.op with
  | .a=>(JV P ops nm o st.s st.h).map (·.1)
  | .b x=>if ptrOk base rem (ev st.s x) then (JV P ops nm o st.s st.h).map (·.1) else none
  | _=>none
def evAll [Vars] (k:List Nat→St→Option (List St)) (rem R:List Nat) (st:St):Option (List St):=match R with
 | []=>none
 | _=>bindL (fun i=>match ops[i]? with
   | none=>none
   | some o=>evOp P ct rt ops (base + i) o st (k (rem.erase i))) R
def evR [Vars] (cm:Bool):Nat→List Nat→St→Option (List St)
 | 0,rem,st=>if rem.isEmpty then some [st] else none
 | f + 1,rem,st=>match rem with
  | []=>some [st]
  | _ :: _=>match pick cm P ops rem with
   | none=>evAll P ct rt ops base (evR cm f) rem (rem.filter (rdy ops rem)) st
   | some i=>match ops[i]? with
    | none=>none
    | some o=>if cls cm P o≤1 then (if Zh st.nt o.dst then match evFree P cl ops base cm rem (base + i) o st with
      | some x=>evR cm f (rem.erase i) (put st o.dst x)
      | none=>none
     else none) else evAll P ct rt ops base (evR cm f) rem (rem.filter (rdy ops rem)) st
end
section
variable {P : Program} {ct : CTr} {cl : CCl} {rt : List Nat} {ops : Array Oper} {base : Nat}
theorem evVal_ok [Vars] (hct:qD P ct) {nm:Nat} {o:Oper} {st:St} {L:List (AV × zI × Nat)} (h:evVal P ct rt ops nm o st=some L) {K:AV→zI→Nat→Prop} (hK:∀o ∈ L,K o.1 o.2.1 o.2.2):Zx P ops nm o st.s st.h st.n K:=by
 unfold evVal at h
 unfold Zx
 split at h
 ·cases h
 ·rename_i hw;rw[hw];cases h;exact hK (.tup [],st.h,st.n) (by simp)
 ·rename_i hw
  rw[hw]
  split at h
  ·rename_i f args hc;rw[hc];exact hct _ _ _ _ _ _ h K hK
  ·rename_i hc
   rw[hc]
   split at h
   ·rename_i x h' hs;cases h;simp only[hs,jq];exact hK (x,h',st.n) (by simp)
   ·cases h
theorem evOp_ok [Vars] (hct:qD P ct) {nm:Nat} {o:Oper} {st:St} {k:St→Option (List St)} {L:List St} (h:evOp P ct rt ops nm o st k=some L) {K:St→Prop} (hk:∀s L',k s=some L'→(∀y ∈ L',y ∈ L)→K s):aOp P ops nm o st K:=by
 unfold evOp at h
 split at h
 ·rename_i hd
  obtain⟨l,h1,h2⟩:=jG h
  refine⟨hd,evVal_ok hct h1 fun r hr=>?_⟩
  obtain⟨L',h3,h4⟩:=h2 r hr
  exact hk _ L' h3 h4
 ·cases h
theorem qM [Vars] (hct:qD P ct) {K:St→Prop}:∀(l:List Oper) (i:Nat) (st:St) (L:List St),qv P ct rt ops base i l st=some L→(∀s ∈ L,K s)→Jb P ops base K i l st
 | [],i,st,L,h,hK=>by simp only[qv,Option.some.injEq] at h;subst h;exact hK st (by simp)
 | o :: r,i,st,L,h,hK=>by
  simp only[qv] at h
  exact evOp_ok hct h fun s L' h1 h2=>qM hct r (i + 1) s L' h1 fun y hy=>hK y (h2 y hy)
theorem pick_some {cm:Bool} {rem:List Nat} {i:Nat} (h:pick cm P ops rem=some i):i ∈ rem∧rdy ops rem i=true∧freeAt cm P ops rem i=true:=by
 unfold pick at h
 split at h
 ·rename_i j hj
  cases h
  have h1:=List.find?_some hj
  simp only[Bool.and_eq_true] at h1
  exact⟨List.mem_of_find?_eq_some hj,h1.1.2,h1.2⟩
 ·have h1:=List.find?_some h
  simp only[Bool.and_eq_true] at h1
  exact⟨List.mem_of_find?_eq_some h,h1.1,h1.2⟩
theorem freeAt_free {cm:Bool} {rem:List Nat} {i:Nat} {o:Oper} (ho:ops[i]? = some o) (h:freeAt cm P ops rem i=true):Free P ops o i (fun q=>cls cm P o=0∨mild P q=true) rem:=by
 intro j hj hne
 unfold freeAt at h
 rw[ho] at h
 have:=List.all_eq_true.1 h j hj
 simp only[Bool.or_eq_true,beq_iff_eq] at this
 rcases this with (h1 | h1)|h1
 ·exact absurd h1 hne
 ·exact .inl ⟨_,h1⟩
 ·split at h1
  ·rename_i q hq
   simp only[Bool.and_eq_true,Bool.or_eq_true,beq_iff_eq] at h1
   refine .inr ⟨q,hq,h1.1,?_⟩
   rcases h1.2 with h2 | h2
   ·exact .inl h2
   ·exact .inr h2.2
  ·cases h1
theorem evR_ok [Vars] (hct:qD P ct) (hcl:Q5 P cl) {cm:Bool} {Q:St→Prop} (hQ:∀a b,Eqv a b→Q a→Q b):∀(f:Nat) (rem:List Nat) (st:St) (L:List St),rem.Nodup→evR P ct cl rt ops base cm f rem st=some L→(∀s ∈ L,Q s)→aAny P ops base Q f rem st:=by
 intro f
 induction f with
 | zero=>
  intro rem st L hnd h hL
  simp only[evR] at h
  split at h
  ·rename_i he
   cases h
   exact⟨List.isEmpty_iff.1 he,hL st (by simp)⟩
  ·cases h
 | succ f ih=>
  intro rem st L hnd h hL
  have hall:∀R,R=rem.filter (rdy ops rem)→rem≠[]→evAll P ct rt ops base (evR P ct cl rt ops base cm f) rem R st=some L→aAny P ops base Q (f + 1) rem st:=by
   intro R hR hne ha
   unfold evAll at ha
   split at ha
   ·cases ha
   ·rename_i x hne2
    refine⟨fun e=>absurd e hne,fun _=>?_,fun i hi hr=>?_⟩
    ·cases R with
     | nil=>exact absurd rfl hne2
     | cons i R=>
      have:i ∈ rem.filter (rdy ops rem):=by rw[←hR];simp
      exact⟨i,(List.mem_filter.1 this).1,(List.mem_filter.1 this).2⟩
    ·obtain⟨L',h1,h2⟩:=QE ha i (by rw[hR];exact List.mem_filter.2 ⟨hi,hr⟩)
     split at h1
     ·cases h1
     ·rename_i o ho
      exact⟨o,ho,evOp_ok hct h1 fun s L'' h3 h4=>ih _ _ L'' (hnd.erase i) h3 fun y hy=>hL y (h2 y (h4 y hy))⟩
  unfold evR at h
  split at h
  ·cases h
   exact⟨fun _=>hL st (by simp),fun e=>absurd rfl e,fun i hi=>by cases hi⟩
  ·rename_i a b
   split at h
   ·exact hall _ rfl (by simp) h
   ·rename_i i hp
    obtain⟨p1,p2,p3⟩:=pick_some hp
    split at h
    ·cases h
    ·rename_i o ho
     split at h
     ·rename_i hcls
      split at h
      ·rename_i hd
       split at h
       ·rename_i x hx
        have hF:=freeAt_free ho p3
        have hrest:=ih _ _ L (hnd.erase i) h hL
        unfold evFree at hx
        split at hx
        ·-- a call
         rename_i fo args hc
         split at hx
         ·rename_i hcm
          refine pure_first hQ ho f _ st hnd p1 p2 (fun j hj hne=>?_) ?_ hd hrest
          ·rcases hF j hj hne with h1 | ⟨q,h1,h2,_⟩
           ·exact .inl h1
           ·exact .inr ⟨q,h1,h2,trivial⟩
          ·intro s' ha h' n' K hk
           refine (Zc ha).1 ?_
           unfold Zx
           split at hx
           ·cases hx
           ·rename_i hw;rw[hw];cases hx;exact hk
           ·rename_i hw;rw[hw,hc];exact hcl _ _ _ hx h' n' K hk
         ·cases hx
        ·rename_i hc
         split at hx
         ·rename_i hcl2
          obtain⟨X,hX⟩:=f_a (ops:=ops) hcl2 st.s
          rw[hX] at hx
          cases X with
          | none=>cases hx
          | some y=>
           simp only[Option.map_some,Option.some.injEq] at hx
           subst hx
           refine pure_first hQ ho f _ st hnd p1 p2 (fun j hj hne=>?_) ?_ hd hrest
           ·rcases hF j hj hne with h1 | ⟨q,h1,h2,_⟩
            ·exact .inl h1
            ·exact .inr ⟨q,h1,h2,trivial⟩
           ·intro s' ha h' n' K hk
            refine (Zc ha).1 ?_
            rw[Jm (by rw[hcl2];simp),hX]
            exact hk
         ·rename_i xo hcl2
          split at hx
          ·rename_i hptr
           obtain⟨X,hX,_⟩:=f_b (ops:=ops) hcl2 st.s
           have h0:cls cm P o≠0:=by simp[cls,hc,hcl2]
           refine read_first hQ ho f _ st hnd p1 p2 (fun j hj hne=>?_) ?_ hd hrest
           ·rcases hF j hj hne with h1 | ⟨q,h1,h2,h3⟩
            ·exact .inl h1
            ·exact .inr ⟨q,h1,h2,h3.resolve_left h0⟩
           ·intro s' ha h' hh n' K hk
            refine (Zc ha).1 ?_
            rw[Jm (by rw[hcl2];simp),hX]
            rw[hX] at hx
            have fin:∀(y:Option AV) (h0 h1:zI),(y.map fun z=>(z,h0)).map (·.1)=some x→K x h1 n'→jq (y.map fun z=>(z,h1)) n' K:=by
             intro y h0 h1 e hk
             cases y with
             | none=>cases e
             | some y=>simp only[Option.map_some,Option.some.injEq] at e;subst e;exact hk
            generalize ev st.s xo=a at hx hptr ⊢
            cases a with
            | ptr m off=>
             have e:h' m=st.h m:=hh m fun j hj=>by
              simp only[ptrOk] at hptr
              have:=List.all_eq_true.1 hptr j hj
              simpa using this
             simp only[e]
             exact fin _ _ _ hx hk
            | _=>exact fin _ _ _ hx hk
          ·cases hx
         ·cases hx
       ·cases h
      ·cases h
     ·exact hall _ rfl (by simp) h
end
end Go.AM
