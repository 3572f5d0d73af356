/- More of the machine. Conditions: as each theorem says. -/
import Derived.Shelf.SlGeneric
import Derived.Shelf.SlSortCmp.NoneTotal
import Derived.Ground.SlsfProg
import Derived.Test.YtkbgmkhdjmkpdaaGreatDoorProg
import Derived.Test.YtkbgmkhdjmkpdaaGreatDoorSy
import Derived.Test.YtkbgmkhdjmkpdaaGreatDoorLk
namespace Go.AM
open Go.RowKit
def chOK (E:List Nat) (ops:Array Oper):Bool:=(qOK ops && (List.range E.length).all fun k=>(List.range k).all fun l=>decide (E.getD l 0 < E.getD k 0)) &&
 ((List.range E.length).all fun k=>k == 0 || (match ops[E.getD k 0]? with | some o=>o.after.toList.any fun e=>e.on == E.getD (k - 1) 0 && Region.binds .any e | none=>false)) &&
 E.getLast? == some (ops.size - 1) &&
 (List.range (ops.size - 1)).all fun p=>((jO [] ops.toList).getD (ops.size - 1) 0).testBit p
section
variable {P : Program} {ops : Array Oper}
def aC [Vars] (P:Program) (ops:Array Oper) (E:List Nat) (Hp:zI→Prop) (base nt:Nat) (n:Nat) (K:List (Nat × AV)→zI→Prop):Nat→List Oper→List (Nat × AV)→zI→Prop
 | _,[],s,h=>K s h
 | i,o :: r,s,h=>Zu nt o.dst=true∧((i ∈ E∧∃x h2,ZN P ops (base + i) o s h n (fun x' h' n'=>x'=x∧h'=h2∧n'=n)∧(r=[]∨Hp h2)∧aC P ops E Hp base nt n K (i + 1) r (pS o.dst x s) h2)∨
   (i ∉ E∧∃x,(∀h',Hp h'→ZN P ops (base + i) o s h' n (fun x' h2 n'=>x'=x∧h2=h'∧n'=n))∧aC P ops E Hp base nt n K (i + 1) r (pS o.dst x s) h))
def CF [Vars] (P:Program) (ops:Array Oper) (E:List Nat) (Hp:zI→Prop) (base nt:Nat) (n:Nat) (S0:List (Nat × AV)) (X:Nat→AV) (M:Nat→zI) (i:Nat) (o:Oper):Prop:=
 Zu nt o.dst=true∧((i ∈ E∧ZN P ops (base + i) o (ZE ops S0 X i) (M i) n (fun x' h' n'=>x'=X i∧h'=M (i + 1)∧n'=n)∧(i + 1=ops.size∨Hp (M (i + 1))))∨
  (i ∉ E∧M (i + 1)=M i∧∀h',Hp h'→ZN P ops (base + i) o (ZE ops S0 X i) h' n (fun x' h2 n'=>x'=X i∧h2=h'∧n'=n)))
theorem aC_facts [Vars] {E:List Nat} {Hp:zI→Prop} {base nt:Nat} {n:Nat} {K:List (Nat × AV)→zI→Prop} {S0:List (Nat × AV)}:∀(l:List Oper) (i:Nat) (X0:Nat→AV) (M0:Nat→zI),ops.toList.drop i=l→i≤ops.size→aC P ops E Hp base nt n K i l (ZE ops S0 X0 i) (M0 i)→
  ∃X M,(∀j,j < i→X j=X0 j)∧(∀j,j≤i→M j=M0 j)∧(∀j o,i≤j→ops[j]? = some o→CF P ops E Hp base nt n S0 X M j o)∧K (ZE ops S0 X ops.size) (M ops.size)
 | [],i,X0,M0,hd,hi,hq=>by
  have hle:ops.size≤i:=by
   have:=congrArg List.length hd
   rw[List.length_drop,Array.length_toList] at this
   simp at this;omega
  have he:i=ops.size:=by omega
  subst he
  exact⟨X0,M0,fun _ _=>rfl,fun _ _=>rfl,fun j o hj ho=>by have:=(Array.getElem?_eq_some_iff.1 ho).1;omega,hq⟩
 | o :: r,i,X0,M0,hd,hi,hq=>by
  obtain⟨h1,h2⟩:=hq
  have hio:ops[i]? = some o:=by
   have:=congrArg List.head? hd
   rw[List.head?_drop] at this
   simpa using this
  have hlt:=(Array.getElem?_eq_some_iff.1 hio).1
  have hd2:ops.toList.drop (i + 1)=r:=by
   have:=congrArg List.tail hd
   rw[List.tail_drop] at this
   simpa using this
  have hlen:r=[]→i + 1=ops.size:=fun e=>by
   have:=congrArg List.length hd2
   rw[e,List.length_drop,Array.length_toList] at this
   simp at this;omega
  obtain⟨x,m,h3,h4⟩:∃x m,aC P ops E Hp base nt n K (i + 1) r (pS o.dst x (ZE ops S0 X0 i)) m∧((i ∈ E∧ZN P ops (base + i) o (ZE ops S0 X0 i) (M0 i) n (fun x' h' n'=>x'=x∧h'=m∧n'=n)∧(i + 1=ops.size∨Hp m))∨(i ∉ E∧m=M0 i∧∀h',Hp h'→ZN P ops (base + i) o (ZE ops S0 X0 i) h' n (fun x' h2 n'=>x'=x∧h2=h'∧n'=n))):=by
   rcases h2 with ⟨a,x,m,b,c,d⟩ | ⟨a,x,b,c⟩
   ·exact⟨x,m,d,.inl ⟨a,b,c.imp hlen id⟩⟩
   ·exact⟨x,M0 i,c,.inr ⟨a,rfl,b⟩⟩
  obtain⟨X1,hX1⟩:∃X1:Nat→AV,X1=fun j=>if j=i then x else X0 j:=⟨_,rfl⟩
  obtain⟨M1,hM1⟩:∃M1:Nat→zI,M1=fun j=>if j=i + 1 then m else M0 j:=⟨_,rfl⟩
  have e0:ZE ops S0 X1 i=ZE ops S0 X0 i:=j6 i fun j hj=>by rw[hX1];simp only;rw[if_neg (by omega)]
  have e1:X1 i=x:=by rw[hX1];simp
  have e2:ZE ops S0 X1 (i + 1)=pS o.dst x (ZE ops S0 X0 i):=by
   simp only[ZE];rw[hio,e0,e1]
  have e3:M1 (i + 1)=m:=by rw[hM1];simp
  rw[←e2,←e3] at h3
  obtain⟨X,M,g1,g2,g3,g4⟩:=aC_facts r (i + 1) X1 M1 hd2 (by omega) h3
  have eX:ZE ops S0 X i=ZE ops S0 X0 i:=by rw[←e0];exact j6 i fun j hj=>g1 j (by omega)
  have eM:M i=M0 i:=by rw[g2 i (by omega),hM1];simp
  have eM1:M (i + 1)=m:=by rw[g2 (i + 1) (Nat.le_refl _),e3]
  have eXi:X i=x:=by rw[g1 i (by omega),e1]
  refine⟨X,M,fun j hj=>?_,fun j hj=>?_,fun j o' hj ho'=>?_,g4⟩
  ·rw[g1 j (by omega),hX1];simp only;rw[if_neg (by omega)]
  ·rw[g2 j (by omega),hM1];simp only;rw[if_neg (by omega)]
  ·by_cases hji:j=i
   ·subst hji
    rw[hio] at ho';cases ho'
    refine⟨h1,?_⟩
    rw[eX,eM,eM1,eXi]
    exact h4
   ·exact g3 j o' (by omega) ho'
theorem chOK_q {E:List Nat} (hok:chOK E ops=true):qOK ops=true:=by
 simp only[chOK,Bool.and_eq_true] at hok;exact hok.1.1.1.1
theorem jG {E:List Nat} (hok:chOK E ops=true) {k l a b:Nat} (hk:E[k]? = some b) (hl:E[l]? = some a) (h:l < k):a < b:=by
 simp only[chOK,Bool.and_eq_true] at hok
 have hlt:=(List.getElem?_eq_some_iff.1 hk).1
 have h1:=List.all_eq_true.1 hok.1.1.1.2 k (by simpa using hlt)
 have h2:=List.all_eq_true.1 h1 l (by simpa using h)
 rw[decide_eq_true_eq,List.getD_eq_getElem?_getD,hl,List.getD_eq_getElem?_getD,hk] at h2
 exact h2
theorem chOK_last {E:List Nat} (hok:chOK E ops=true):E.getLast? = some (ops.size - 1):=by
 simp only[chOK,Bool.and_eq_true,beq_iff_eq] at hok;exact hok.1.2
theorem Qc {E:List Nat} (hok:chOK E ops=true) {k i j:Nat} (hj:E[k]? = some j) (hi:E[k + 1]? = some i) {o:Oper} (ho:ops[i]? = some o):∃e ∈ o.after,e.on=j∧Region.binds .any e=true:=by
 simp only[chOK,Bool.and_eq_true] at hok
 have hlt:=(List.getElem?_eq_some_iff.1 hi).1
 have h1:=List.all_eq_true.1 hok.1.1.2 (k + 1) (by simpa using hlt)
 have e1:E.getD (k + 1) 0=i:=by rw[List.getD_eq_getElem?_getD,hi];rfl
 have e2:E.getD (k + 1 - 1) 0=j:=by rw[List.getD_eq_getElem?_getD,Nat.add_sub_cancel,hj];rfl
 rw[e1,e2,ho] at h1
 simp only[Bool.or_eq_true,beq_iff_eq,Nat.add_eq_zero_iff,Nat.one_ne_zero,and_false,false_or,List.any_eq_true,Bool.and_eq_true] at h1
 obtain⟨e,he,h2,h3⟩:=h1
 exact⟨e,by simpa using he,h2,h3⟩
theorem chOK_anc {E:List Nat} (hok:chOK E ops=true) {p:Nat} (hp:p < ops.size - 1):((jO [] ops.toList).getD (ops.size - 1) 0).testBit p=true:=by
 simp only[chOK,Bool.and_eq_true] at hok
 exact List.all_eq_true.1 hok.2 p (by simpa using hp)
section
variable {E : List Nat} {Hp : zI → Prop} {base nt n : Nat} {S0 : List (Nat × AV)} {X : Nat → AV} {M : Nat → zI}
theorem m_const [Vars] (hF:∀i o,ops[i]? = some o→CF P ops E Hp base nt n S0 X M i o) {a:Nat}:∀(d:Nat),a + d≤ops.size→(∀j,a≤j→j < a + d→j ∉ E)→M (a + d)=M a
 | 0,_,_=>rfl
 | d + 1,h,hn=>by
  have ih:=m_const hF (a:=a) d (by omega) fun j h1 h2=>hn j h1 (by omega)
  obtain⟨_,h3⟩:=hF (a + d) ops[a + d] (Array.getElem?_eq_getElem (by omega))
  rcases h3 with ⟨h4,_⟩ | ⟨_,h5,_⟩
  ·exact absurd h4 (hn _ (by omega) (by omega))
  ·rw[←Nat.add_assoc,h5,ih]
theorem m_hp [Vars] (hF:∀i o,ops[i]? = some o→CF P ops E Hp base nt n S0 X M i o) (h0:Hp (M 0)):∀(i:Nat),i < ops.size→Hp (M i)
 | 0,_=>h0
 | i + 1,h=>by
  have ih:=m_hp hF h0 i (by omega)
  obtain⟨_,h3⟩:=hF i ops[i] (Array.getElem?_eq_getElem (by omega))
  rcases h3 with ⟨_,_,h4⟩ | ⟨_,h5,_⟩
  ·rcases h4 with h4 | h4
   ·omega
   ·exact h4
  ·rw[h5];exact ih
theorem chain_ok [Vars] (r:Option Nat) (hok:chOK E ops=true) {w0:World} {G0:Gh} {fl:Nat} (hfl:fl≤base) {Q:Exit→Act→World→Prop} (hF:∀i o,ops[i]? = some o→CF P ops E Hp base nt n S0 X M i o) (hH0:Hp (M 0))
  (hQ:∀G s a w,RSim w0 G0 fl base [] G ⟨nt,s,M ops.size,n⟩ a w→(∀t,get s t=get (ZE ops S0 X ops.size) t)→Q .normal a w):∀(fuel:Nat) (rem:List Nat) (listed:Array Bool) (G:Gh) (s:List (Nat × AV)) (a:Act) (w:World),
  rem.length≤fuel→rem.Pairwise (·< ·)→(∀j,j ∈ rem↔j < ops.size∧listed.getD j true=false)→listed.size=ops.size→SI ops S0 X listed s→
  (∀(i:Nat) o,ops[i]? = some o→listed.getD i false=true→∀e ∈ o.after,Region.binds .any e=true→listed.getD e.on false=true)→
  RSim w0 G0 fl base rem G ⟨nt,s,M (nx E ops.size listed),n⟩ a w→wpAnyIn (FR r) 0 P .any ops Q fuel listed a w:=by
 have hq:=chOK_q hok
 have hlast:=chOK_last hok
 intro fuel
 have hend:∀(listed:Array Bool) (G:Gh) (s:List (Nat × AV)) (a:Act) (w:World),(∀j,j ∈ ([]:List Nat)↔j < ops.size∧listed.getD j true=false)→listed.size=ops.size→SI ops S0 X listed s→RSim w0 G0 fl base [] G ⟨nt,s,M (nx E ops.size listed),n⟩ a w→Q .normal a w:=by
  intro listed G s a w hr hsz I S
  have hl:∀j,j < ops.size→listed.getD j false=true:=by
   intro j hj
   have h1:¬(j < ops.size∧listed.getD j true=false):=fun h=>by have:=(hr j).2 h;simp at this
   have hlt:j < listed.size:=by omega
   simp only[Array.getD_eq_getD_getElem?,Array.getElem?_eq_getElem hlt,Option.getD_some] at h1 ⊢
   cases hv:listed[j] with
   | true=>rfl
   | false=>exact absurd ⟨hj,hv⟩ h1
  have hnx:M (nx E ops.size listed)=M ops.size:=by
   unfold nx
   cases hf:E.find? fun e=>!listed.getD e false with
   | none=>rfl
   | some e=>
    have h1:=List.find?_some hf
    by_cases he:e < ops.size
    ·rw[hl e he] at h1;cases h1
    ·-- beyond the region: nothing runs there
     have hle:∀k:Nat,∀e,E[k]? = some e→e≤ops.size - 1:=by
      intro k e hk
      have hlt:=(List.getElem?_eq_some_iff.1 hk).1
      rw[List.getLast?_eq_getElem?] at hlast
      by_cases hk2:k=E.length - 1
      ·subst hk2;rw[hk] at hlast;cases hlast;exact Nat.le_refl _
      ·have:=jG hok hlast hk (by omega);omega
     obtain⟨k,hk⟩:=List.getElem?_of_mem (List.mem_of_find?_eq_some hf)
     have:=hle k e hk
     have h0:ops.size=0:=by omega
     have he0:e=0:=by omega
     simp only[Option.getD_some]
     rw[he0,h0]
  rw[hnx] at S
  refine hQ G s a w S fun t=>?_
  by_cases hx:∃(j:Nat) (q:Oper),ops[j]? = some q∧q.dst=some t
  ·obtain⟨j,q,hq2,hd⟩:=hx
   have hj:=(Array.getElem?_eq_some_iff.1 hq2).1
   rw[QC hq hq2 hd _ hj,I.done t j q hq2 hd (hl j hj)]
  ·rw[Jz _ fun j q _ hq hd=>hx ⟨j,q,hq,hd⟩,I.not t fun j q hq hd=>absurd ⟨j,q,hq,hd⟩ hx]
 induction fuel with
 | zero=>
  intro rem listed G s a w hf hs hr hsz I hd S
  have:rem=[]:=List.length_eq_zero_iff.1 (by omega)
  subst this
  refine⟨?_,hend listed G s a w hr hsz I S⟩
  cases hrd:Region.ready .any ops listed with
  | nil=>rfl
  | cons i r=>
   obtain⟨h1,h2,_⟩:=Zq (by rw[hrd];simp:i ∈ Region.ready .any ops listed)
   have:=(hr i).2 ⟨h1,h2⟩
   simp at this
 | succ fuel ih=>
  intro rem listed G s a w hf hs hr hsz I hd S
  refine⟨fun hnil=>?_,fun i hi=>?_⟩
  ·cases rem with
   | nil=>exact hend listed G s a w hr hsz I S
   | cons i r=>
    exfalso
    obtain⟨hi1,hi2⟩:=(hr i).1 (by simp)
    have hready:i ∈ Region.ready .any ops listed:=by
     simp only[Region.ready,List.mem_filter,List.mem_range,Bool.and_eq_true,Bool.not_eq_true']
     refine⟨hi1,hi2,?_⟩
     rw[Array.getElem?_eq_getElem hi1]
     simp only[Option.map_some,Option.getD_some]
     refine Array.all_eq_true_iff_forall_mem.2 fun e he=>?_
     by_cases hb:Region.binds .any e=true
     ·have hlt:=qOK_edge hq (Array.getElem?_eq_getElem hi1) e he hb
      have:listed.getD e.on false=true:=by
       have hne:e.on ∉ i :: r:=by
        intro hm
        rcases List.mem_cons.1 hm with h' | h'
        ·omega
        ·have:=(List.pairwise_cons.1 hs).1 _ h';omega
       have h3:¬(e.on < ops.size∧listed.getD e.on true=false):=fun h'=>hne ((hr _).2 h')
       have hlt2:e.on < listed.size:=by omega
       simp only[Array.getD_eq_getD_getElem?,Array.getElem?_eq_getElem hlt2,Option.getD_some] at h3 ⊢
       cases hv:listed[e.on] with
       | true=>rfl
       | false=>exact absurd ⟨by omega,hv⟩ h3
      simp[this]
     ·simp[hb]
    rw[hnil] at hready
    cases hready
  ·obtain⟨h1,h2,o,ho,h3⟩:=Zq hi
   have hirem:i ∈ rem:=(hr i).2 ⟨h1,h2⟩
   have hnd:rem.Nodup:=hs.imp (fun h=>Nat.ne_of_lt h)
   have hmove:∀j,j ∈ i :: rem.erase i→j ∈ rem:=fun j hj=>by
    rcases List.mem_cons.1 hj with rfl | hj
    ·exact hirem
    ·exact List.mem_of_mem_erase hj
   have hnot:i ∉ rem.erase i:=fun h'=>(hnd.mem_erase_iff.1 h').1 rfl
   have hil:i < listed.size:=by omega
   have hif:listed.getD i false=false:=by
    simp only[Array.getD_eq_getD_getElem?,Array.getElem?_eq_getElem hil,Option.getD_some] at h2 ⊢
    exact h2
   have hget:∀j,(listed.setIfInBounds i true).getD j false=if i=j then true else listed.getD j false:=by
    intro j
    simp only[Array.getD_eq_getD_getElem?,Array.getElem?_setIfInBounds]
    by_cases e:i=j
    ·subst e;simp[hil]
    ·simp[e]
   obtain⟨f1,f2⟩:=hF i o ho
   have hop:aOp P ops (base + i) o ⟨nt,s,M (nx E ops.size listed),n⟩ (fun st'=>st'=⟨nt,pS o.dst (X i) s,M (nx E ops.size (listed.setIfInBounds i true)),n⟩):=by
    rcases f2 with ⟨hE,f3,_⟩ | ⟨hE,f3,f4⟩
    ·-- of the chain
     obtain⟨k,hk⟩:=List.getElem?_of_mem hE
     have hpre:∀l a,l < k→E[l]? = some a→listed.getD a false=true:=by
      have step:∀d,∀l a,l + d + 1=k→E[l]? = some a→listed.getD a false=true:=by
       intro d
       induction d with
       | zero=>
        intro l a hl ha
        have hk2:E[l + 1]? = some i:=by rw[show l + 1=k by omega];exact hk
        obtain⟨e,he,e1,e2⟩:=Qc hok ha hk2 ho
        rw[←e1];exact h3 e he e2
       | succ d ih2=>
        intro l a hl ha
        have hl1:l + 1 < E.length:=by have:=(List.getElem?_eq_some_iff.1 hk).1;omega
        have hb:E[l + 1]? = some E[l + 1]:=List.getElem?_eq_getElem hl1
        have hlb:=ih2 (l + 1) _ (by omega) hb
        have hbs:E[l + 1] < ops.size:=by
         have:=jG hok hk hb (by omega);omega
        obtain⟨e,he,e1,e2⟩:=Qc hok ha hb (Array.getElem?_eq_getElem hbs)
        rw[←e1];exact hd _ _ (Array.getElem?_eq_getElem hbs) hlb e he e2
      intro l a hl ha
      exact step (k - l - 1) l a (by omega) ha
     have hklt:=(List.getElem?_eq_some_iff.1 hk).1
     have hsp:E=E.take k ++ i :: E.drop (k + 1):=by
      have hki:=(List.getElem?_eq_some_iff.1 hk).2
      rw[←hki,List.getElem_cons_drop hklt,List.take_append_drop]
     have htk:∀x ∈ E.take k,listed.getD x false=true:=by
      intro x hx
      obtain⟨l,hl⟩:=List.getElem?_of_mem hx
      have hl2:=(List.getElem?_eq_some_iff.1 hl).1
      rw[List.length_take] at hl2
      rw[List.getElem?_take_of_lt (by omega)] at hl
      exact hpre l x (by omega) hl
     have hn1:nx E ops.size listed=i:=by
      unfold nx
      rw[hsp,List.find?_append,List.find?_eq_none.2 (by intro x hx;rw[htk x hx];simp)]
      simp only[Option.none_or,List.find?_cons,hif,Bool.not_false,Option.getD_some]
     have hdr:∀x ∈ E.drop (k + 1),i < x∧listed.getD x false=false:=by
      intro x hx
      obtain⟨l,hl⟩:=List.getElem?_of_mem hx
      rw[List.getElem?_drop] at hl
      refine⟨jG hok hl hk (by omega),?_⟩
      have hno:∀d x,E[k + 1 + d]? = some x→listed.getD x false=false:=by
       intro d
       induction d with
       | zero=>
        intro x hx
        cases hv:listed.getD x false with
        | false=>rfl
        | true=>
         have hxs:x < ops.size:=by
          rcases Nat.lt_or_ge x ops.size with h | h
          ·exact h
          ·simp[Array.getD_eq_getD_getElem?,Array.getElem?_eq_none (show listed.size≤x by omega)] at hv
         obtain⟨e,he,e1,e2⟩:=Qc hok hk hx (Array.getElem?_eq_getElem hxs)
         have:=hd _ _ (Array.getElem?_eq_getElem hxs) hv e he e2
         rw[e1,hif] at this;cases this
       | succ d ih2=>
        intro x hx
        obtain⟨y,hb⟩:∃y,E[k + 1 + d]? = some y:=⟨_,List.getElem?_eq_getElem (show k + 1 + d < E.length by have:=(List.getElem?_eq_some_iff.1 hx).1;omega)⟩
        cases hv:listed.getD x false with
        | false=>rfl
        | true=>
         have hxs:x < ops.size:=by
          rcases Nat.lt_or_ge x ops.size with h | h
          ·exact h
          ·simp[Array.getD_eq_getD_getElem?,Array.getElem?_eq_none (show listed.size≤x by omega)] at hv
         obtain⟨e,he,e1,e2⟩:=Qc hok hb (by rw[show k + 1 + d + 1=k + 1 + (d + 1) by omega];exact hx) (Array.getElem?_eq_getElem hxs)
         have:=hd _ _ (Array.getElem?_eq_getElem hxs) hv e he e2
         rw[e1,ih2 _ hb] at this;cases this
      exact hno l x hl
     have hn2:M (nx E ops.size (listed.setIfInBounds i true))=M (i + 1):=by
      unfold nx
      rw[hsp,List.find?_append,List.find?_eq_none.2 (by
       intro x hx
       rw[hget]
       by_cases e:i=x
       ·simp[e]
       ·rw[if_neg e,htk x hx];simp)]
      simp only[Option.none_or,List.find?_cons,hget,if_true,Bool.not_true]
      cases hdl:E.drop (k + 1) with
      | nil=>
       simp only[List.find?_nil,Option.getD_none]
       have hlen:=congrArg List.length hdl
       rw[List.length_drop] at hlen
       simp only[List.length_nil] at hlen
       rw[List.getLast?_eq_getElem?] at hlast
       have:k=E.length - 1:=by omega
       subst this
       rw[hk] at hlast
       cases hlast
       rw[show ops.size - 1 + 1=ops.size by omega]
      | cons x rr=>
       have hx:E[k + 1]? = some x:=by
        have:=congrArg List.head? hdl
        rw[List.head?_drop] at this
        simpa using this
       obtain⟨hx1,hx2⟩:=hdr x (by rw[hdl];simp)
       simp only[List.find?_cons]
       rw[if_neg (by omega),hx2]
       simp only[Bool.not_false,Option.getD_some]
       have hxs:x≤ops.size:=by
        rw[List.getLast?_eq_getElem?] at hlast
        by_cases e:k + 1=E.length - 1
        ·rw[e,hlast] at hx;cases hx;omega
        ·have:=jG hok hlast hx (by have:=(List.getElem?_eq_some_iff.1 hx).1;omega);omega
       have:=m_const hF (a:=i + 1) (x - (i + 1)) (by omega) (fun j j1 j2 hj=>by
        obtain⟨l,hl⟩:=List.getElem?_of_mem hj
        rcases Nat.lt_trichotomy l k with g | g | g
        ·have:=jG hok hk hl g;omega
        ·subst g;rw[hk] at hl;cases hl;omega
        ·rcases Nat.lt_trichotomy l (k + 1) with g2 | g2 | g2
         ·omega
         ·subst g2;rw[hx] at hl;cases hl;omega
         ·have:=jG hok hl hx g2;omega)
       rw[show i + 1 + (x - (i + 1))=x by omega] at this
       exact this
     rw[hn1,hn2]
     exact⟨f1,zt ((ZD (I.agree hq ho h3)).1 f3) fun x h' n' ⟨e1,e2,e3⟩=>by subst e1;subst e2;subst e3;exact put_pS _ _ _ _ _ _⟩
    ·-- one that leaves memory as it is
     have hne:∀e ∈ E,i≠e:=fun e he e2=>hE (e2 ▸ he)
     have hn1:nx E ops.size (listed.setIfInBounds i true)=nx E ops.size listed:=by
      unfold nx
      have:∀l:List Nat,(∀e ∈ l,i≠e)→l.find? (fun e=>!(listed.setIfInBounds i true).getD e false)=l.find? (fun e=>!listed.getD e false):=by
       intro l
       induction l with
       | nil=>intro _;rfl
       | cons x r ih3=>
        intro hl
        rw[List.find?_cons,List.find?_cons,hget,if_neg (hl x (by simp)),ih3 fun e he=>hl e (by simp[he])]
      rw[this E hne]
     have hlm:ops.size - 1 ∈ E:=List.mem_of_getLast? hlast
     have hil2:i < ops.size - 1:=by
      have:=hne _ hlm
      omega
     have hll:listed.getD (ops.size - 1) false=false:=by
      cases hv:listed.getD (ops.size - 1) false with
      | false=>rfl
      | true=>
       have hsz2:ops.size - 1 < ops.size:=by omega
       have g:=qk (ops:=ops.toList) (listed:=fun j=>listed.getD j false=true) (fun j q hq2 hl=>hd j q (by simpa using hq2) hl) ops.toList [] rfl (Nat.zero_le _) (fun a b hab=>by simp at hab)
       have hml:(jO [] ops.toList)[ops.size - 1]? = some ((jO [] ops.toList).getD (ops.size - 1) 0):=by
        have hlen:=jb ops.toList []
        rw[List.getD_eq_getElem?_getD,List.getElem?_eq_getElem (by rw[hlen];simp;omega)]
        rfl
       have hoL:ops.toList[ops.size - 1]? = some ops[ops.size - 1]:=by simp
       have:=g _ _ hml _ hoL (fun e he hb=>hd _ _ (Array.getElem?_eq_getElem hsz2) hv e he hb) i (chOK_anc hok hil2)
       simp only[hif] at this;cases this
     have hnlt:nx E ops.size listed < ops.size:=by
      unfold nx
      cases hf2:E.find? fun e=>!listed.getD e false with
      | none=>
       have:=List.find?_eq_none.1 hf2 _ hlm
       rw[hll] at this;simp at this
      | some e=>
       simp only[Option.getD_some]
       obtain⟨k,hk⟩:=List.getElem?_of_mem (List.mem_of_find?_eq_some hf2)
       rw[List.getLast?_eq_getElem?] at hlast
       by_cases e2:k=E.length - 1
       ·subst e2;rw[hk] at hlast;cases hlast;omega
       ·have:=jG hok hlast hk (by have:=(List.getElem?_eq_some_iff.1 hk).1;omega);omega
     have hp:=m_hp hF hH0 _ hnlt
     rw[hn1]
     exact⟨f1,zt ((ZD (I.agree hq ho h3)).1 (f4 _ hp)) fun x h' n' ⟨e1,e2,e3⟩=>by subst e1;subst e2;subst e3;exact put_pS _ _ _ _ _ _⟩
   have hres:=op_ok (Q:=Q) (S.sub hmove) hfl hnot hop (next:=wpAnyIn (FR r) 0 P .any ops Q fuel (listed.setIfInBounds i true)) ?_ r
   ·unfold wpOpIn
    rw[ho]
    simp only
    split at hres
    ·rename_i hw;rw[if_pos hw];exact hres
    ·rename_i hw;rw[if_neg hw];exact hres
   ·intro G' st' a' w' S' h'
    subst h'
    refine ih (rem.erase i) _ G' _ a' w' ?_ (hs.sublist List.erase_sublist) (fun j=>?_) (by simpa using hsz) (I.step hq ho (by omega)) (fun j q hq2 hl e he hb=>?_) S'
    ·rw[List.length_erase_of_mem hirem];omega
    ·rw[hnd.mem_erase_iff,hr j]
     simp only[Array.getD_eq_getD_getElem?,Array.getElem?_setIfInBounds]
     by_cases hji:i=j
     ·subst hji;simp[hil]
     ·rw[if_neg hji]
      constructor
      ·rintro⟨_,h3⟩;exact h3
      ·intro h3;exact⟨fun e=>hji e.symm,h3⟩
    ·rw[hget] at hl ⊢
     by_cases e1:i=e.on
     ·rw[if_pos e1]
     ·rw[if_neg e1]
      by_cases e2:i=j
      ·subst e2
       rw[ho] at hq2;cases hq2
       exact h3 e he hb
      ·rw[if_neg e2] at hl
       exact hd j q hq2 hl e he hb
end
theorem ac_chain [Vars] (E:List Nat) (Hp:zI→Prop) {fl:Nat} {Q:Exit→St→Prop} {st:St} {id:Nat} (hm:P.follows .mixedOrders=true) (hok:chOK E ops=true) (hp:Hp st.h)
  (h:aC P ops E Hp st.n st.nt (st.n + ops.size) (fun s h=>Q .normal ⟨st.nt,s,h,st.n + ops.size⟩) 0 ops.toList st.s st.h):zi P fl (.region id ops true) Q st:=by
 intro r w0 G a w hr S hf
 have S':Sim w0 G st a w.drew:=⟨S.inv.drew,S.size,S.defers,S.slots,S.fresh⟩
 obtain⟨X,M,_,hM,hF,hK⟩:=aC_facts (S0:=st.s) ops.toList 0 (fun _=>.undef) (fun _=>st.h) rfl (Nat.zero_le _) h
 have hM0:M 0=st.h:=hM 0 (Nat.le_refl _)
 have hF2:∀i o,ops[i]? = some o→CF P ops E Hp st.n st.nt (st.n + ops.size) st.s X M i o:=fun i o ho=>hF i o (Nat.zero_le i) ho
 have hnf:∀j,(Array.replicate ops.size false).getD j false=false:=fun j=>by
  simp only[Array.getD_eq_getD_getElem?,Array.getElem?_replicate]
  split <;> rfl
 have hnx:M (nx E ops.size (Array.replicate ops.size false))=st.h:=by
  have hlast:=chOK_last hok
  cases hE:E with
  | nil=>rw[hE] at hlast;cases hlast
  | cons x rr=>
   have hx0:E[0]? = some x:=by rw[hE];rfl
   unfold nx
   rw[List.find?_cons,hnf]
   simp only[Bool.not_false,Option.getD_some]
   have hxs:x≤ops.size:=by
    rw[List.getLast?_eq_getElem?] at hlast
    by_cases e:0=E.length - 1
    ·rw[←e,hx0] at hlast;cases hlast;omega
    ·have:=jG hok hlast hx0 (by omega);omega
   have:=m_const hF2 (a:=0) x (by omega) (fun j _ j2 hj=>by
    obtain⟨l,hl⟩:=List.getElem?_of_mem hj
    rcases Nat.eq_zero_or_pos l with g | g
    ·subst g;rw[hx0] at hl;cases hl;omega
    ·have:=jG hok hl hx0 g;omega)
   rw[Nat.zero_add] at this
   rw[this,hM0]
 refine wpIn_region_any hm (chain_ok r (base:=st.n) (G0:=G) (w0:=w0) (nt:=st.nt) (n:=st.n + ops.size) (S0:=st.s) (X:=X) (M:=M) hok hf hF2 (by rw[hM0];exact hp) (fun G' s a' w' S1 hq=>?_) ops.size (List.range ops.size) (Array.replicate ops.size false) G st.s a w.drew (by simp) (List.pairwise_lt_range) (fun j=>?_) (by simp) ?_ (fun i o _ hl=>by rw[hnf] at hl;cases hl) (by rw[hnx];exact ZV S' hf ops.size _ (fun j hj=>by simpa using hj)))
 ·refine⟨G',⟨st.nt,ZE ops st.s X ops.size,M ops.size,st.n + ops.size⟩,S1.ext,S1.lim,⟨S1.sim.inv,S1.sim.size,S1.sim.defers,fun t=>?_,S1.sim.fresh⟩,hK⟩
  have:=S1.sim.slots t
  rw[hq t] at this
  exact this
 ·simp only[List.mem_range]
  constructor
  ·intro hj;exact⟨hj,by simp[Array.getD_eq_getD_getElem?,hj]⟩
  ·exact fun h=>h.1
 ·refine⟨fun t j o hj _ hl=>?_,fun t _=>rfl⟩
  rw[hnf] at hl;cases hl
end
end Go.AM
namespace Go.AM
open Go.RowKit
theorem fzD_scalar (m:Nat) (c:List AV) (agg:Bool) (x:AV) (h:x.scalar=true):(fzD m c agg x).scalar=true:=by
 cases x <;> simp only[fzD] <;> try exact h
 split <;> rfl
theorem fzDL_scalar [Vars] (m:Nat) (c:List AV) (agg:Bool):∀(l:List AV),l.all AV.scalar=true→(J7 m c agg l).all AV.scalar=true
 | [],_=>rfl
 | x :: r,h=>by
  simp only[List.all_cons,Bool.and_eq_true] at h
  simp only[J7,List.all_cons,Bool.and_eq_true]
  exact⟨fzD_scalar m c agg x h.1,fzDL_scalar m c agg r h.2⟩
theorem fzDL_length (m:Nat) (c:List AV) (agg:Bool):∀(l:List AV),(J7 m c agg l).length=l.length
 | []=>rfl
 | x :: r=>by simp only[J7,List.length_cons,fzDL_length m c agg r]
theorem Inv.fzcell [Vars] {w0:World} {G:Gh} {h:zI} {w:World} (I:Inv w0 G h w) {m p:Nat} {c L:List AV} (agg:Bool) (hmp:p≠m) (hm:h m=some (.cells c)) (hp:h p=some (.cells L)) {r:Nat × Nat × Nat} (hr:G.reg m=some r) :
  Inv w0 (G.freeze w r) ((h.upd m none).upd p (some (.cells (J7 m c agg L)))) w:=by
 have I1:=I.freeze hm hr
 have e0:(h.upd m none) p=some (.cells L):=by rw[zG _ _ _ _ hmp];exact hp
 have hx:∀k o,((h.upd m none).upd p (some (.cells (J7 m c agg L)))) k=some o→∃o',(h.upd m none) k=some o':=by
  intro k o hk
  by_cases e:k=p
  ·subst e;exact⟨_,e0⟩
  ·rw[zG _ _ _ _ e] at hk;exact⟨o,hk⟩
 refine⟨I1.below,I1.imm,fun k o hk=>?_,fun a b o q r1 r2 hab h1 h2=>?_,fun a o r1 x v h1=>?_,I1.oth⟩
 ·by_cases e:k=p
  ·subst e
   rw[zM] at hk
   cases hk
   obtain⟨r',vs,g1,g2⟩:=I.obj k _ hp
   exact⟨r',vs,g1,⟨g2.base,g2.lt,by rw[fzDL_length];exact g2.len,fzDL_scalar m c agg L g2.sc,fzDL_ok I hm hr agg L vs g2.rel,g2.val,g2.some,g2.free⟩⟩
  ·rw[zG _ _ _ _ e] at hk;exact I1.obj k o hk
 ·obtain⟨o',k1⟩:=hx a o h1
  obtain⟨q',k2⟩:=hx b q h2
  exact I1.disj a b o' q' r1 r2 hab k1 k2
 ·obtain⟨o',k1⟩:=hx a o h1
  exact I1.sep a o' r1 x v k1
section
variable {P : Program} {fl : Nat}
theorem ac_fzcell [Vars] {code:Code} {Q:Exit→St→Prop} {st:St} (m p:Nat) {c L:List AV} (agg:Bool) (hmp:p≠m) (hm:st.h m=some (.cells c)) (hp:st.h p=some (.cells L))
  (h:zi P fl code Q {st with h:=(st.h.upd m none).upd p (some (.cells (J7 m c agg L)))}):zi P fl code Q st:=by
 intro r w0 G a w hr S hf
 obtain⟨rg,hreg⟩:=(S.inv.obj m _ hm).hasReg
 have hle:=Gh.le_freeze S.inv hm hreg
 have hx:Ext fl G (G.freeze w rg):=⟨fun _ _=>rfl,hle.imm,⟨[],rfl⟩,rfl,fun _ e=>e⟩
 exact wpIn_mono (h r w0 (G.freeze w rg) a w hr ⟨S.inv.fzcell agg hmp hm hp hreg,S.size,S.defers,fun t'=>(S.slots t').mono hle.v _ _,S.fresh⟩ hf) fun _ _ _ ⟨G',st',e1,e2⟩=>⟨G',st',hx.trans e1,e2⟩
end
end Go.AM
namespace Go.AM
section
variable {P : Program} {ops : Array Oper} {base nt n nm : Nat} {o : Oper} {s : List (Nat × AV)} {h h2 : zI} {x : AV}
theorem aC_end [Vars] {E:List Nat} {Hp:zI→Prop} {K:List (Nat × AV)→zI→Prop} {i:Nat} (hk:K s h):aC P ops E Hp base nt n K i [] s h:=by unfold aC;exact hk
end
end Go.AM
namespace Go.AM
section
variable {P : Program} {ops : Array Oper} {fl : Nat} {Q : Exit → St → Prop} {st : St} {id : Nat}
theorem Qx [Vars] (E:List Nat) (Hp:zI→Prop) (hm:P.follows .mixedOrders=true) (hok:chOK E ops=true) (hp:Hp st.h)
  (h:∀K:List (Nat × AV)→zI→Prop,zC (∀s h,Q .normal ⟨st.nt,s,h,st.n + ops.size⟩→K s h)→aC P ops E Hp st.n st.nt (st.n + ops.size) K 0 ops.toList st.s st.h):zi P fl (.region id ops true) Q st:=
 ac_chain E Hp hm hok hp (h _ fun _ _ h=>h)
end
section
variable {P : Program} {ops : Array Oper} {base nt n : Nat} {o : Oper} {s : List (Nat × AV)} {h h2 : zI} {x : AV}
theorem aC_c [Vars] {E:List Nat} {Hp:zI→Prop} {K:List (Nat × AV)→zI→Prop} {i:Nat} {r:List Oper} (hd:Zu nt o.dst=true) (hi:i ∉ E) (hf:∀h',Hp h'→ZN P ops (base + i) o s h' n (fun x' h2 n'=>x'=x∧h2=h'∧n'=n))
  (hr:aC P ops E Hp base nt n K (i + 1) r (pS o.dst x s) h):aC P ops E Hp base nt n K i (o :: r) s h:=
 ⟨hd,.inr ⟨hi,x,hf,hr⟩⟩
theorem aC_x [Vars] {E:List Nat} {Hp:zI→Prop} {K:List (Nat × AV)→zI→Prop} {i:Nat} {r:List Oper} (hd:Zu nt o.dst=true) (hi:i ∈ E) (hf:ZN P ops (base + i) o s h n (fun x' h' n'=>x'=x∧h'=h2∧n'=n)) (hh:r=[]∨Hp h2)
  (hr:aC P ops E Hp base nt n K (i + 1) r (pS o.dst x s) h2):aC P ops E Hp base nt n K i (o :: r) s h:=
 ⟨hd,.inl ⟨hi,x,h2,hf,hh,hr⟩⟩
end
end Go.AM
namespace Du
theorem foldl_nodup (d:Int):∀(ls:List Lin),(∀l ∈ ls,kindOk l)→∀{D:List Pr},D.Nodup→(ls.foldl (JQ d) D).Nodup
 | [],_,_,h=>h
 | l :: r,hk,_,h=>foldl_nodup d r (fun x hx=>hk x (by simp[hx])) (dayF_nodup d l (hk l (by simp)) h)
theorem dayD_nodup (ls:List Lin) (hk:∀l ∈ ls,kindOk l) (d:Int):(dayD ls d).Nodup:=foldl_nodup d ls hk List.nodup_nil
end Du
namespace Go.Proofs
open Go.Shelf
def Tryz.laysortp_ren:Go.Shelf.Ren:=⟨fun | 6=>119 | 15=>151 | 14=>159 | 28=>188 | 29=>189 | 20=>202 | 21=>203 | 22=>204 | 23=>205 | 24=>206 | 25=>207 | 26=>208 | 27=>209 | 46=>230 | 47=>221 | 48=>222 | 49=>231 | 50=>232 | 57=>256 | n=>n,fun | 22=>120 | 24=>119 | 25=>127 | 3=>3 | 39=>216 | 0=>0 | 53=>246 | 55=>248 | 4=>4 | 46=>240 | 45=>239 | 50=>201 | 5=>5 | 9=>9 | 66=>268 | 70=>203 | 76=>296 | 77=>297 | n=>n,fun | n=>n⟩
theorem Tryz.laysortp:Go.Proofs.SlLaysF0.n6 Tryz.prog Tryz.laysortp_ren:={
 mixed:=by kernel_rfl
 f6:=⟨Tryz.f119.name,by decide,Tryz.func119.trans (congrArg some (by kernel_rfl))⟩
 f14:=⟨Tryz.f159.name,by decide,Tryz.func159.trans (congrArg some (by kernel_rfl))⟩
 f15:=Tryz.func151.trans (congrArg some (by kernel_rfl))
 f20:=⟨Tryz.f202.name,by decide,Tryz.func202.trans (congrArg some (by kernel_rfl))⟩
 f21:=⟨Tryz.f203.name,by decide,Tryz.func203.trans (congrArg some (by kernel_rfl))⟩
 f22:=⟨Tryz.f204.name,by decide,Tryz.func204.trans (congrArg some (by kernel_rfl))⟩
 f23:=⟨Tryz.f205.name,by decide,Tryz.func205.trans (congrArg some (by kernel_rfl))⟩
 f24:=⟨Tryz.f206.name,by decide,Tryz.func206.trans (congrArg some (by kernel_rfl))⟩
 f25:=⟨Tryz.f207.name,by decide,Tryz.func207.trans (congrArg some (by kernel_rfl))⟩
 f26:=⟨Tryz.f208.name,by decide,Tryz.func208.trans (congrArg some (by kernel_rfl))⟩
 f27:=⟨Tryz.f209.name,by decide,Tryz.func209.trans (congrArg some (by kernel_rfl))⟩
 f28:=Tryz.func188.trans (congrArg some (by kernel_rfl))
 f29:=Tryz.func189.trans (congrArg some (by kernel_rfl))
 f46:=⟨Tryz.f230.name,by decide,Tryz.func230.trans (congrArg some (by kernel_rfl))⟩
 f47:=Tryz.func221.trans (congrArg some (by kernel_rfl))
 f48:=Tryz.func222.trans (congrArg some (by kernel_rfl))
 f49:=⟨Tryz.f231.name,by decide,Tryz.func231.trans (congrArg some (by kernel_rfl))⟩
 f50:=⟨Tryz.f232.name,by decide,Tryz.func232.trans (congrArg some (by kernel_rfl))⟩
 f57:=⟨Tryz.f256.name,by decide,Tryz.func256.trans (congrArg some (by kernel_rfl))⟩
 t0:=Tryz.underlying0
 a0:=Tryz.isAgg0
 z0:=Tryz.sizeOf0
 v0:=Tryz.zeroValue0
 t3:=Tryz.underlying3
 a3:=Tryz.isAgg3
 z3:=Tryz.sizeOf3
 v3:=Tryz.zeroValue3
 t4:=Tryz.underlying4
 a4:=Tryz.isAgg4
 z4:=Tryz.sizeOf4
 v4:=Tryz.zeroValue4
 t5:=Tryz.underlying5
 a5:=Tryz.isAgg5
 z5:=Tryz.sizeOf5
 v5:=Tryz.zeroValue5
 t9:=Tryz.underlying9
 a9:=Tryz.isAgg9
 z9:=Tryz.sizeOf9
 v9:=Tryz.zeroValue9
 t22:=Tryz.underlying120
 a22:=Tryz.isAgg120
 z22:=Tryz.sizeOf120
 v22:=Tryz.zeroValue120
 t25:=Tryz.underlying127
 a25:=Tryz.isAgg127
 z25:=Tryz.sizeOf127
 v25:=Tryz.zeroValue127
 t39:=Tryz.underlying216
 a39:=Tryz.isAgg216
 z39:=Tryz.sizeOf216
 v39:=Tryz.zeroValue216
 t45:=Tryz.underlying239
 a45:=Tryz.isAgg239
 z45:=Tryz.sizeOf239
 v45:=Tryz.zeroValue239
 t46:=Tryz.underlying240
 a46:=Tryz.isAgg240
 z46:=Tryz.sizeOf240
 v46:=Tryz.zeroValue240
 t50:=Tryz.underlying201
 a50:=Tryz.isAgg201
 z50:=Tryz.sizeOf201
 v50:=Tryz.zeroValue201
 t53:=Tryz.underlying246
 a53:=Tryz.isAgg246
 z53:=Tryz.sizeOf246
 v53:=Tryz.zeroValue246
 t55:=Tryz.underlying248
 a55:=Tryz.isAgg248
 z55:=Tryz.sizeOf248
 v55:=Tryz.zeroValue248
 t66:=Tryz.underlying268
 a66:=Tryz.isAgg268
 z66:=Tryz.sizeOf268
 v66:=Tryz.zeroValue268
 t70:=Tryz.underlying203
 a70:=Tryz.isAgg203
 z70:=Tryz.sizeOf203
 v70:=Tryz.zeroValue203
 t76:=Tryz.underlying296
 a76:=Tryz.isAgg296
 z76:=Tryz.sizeOf296
 v76:=Tryz.zeroValue296
 t77:=Tryz.underlying297
 a77:=Tryz.isAgg297
 z77:=Tryz.sizeOf297
 v77:=Tryz.zeroValue297}
end Go.Proofs
namespace Go.AM
open Go.RowKit
section
variable {P : Program} {α β : Type} {kt : TypeId} {kv : α → Value} {ka : α → AV} {eq : α → α → Bool} {va : β → AV}
theorem valK_mem (hq:∀p q,eq p q=true↔p=q):∀(E:List (α × β)) (p:α) (v:β),(E.map (·.1)).Nodup→((p,v) ∈ E↔valK eq p E=some v)
 | [],_,_,_=>by simp[valK]
 | e :: r,p,v,h=>by
  simp only[List.map_cons,List.nodup_cons] at h
  rw[valK,List.mem_cons,valK_mem hq r p v h.2]
  cases hc:eq p e.1 with
  | true=>
   have:=(hq _ _).1 hc
   subst this
   simp only[if_true,Option.some.injEq]
   constructor
   ·rintro (h1 | h1)
    ·rw[←h1]
    ·exact absurd (List.mem_map.2 ⟨_,(valK_mem hq r _ v h.2).2 h1,rfl⟩) h.1
   ·intro h1;left;rw[←h1]
  | false=>
   simp only[Bool.false_eq_true,if_false]
   constructor
   ·rintro (h1 | h1)
    ·rw[←h1] at hc;rw[(hq _ _).2 rfl] at hc;cases hc
    ·exact h1
   ·exact .inr
theorem valK_none (hq:∀p q,eq p q=true↔p=q):∀(E:List (α × β)) (p:α),valK eq p E=none↔p ∉ E.map (·.1)
 | [],_=>by simp[valK]
 | e :: r,p=>by
  rw[valK]
  cases hc:eq p e.1 with
  | true=>rw[if_pos rfl,List.map_cons,List.mem_cons];exact⟨fun h=>(by cases h),fun h=>absurd (Or.inl ((hq _ _).1 hc)) h⟩
  | false=>
   simp only[Bool.false_eq_true,if_false,valK_none hq r p,List.map_cons,List.mem_cons,not_or]
   exact⟨fun h=>⟨fun e1=>(by rw[e1,(hq _ _).2 rfl] at hc;cases hc),h⟩,fun h=>h.2⟩
end
end Go.AM
