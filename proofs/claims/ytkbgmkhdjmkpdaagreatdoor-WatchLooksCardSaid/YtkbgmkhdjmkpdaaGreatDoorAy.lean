/- More of the machine and of the days of a span. Conditions: as each theorem says. -/
import Derived.Test.YtkbgmkhdjmkpdaaGreatDoorGa
import Derived.Test.YtkbgmkhdjmkpdaaGreatDoorPb
namespace Go.AM
open Go.RowKit
theorem SubX.at {l:Nat} {H h:zH} (s:SubX l H h) (o:Option AObj):SubX l H (h.upd l o):=fun k p hk e=>by rw[zG _ _ _ _ hk];exact s k p hk e
end Go.AM
namespace Du
def Jz (l:List Pr):List Pr:=l.filter fun p=>decide (2≤Zv l p.2)
def jc (l:List Pr):List Pr:=(Jz l).foldl insS []
def LeS (l:List Pr):Prop:=l.Pairwise fun p q=>leB p.2 q.2=true
theorem mem_insS (q p:Pr):∀l:List Pr,q ∈ insS l p↔q=p∨q ∈ l
 | []=>by simp[insS]
 | x :: r=>by
  rw[insS]
  split
  ·rw[List.mem_cons,mem_insS q p r,List.mem_cons]
   exact⟨fun h=>h.elim (fun h=>.inr (.inl h)) fun h=>h.elim .inl fun h=>.inr (.inr h),fun h=>h.elim (fun h=>.inr (.inl h)) fun h=>h.elim .inl fun h=>.inr (.inr h)⟩
  ·rw[List.mem_cons]
theorem insS_sorted (p:Pr):∀l:List Pr,LeS l→LeS (insS l p)
 | [],_=>List.pairwise_singleton _ _
 | x :: r,h=>by
  have a:=List.pairwise_cons.1 h
  rw[insS]
  split
  ·rename_i hx
   refine List.pairwise_cons.2 ⟨fun q hq=>?_,insS_sorted p r a.2⟩
   rcases (mem_insS q p r).1 hq with rfl | hq
   ·exact hx
   ·exact a.1 q hq
  ·rename_i hx
   have hxp:bl p.2 x.2=true:=(leB_or x.2 p.2).resolve_left hx
   refine List.pairwise_cons.2 ⟨fun q hq=>?_,h⟩
   rcases List.mem_cons.1 hq with rfl | hq
   ·exact Qy hxp
   ·exact QG (Qy hxp) (a.1 q hq)
theorem insS_len (p:Pr):∀l:List Pr,(insS l p).length=l.length + 1
 | []=>rfl
 | x :: r=>by rw[insS];split <;> simp[insS_len p r]
theorem QI:∀(L A:List Pr),(L.foldl insS A).length=A.length + L.length
 | [],A=>by simp
 | x :: r,A=>by rw[List.foldl_cons,QI r,insS_len,List.length_cons];omega
theorem insS_at {P Q:List Pr} {x:Pr} (hs:LeS P) (hq:∀q ∈ Q,bl x.2 q.2=true) (hp:∀p,P.getLast? = some p→leB p.2 x.2=true):insS (P ++ Q) x=P ++ x :: Q:=by
 have hall:∀p ∈ P,leB p.2 x.2=true:=by
  intro p hp2
  cases hl:P.getLast? with
  | none=>rw[List.getLast?_eq_none_iff] at hl;subst hl;simp at hp2
  | some z=>
   obtain⟨R,rfl⟩:=List.getLast?_eq_some_iff.1 hl
   rcases List.mem_append.1 hp2 with h | h
   ·exact QG ((List.pairwise_append.1 hs).2.2 p h z (by simp)) (hp z hl)
   ·rw[List.mem_singleton] at h;subst h;exact hp _ hl
 clear hs hp
 induction P with
 | nil=>
  cases Q with
  | nil=>rfl
  | cons q r=>
   have:=hq q (by simp)
   rw[List.nil_append,insS,if_neg];·rfl
   simp[leB,this]
 | cons p r ih=>
  rw[List.cons_append,insS,if_pos (hall p (by simp)),ih fun q hq2=>hall q (by simp[hq2])]
  rfl
end Du
