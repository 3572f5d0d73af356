/- The days of a span; towers that nobody watches, by the program. Conditions: as each theorem says. -/
import Derived.Test.YtkbgmkhdjmkpdaaGreatDoorDe
import Derived.Test.YtkbgmkhdjmkpdaaGreatDoorAx
namespace Du
def dys:Int→Nat→List Int
 | _,0=>[]
 | d,k + 1=>d :: dys (d + 1) k
theorem dys_snoc:∀(d:Int) (k:Nat),dys d (k + 1)=dys d k ++ [d + k]
 | d,0=>by simp[dys]
 | d,k + 1=>by
  rw[dys,dys_snoc (d + 1) k,dys]
  simp only[List.cons_append,List.cons.injEq,true_and]
  congr 2
  omega
theorem dys_to (lo d:Int) (h:lo≤d):dys lo (d + 1 - lo).toNat=dys lo (d - lo).toNat ++ [d]:=by
 have e:(d + 1 - lo).toNat=(d - lo).toNat + 1:=by omega
 rw[e,dys_snoc]
 congr 2;omega
def duR (ls:List Lin) (d:Int):List Pr:=ZN (dayD ls d)
def Zv (l:List Pr) (s:ByteArray):Nat:=(l.filter fun p=>eqB p.2 s).length
def leB (a b:ByteArray):Bool:=!bl b a
def insS:List Pr→Pr→List Pr
 | [],p=>[p]
 | x :: r,p=>if leB x.2 p.2 then x :: insS r p else p :: x :: r
theorem leB_or (a b:ByteArray):leB a b=true∨bl b a=true:=by
 unfold leB;cases bl b a <;> simp
theorem Qy {a b:ByteArray} (h:bl a b=true):leB a b=true:=by
 simp only[leB,bl,Bool.not_eq_true'] at *
 exact bl_asymm _ _ h
theorem bl_tr {a b c:ByteArray} (h1:bl a b=true) (h2:bl b c=true):bl a c=true:=qi _ _ _ h1 h2
theorem QG {a b c:ByteArray} (h1:leB a b=true) (h2:leB b c=true):leB a c=true:=by
 simp only[leB,Bool.not_eq_true'] at *
 cases e:bl c a with
 | false=>rfl
 | true=>
  cases e1:bl a b with
  | true=>rw[bl_tr e e1] at h2;cases h2
  | false=>
   have:=bl_eq e1 h1
   subst this
   rw[e] at h2;cases h2
abbrev Ld:=List (ByteArray × Int)
def Zu:Ld→ByteArray→Ld
 | [],s=>[(s,1)]
 | x :: r,s=>if bl x.1 s then x :: Zu r s else if eqB x.1 s then (x.1,x.2 + 1) :: r else (s,1) :: x :: r
def Jm:List Pr→List Pr→List ByteArray
 | _,[]=>[]
 | seen,p :: r=>if Zv seen p.2 > 0 then Jm (seen ++ [p]) r else p.2 :: Jm (seen ++ [p]) r
def ldD (O:Ld) (l:List Pr):Ld:=(Jm [] l).foldl Zu O
def ldS (ls:List Lin) (lo:Int) (k:Nat):Ld:=(dys lo k).foldl (fun O d=>ldD O (duR ls d)) []
def Q4 (O:Ld):Prop:=O.Pairwise fun p q=>bl p.1 q.1=true
def ldN (O:Ld) (s:ByteArray):Int:=match O with | []=>0 | x :: r=>if eqB x.1 s then x.2 else ldN r s
theorem mem_addL (q:ByteArray) (s:ByteArray):∀O:Ld,q ∈ (Zu O s).map (·.1)↔q=s∨q ∈ O.map (·.1)
 | []=>by simp[Zu]
 | x :: r=>by
  rw[Zu]
  split
  ·rw[List.map_cons,List.mem_cons,mem_addL q s r,List.map_cons,List.mem_cons]
   exact⟨fun h=>h.elim (fun h=>.inr (.inl h)) fun h=>h.elim .inl fun h=>.inr (.inr h),fun h=>h.elim (fun h=>.inr (.inl h)) fun h=>h.elim .inl fun h=>.inr (.inr h)⟩
  ·split
   ·rename_i h
    have:=(zl _ _).1 h
    subst this
    simp
   ·simp
theorem srt_addL (s:ByteArray):∀O:Ld,Q4 O→Q4 (Zu O s)
 | [],_=>List.pairwise_singleton _ _
 | x :: r,h=>by
  have a:=List.pairwise_cons.1 h
  rw[Zu]
  split
  ·rename_i hx
   refine List.pairwise_cons.2 ⟨fun q hq=>?_,srt_addL s r a.2⟩
   rcases (mem_addL q.1 s r).1 (List.mem_map.2 ⟨q,hq,rfl⟩) with hq | hq
   ·rw[hq];exact hx
   ·obtain⟨y,hy,e⟩:=List.mem_map.1 hq
    rw[←e];exact a.1 y hy
  ·rename_i hx
   split
   ·exact List.pairwise_cons.2 ⟨a.1,a.2⟩
   ·rename_i he
    have hsx:bl s x.1=true:=by
     cases e:bl s x.1 with
     | true=>rfl
     | false=>
      have:=bl_eq (a:=x.1) (b:=s) (by simpa using hx) e
      exact absurd ((zl _ _).2 this) he
    refine List.pairwise_cons.2 ⟨fun q hq=>?_,h⟩
    rcases List.mem_cons.1 hq with rfl | hq
    ·exact hsx
    ·exact bl_tr hsx (a.1 q hq)
theorem bl_ne {a b:ByteArray} (h:bl a b=true):eqB a b=false:=by
 cases e:eqB a b with
 | false=>rfl
 | true=>rw[(zl _ _).1 e] at h;simp[bl,Zt] at h
theorem ldN_out {s:ByteArray}:∀O:Ld,s ∉ O.map (·.1)→ldN O s=0
 | [],_=>rfl
 | x :: r,h=>by
  simp only[List.map_cons,List.mem_cons,not_or] at h
  rw[ldN,if_neg (fun e=>h.1 ((zl _ _).1 e).symm),ldN_out r h.2]
theorem ldN_add (s t:ByteArray):∀O:Ld,Q4 O→ldN (Zu O s) t=ldN O t + if eqB t s then 1 else 0
 | [],_=>by
  simp only[Zu,ldN]
  have:eqB s t=eqB t s:=by rw[Bool.eq_iff_iff,zl,zl];exact eq_comm
  rw[this];split <;> simp
 | x :: r,h=>by
  have a:=List.pairwise_cons.1 h
  have ih:=ldN_add s t r a.2
  rw[Zu]
  split
  ·rename_i hx
   rw[ldN,ih,ldN]
   split
   ·rename_i h1
    have:=(zl _ _).1 h1
    subst this
    rw[bl_ne hx];simp
   ·rfl
  ·rename_i hx
   split
   ·rename_i he
    have:=(zl _ _).1 he
    subst this
    simp only[ldN]
    have:eqB t x.1=eqB x.1 t:=by rw[Bool.eq_iff_iff,zl,zl];exact eq_comm
    rw[this]
    split <;> simp
   ·rename_i he
    have hsx:bl s x.1=true:=by
     cases e:bl s x.1 with
     | true=>rfl
     | false=>
      have:=bl_eq (a:=x.1) (b:=s) (by simpa using hx) e
      exact absurd ((zl _ _).2 this) he
    have e1:eqB s t=eqB t s:=by rw[Bool.eq_iff_iff,zl,zl];exact eq_comm
    rw[ldN,e1]
    split
    ·rename_i h1
     have:=(zl _ _).1 h1
     subst this
     rw[ldN_out]
     ·rfl
     ·intro hm
      obtain⟨y,hy,e⟩:=List.mem_map.1 hm
      rcases List.mem_cons.1 hy with rfl | hy
      ·rw[e] at hsx;simp[bl,Zt] at hsx
      ·have:=bl_tr hsx (a.1 y hy);rw[e] at this;simp[bl,Zt] at this
    ·simp
open Classical in
theorem fold_ldN (t:ByteArray):∀(L:List ByteArray) (O:Ld),Q4 O→L.Nodup→Q4 (L.foldl Zu O)∧ldN (L.foldl Zu O) t=ldN O t + (if t ∈ L then 1 else 0)∧(t ∈ (L.foldl Zu O).map (·.1)↔t ∈ O.map (·.1)∨t ∈ L)
 | [],O,h,_=>by simp[h]
 | x :: r,O,h,hn=>by
  rw[List.nodup_cons] at hn
  obtain⟨h1,h2,h3⟩:=fold_ldN t r (Zu O x) (srt_addL x O h) hn.2
  refine⟨h1,?_,?_⟩
  ·rw[List.foldl_cons,h2,ldN_add x t O h]
   by_cases e:t=x
   ·subst e
    rw[(zl t t).2 rfl];simp[hn.1]
   ·have:eqB t x=false:=by
     cases e2:eqB t x with
     | false=>rfl
     | true=>exact absurd ((zl _ _).1 e2) e
    rw[this];simp[e]
  ·rw[List.foldl_cons,h3,mem_addL,List.mem_cons]
   exact⟨fun h=>h.elim (fun h=>h.elim (fun h=>.inr (.inl h)) .inl) fun h=>.inr (.inr h),fun h=>h.elim (fun h=>.inl (.inr h)) fun h=>h.elim (fun h=>.inl (.inl h)) .inr⟩
theorem cntP_pos (l:List Pr) (s:ByteArray):Zv l s > 0↔s ∈ l.map (·.2):=by
 unfold Zv
 rw[gt_iff_lt,List.length_pos_iff_exists_mem]
 constructor
 ·rintro⟨p,hp⟩
  rw[List.mem_filter] at hp
  exact List.mem_map.2 ⟨p,hp.1,(zl _ _).1 hp.2⟩
 ·intro h
  obtain⟨p,hp,e⟩:=List.mem_map.1 h
  exact⟨p,List.mem_filter.2 ⟨hp,(zl _ _).2 e⟩⟩
theorem fstP_ok:∀(l seen:List Pr),(Jm seen l).Nodup∧∀s,s ∈ Jm seen l↔s ∈ l.map (·.2)∧s ∉ seen.map (·.2)
 | [],_=>by simp[Jm]
 | p :: r,seen=>by
  obtain⟨h1,h2⟩:=fstP_ok r (seen ++ [p])
  rw[Jm]
  split
  ·rename_i hc
   have hc:=(cntP_pos _ _).1 hc
   refine⟨h1,fun s=>?_⟩
   rw[h2]
   simp only[List.map_append,List.map_cons,List.map_nil,List.mem_append,List.mem_cons,List.not_mem_nil,or_false,not_or]
   constructor
   ·rintro⟨a,b,c⟩;exact⟨.inr a,b⟩
   ·rintro⟨a | a,b⟩
    ·subst a;exact absurd hc b
    ·exact⟨a,b,fun e=>b (by rw[e];exact hc)⟩
  ·rename_i hc
   have hc:p.2 ∉ seen.map (·.2):=fun h=>hc ((cntP_pos _ _).2 h)
   refine⟨List.nodup_cons.2 ⟨fun hm=>?_,h1⟩,fun s=>?_⟩
   ·have:=((h2 p.2).1 hm).2
    simp at this
   ·rw[List.mem_cons,h2]
    simp only[List.map_append,List.map_cons,List.map_nil,List.mem_append,List.mem_cons,List.not_mem_nil,or_false,not_or]
    constructor
    ·rintro (a | ⟨a,b,c⟩)
     ·subst a;exact⟨.inl rfl,hc⟩
     ·exact⟨.inr a,b⟩
    ·rintro⟨a | a,b⟩
     ·exact .inl a
     ·by_cases e:s=p.2
      ·exact .inl e
      ·exact .inr ⟨a,b,e⟩
open Classical in
theorem ldD_ok (t:ByteArray) (O:Ld) (l:List Pr) (h:Q4 O):Q4 (ldD O l)∧ldN (ldD O l) t=ldN O t + (if t ∈ l.map (·.2) then 1 else 0)∧(t ∈ (ldD O l).map (·.1)↔t ∈ O.map (·.1)∨t ∈ l.map (·.2)):=by
 obtain⟨h1,h2⟩:=fstP_ok l []
 have hm:∀s,s ∈ Jm [] l↔s ∈ l.map (·.2):=fun s=>by rw[h2];simp
 obtain⟨a,b,c⟩:=fold_ldN t (Jm [] l) O h h1
 refine⟨a,?_,?_⟩
 ·rw[ldD,b];congr 1;simp only[hm]
 ·rw[ldD,c,hm]
end Du
namespace Go.AM
open Go.RowKit
section
variable {P : Program} {α β : Type} {kt : TypeId} {kv : α → Value} {ka : α → AV} {eq : α → α → Bool} {va : β → AV}
structure KeyE (P:Program) (kt:TypeId) {α:Type} (kv:α→Value) (ka:α→AV) (eq:α→α→Bool):Prop where
 ok:∀p,JP P kt (ka p)=some (kv p)
 eqA:∀p q,jS P kt (ka p) (kv q)=some (eq p q)
 iff:∀p q,eq p q=true↔p=q
 of:∀p,ZV (kv p)=ka p
 same:∀p,Go.Instr.sameBits 10000 (kv p) (kv p)=true
def ju (kv:α→Value) (va:β→AV) (E:List (α × β)):List (Value × AV):=E.map fun e=>(kv e.1,va e.2)
def fndK (eq:α→α→Bool) (p:α):List (α × β)→Nat→Option (Nat × β)
 | [],_=>none
 | e :: r,i=>if eq p e.1 then some (i,e.2) else fndK eq p r (i + 1)
def Zo (eq:α→α→Bool) (p:α):List (α × β)→Option β
 | []=>none
 | e :: r=>if eq p e.1 then some e.2 else Zo eq p r
def Zx (eq:α→α→Bool) (p:α) (x:β):List (α × β)→List (α × β)
 | []=>[(p,x)]
 | e :: r=>if eq p e.1 then (e.1,x) :: r else e :: Zx eq p x r
theorem find_K (K:KeyE P kt kv ka eq) (p:α):∀(E:List (α × β)) (i:Nat),jj P kt (ka p) (ju kv va E) i=some ((fndK eq p E i).map fun x=>(x.1,va x.2))
 | [],i=>rfl
 | q :: r,i=>by
  have ih:=find_K K p r (i + 1)
  have e:ju kv va (q :: r)=(kv q.1,va q.2) :: ju kv va r:=rfl
  rw[e,jj,K.eqA,fndK]
  cases h:eq p q.1 with
  | true=>simp
  | false=>simp[ih]
theorem valK_fnd (p:α):∀(E:List (α × β)) (i:Nat),Zo eq p E=(fndK eq p E i).map (·.2)
 | [],_=>rfl
 | e :: r,i=>by
  rw[Zo,fndK]
  cases eq p e.1 with
  | true=>simp
  | false=>simpa using valK_fnd p r (i + 1)
theorem fndK_some (hq:∀p q,eq p q=true↔p=q) (p:α) (x:β):∀(E:List (α × β)) (i j:Nat) (v:β),fndK eq p E i=some (j,v)→i≤j∧E[j - i]? = some (p,v)∧Zx eq p x E=E.set (j - i) (p,x)
 | [],_,_,_,h=>by cases h
 | e :: r,i,j,v,h=>by
  rw[fndK] at h
  cases hc:eq p e.1 with
  | true=>
   rw[hc] at h
   simp only[if_true,Option.some.injEq,Prod.mk.injEq] at h
   obtain⟨rfl,rfl⟩:=h
   refine⟨Nat.le_refl _,?_,?_⟩
   ·rw[Nat.sub_self,List.getElem?_cons_zero,(hq _ _).1 hc]
   ·rw[Nat.sub_self,List.set_cons_zero,Zx,if_pos hc,(hq _ _).1 hc]
  | false=>
   rw[hc] at h
   simp only[Bool.false_eq_true,if_false] at h
   obtain⟨h1,h2,h3⟩:=fndK_some hq p x r (i + 1) j v h
   have e1:j - i=(j - (i + 1)) + 1:=by omega
   refine⟨by omega,?_,?_⟩
   ·rw[e1,List.getElem?_cons_succ];exact h2
   ·rw[e1,List.set_cons_succ,Zx,hc,←h3];simp
theorem fndK_none (p:α) (x:β):∀(E:List (α × β)) (i:Nat),fndK eq p E i=none→Zx eq p x E=E ++ [(p,x)]∧∀e ∈ E,eq p e.1=false
 | [],_,_=>⟨rfl,fun e h=>by simp at h⟩
 | e :: r,i,h=>by
  rw[fndK] at h
  cases hc:eq p e.1 with
  | true=>rw[hc] at h;cases h
  | false=>
   rw[hc] at h
   simp only[Bool.false_eq_true,if_false] at h
   obtain⟨h1,h2⟩:=fndK_none p x r (i + 1) h
   refine⟨by rw[Zx,hc,h1];simp,fun q hm=>?_⟩
   rcases List.mem_cons.1 hm with rfl | hm
   ·exact hc
   ·exact h2 q hm
theorem valK_put (hq:∀p q,eq p q=true↔p=q) (p q:α) (x:β):∀E:List (α × β),Zo eq q (Zx eq p x E)=if eq q p then some x else Zo eq q E
 | []=>rfl
 | e :: r=>by
  have ih:=valK_put hq p q x r
  rw[Zx]
  cases hc:eq p e.1 with
  | true=>
   have:=(hq _ _).1 hc
   subst this
   simp only[if_true,Zo]
   cases eq q e.1 <;> simp
  | false=>
   simp only[Bool.false_eq_true,if_false,Zo,ih]
   cases h1:eq q e.1 with
   | false=>rfl
   | true=>
    have e1:=(hq _ _).1 h1
    cases h2:eq q p with
    | false=>rfl
    | true=>
     have e2:=(hq _ _).1 h2
     rw[←e2,e1,(hq e.1 e.1).2 rfl] at hc;cases hc
theorem j1 (hq:∀p q,eq p q=true↔p=q) (p q:α) (x:β):∀E:List (α × β),q ∈ (Zx eq p x E).map (·.1)↔q=p∨q ∈ E.map (·.1)
 | []=>by simp[Zx]
 | e :: r=>by
  have ih:=j1 hq p q x r
  rw[Zx]
  cases hc:eq p e.1 with
  | true=>
   have:=(hq _ _).1 hc
   subst this
   simp
  | false=>
   simp only[Bool.false_eq_true,if_false,List.map_cons,List.mem_cons,ih]
   exact⟨fun h=>h.elim (fun h=>.inr (.inl h)) fun h=>h.elim .inl fun h=>.inr (.inr h),fun h=>h.elim (fun h=>.inr (.inl h)) fun h=>h.elim .inl fun h=>.inr (.inr h)⟩
theorem nodup_put (hq:∀p q,eq p q=true↔p=q) (p:α) (x:β):∀E:List (α × β),(E.map (·.1)).Nodup→((Zx eq p x E).map (·.1)).Nodup
 | [],_=>by simp[Zx]
 | e :: r,h=>by
  rw[Zx]
  cases hc:eq p e.1 with
  | true=>simpa using h
  | false=>
   simp only[List.map_cons,List.nodup_cons] at h
   simp only[Bool.false_eq_true,if_false,List.map_cons,List.nodup_cons]
   refine⟨fun hm=>?_,nodup_put hq p x r h.2⟩
   rcases (j1 hq p e.1 x r).1 hm with rfl | hm
   ·rw[(hq _ _).2 rfl] at hc;cases hc
   ·exact h.1 hm
structure MapK (kv:α→Value) (va:β→AV) (h:zH) (m:Nat) (E:List (α × β)) (clk:Nat) (bs:List Nat):Prop where
 at_:h m=some (.map clk bs (ju kv va E))
 len:bs.length=E.length
 nd:bs.Nodup
 lt:∀b ∈ bs,b < clk
theorem entK_get (E:List (α × β)) (j:Nat):(ju kv va E)[j]? = (E[j]?).map fun e=>(kv e.1,va e.2):=by simp[ju]
theorem put_K (K:KeyE P kt kv ka eq) {t et:TypeId} (ht:Zz P t=some (kt,et)) {h:zH} {m:Nat} {E:List (α × β)} {clk:Nat} {bs:List Nat} (M:MapK kv va h m E clk bs) (p:α) (x:β) :
  ∃clk' bs',jz P t (.map m) (ka p) (va x) h=some (h.upd m (some (.map clk' bs' (ju kv va (Zx eq p x E)))))∧MapK kv va (h.upd m (some (.map clk' bs' (ju kv va (Zx eq p x E))))) m (Zx eq p x E) clk' bs':=by
 have hf:=find_K K (va:=va) p E 0
 unfold jz
 rw[ht]
 simp only[K.ok,M.at_,hf]
 cases hi:fndK eq p E 0 with
 | none=>
  obtain⟨h1,_⟩:=fndK_none p x E 0 hi
  rw[h1]
  refine⟨clk + 1,bs ++ [clk],by simp[ju],⟨zL _ _ _,by simp[M.len],?_,fun b hb=>?_⟩⟩
  ·rw[List.nodup_append]
   refine⟨M.nd,by simp,fun a ha b hb=>?_⟩
   rw[List.mem_singleton] at hb
   have:=M.lt a ha
   omega
  ·rcases List.mem_append.1 hb with hb | hb
   ·have:=M.lt b hb;omega
   ·rw[List.mem_singleton] at hb;omega
 | some y=>
  obtain⟨j,v⟩:=y
  obtain⟨_,h1,h2⟩:=fndK_some K.iff p x E 0 j v hi
  rw[Nat.sub_zero] at h1 h2
  obtain⟨hj,hp⟩:=List.getElem?_eq_some_iff.1 h1
  have hk:((ju kv va E).map (·.1)).getD j (kv p)=kv p:=by simp[ju,hj,hp]
  have hset:(ju kv va E).set j (kv p,va x)=ju kv va (Zx eq p x E):=by
   rw[h2]
   apply List.ext_getElem?
   intro i
   simp only[ju,List.getElem?_set,List.getElem?_map,List.length_map]
   split
   ·simp
   ·rfl
  have hlen:(Zx eq p x E).length=E.length:=by rw[h2,List.length_set]
  refine⟨clk,bs,?_,⟨zL _ _ _,by rw[hlen];exact M.len,M.nd,M.lt⟩⟩
  simp only[Option.map_some,hk,K.same,if_true,hset]
theorem look_K (K:KeyE P kt kv ka eq) {t et:TypeId} (ht:Zz P t=some (kt,et)) {z:β} (hz:zo P et=some (va z)) {h:zH} {m:Nat} {E:List (α × β)} {clk:Nat} {bs:List Nat} (M:MapK kv va h m E clk bs) (p:α) (ok:Bool) :
  QZ P t (.map m) (ka p) ok h=some (pairF ok (va ((Zo eq p E).getD z),(Zo eq p E).isSome)):=by
 have hf:=find_K K (va:=va) p E 0
 unfold QZ
 rw[ht]
 simp only[K.ok,M.at_,hf]
 rw[valK_fnd (eq:=eq) p E 0]
 cases fndK eq p E 0 with
 | none=>simp[resF,hz]
 | some y=>simp[resF]
def Jh (kv:α→Value) (va:β→AV) (h:zH) (m clk:Nat) (Z:List (Nat × α × β)):Prop:=h m=some (.map clk (Z.map (·.1)) (ju kv va (Z.map (·.2))))
theorem MapK.z {h:zH} {m:Nat} {E:List (α × β)} {clk:Nat} {bs:List Nat} (M:MapK kv va h m E clk bs):∃Z:List (Nat × α × β),Z.map (·.2)=E∧Jh kv va h m clk Z∧(Z.map (·.1)).Nodup∧∀b ∈ Z.map (·.1),b < clk:=by
 have e1:(bs.zip E).map (·.1)=bs:=List.map_fst_zip (by rw[M.len];exact Nat.le_refl _)
 have e2:(bs.zip E).map (·.2)=E:=List.map_snd_zip (by rw[M.len];exact Nat.le_refl _)
 exact⟨bs.zip E,e2,by unfold Jh;rw[e1,e2];exact M.at_,by rw[e1];exact M.nd,by rw[e1];exact M.lt⟩
theorem qh {γ:Type}:∀(L:List (Nat × γ)) (j b:Nat) (p:γ),(L.map (·.1)).Nodup→L[j]? = some (b,p)→(L.map (·.1)).findIdx (·== b)=j
 | [],_,_,_,_,h=>by simp at h
 | x :: r,0,b,p,hn,h=>by
  simp only[List.getElem?_cons_zero,Option.some.injEq] at h
  subst h;simp[List.findIdx_cons]
 | x :: r,j + 1,b,p,hn,h=>by
  simp only[List.getElem?_cons_succ] at h
  simp only[List.map_cons,List.nodup_cons] at hn
  have hx:(x.1 == b)=false:=by
   rw[beq_eq_false_iff_ne]
   exact fun e=>hn.1 (by rw[e];exact List.mem_map.2 ⟨(b,p),List.mem_of_getElem? h,rfl⟩)
  simp only[List.map_cons,List.findIdx_cons,hx,cond_false,qh r j b p hn.2 h]
theorem entry_K (K:KeyE P kt kv ka eq) {h:zH} {it m clk b j:Nat} {p:α} {x:β} {since:Nat} {seen:List Nat} {Z:List (Nat × α × β)} (hi:h it=some (.iter m since clk (seen ++ [b]))) (hm:Jh kv va h m clk Z) (hn:(Z.map (·.1)).Nodup) (hj:Z[j]? = some (b,p,x)):Q0 (.ptr it 0) h=some (.tup [ka p,va x]):=by
 have e1:=qh Z j b (p,x) hn hj
 unfold Jh at hm
 simp only[Q0,hi,hm,List.getLast?_append,List.getLast?_singleton,Option.some_or,if_true,e1,entK_get,List.getElem?_map,hj,Option.map_some,K.of]
theorem range_K {t kt et:TypeId} (ht:Zz P t=some (kt,et)) {h:zH} {m nm clk:Nat} {bs:List Nat} {es:List (Value × AV)} (hm:h m=some (.map clk bs es)):qL P nm t (.map m) h=some (.ptr nm 0,h.upd nm (some (.iter m clk clk []))):=by
 simp only[qL,ht,hm]
structure Went {γ:Type} (Z V:List (Nat × γ)):Prop where
 nd:(V.map (·.1)).Nodup
 sub:∀v ∈ V,v ∈ Z
theorem Went.nil {γ:Type} (Z:List (Nat × γ)):Went Z []:=⟨List.nodup_nil,fun v h=>by simp at h⟩
theorem Went.snoc {γ:Type} {Z V:List (Nat × γ)} (W:Went Z V) {b:Nat} {p:γ} (hb:b ∉ V.map (·.1)) (hz:(b,p) ∈ Z):Went Z (V ++ [(b,p)]):=by
 refine⟨?_,fun v hv=>?_⟩
 ·rw[List.map_append,List.nodup_append]
  refine⟨W.nd,by simp,fun x hx y hy=>?_⟩
  simp only[List.map_cons,List.map_nil,List.mem_singleton] at hy
  rintro rfl;rw[hy] at hx;exact hb hx
 ·rcases List.mem_append.1 hv with hv | hv
  ·exact W.sub v hv
  ·rw[List.mem_singleton] at hv;rw[hv];exact hz
theorem nodup_of_map {γ δ:Type} (f:γ→δ) {L:List γ} (h:(L.map f).Nodup):L.Nodup:=
 (List.pairwise_map.1 h).imp fun h e=>h (congrArg f e)
theorem len_of_nodup:∀(V Z:List Nat),V.Nodup→(∀v ∈ V,v ∈ Z)→V.length≤Z.length
 | [],_,_,_=>Nat.zero_le _
 | v :: r,Z,hn,hs=>by
  rw[List.nodup_cons] at hn
  have h0:=hs v (by simp)
  have:=len_of_nodup r (Z.erase v) hn.2 fun x hx=>(List.mem_erase_of_ne fun e=>hn.1 (by rw[←e];exact hx)).2 (hs x (by simp[hx]))
  rw[List.length_erase_of_mem h0] at this
  have:=List.length_pos_of_mem h0
  simp only[List.length_cons];omega
theorem Went.nodup {γ:Type} {Z V:List (Nat × γ)} (W:Went Z V):V.Nodup:=nodup_of_map _ W.nd
theorem Went.len {γ:Type} {Z V:List (Nat × γ)} (W:Went Z V):V.length≤Z.length:=by
 have:=len_of_nodup (V.map (·.1)) (Z.map (·.1)) W.nd fun x hx=>by
  obtain⟨v,hv,rfl⟩:=List.mem_map.1 hx
  exact List.mem_map.2 ⟨v,W.sub v hv,rfl⟩
 simpa using this
theorem Went.lt {γ:Type} {Z V:List (Nat × γ)} (W:Went Z V) {b:Nat} {p:γ} (hb:b ∉ V.map (·.1)) (hz:(b,p) ∈ Z):V.length < Z.length:=by
 have:=(W.snoc hb hz).len
 simp at this;omega
theorem Went.perm {γ:Type} {Z V:List (Nat × γ)} (W:Went Z V) (hz:(Z.map (·.1)).Nodup) (h:∀b ∈ Z.map (·.1),b ∈ V.map (·.1)):V.Perm Z:=by
 refine (List.perm_ext_iff_of_nodup W.nodup (nodup_of_map _ hz)).2 fun v=>⟨W.sub v,fun hv=>?_⟩
 obtain⟨u,hu,e⟩:=List.mem_map.1 (h v.1 (List.mem_map.2 ⟨v,hv,rfl⟩))
 have hu2:=W.sub u hu
 have:u=v:=by
  obtain⟨i,hi,e1⟩:=List.mem_iff_getElem.1 hu2
  obtain⟨j,hj,e2⟩:=List.mem_iff_getElem.1 hv
  have hij:i=j:=by
   refine Decidable.byContradiction fun hne=>?_
   have:=(List.nodup_iff_pairwise_ne.1 hz)
   rw[List.pairwise_map,List.pairwise_iff_getElem] at this
   rcases Nat.lt_or_gt_of_ne hne with hl | hl
   ·exact this i j hi hj hl (by rw[e1,e2];exact e)
   ·exact this j i hj hi hl (by rw[e1,e2];exact e.symm)
  subst hij;rw[←e1,←e2]
 rw[←this];exact hu
end
end Go.AM
namespace Go.AM
open Go.Proofs Cw Du
set_option maxRecDepth 10000
set_option maxHeartbeats 4000000
@[go_sem] theorem lay45:lay Tryz.prog 45=some (2,true):=by kernel_rfl
@[go_sem] theorem szOf45:zx Tryz.prog 45=some 2:=by kernel_rfl
@[go_sem] theorem fldOf45_0:ZC Tryz.prog 45 0=some (0,1):=by kernel_rfl
@[go_sem] theorem fldOf45_1:ZC Tryz.prog 45 1=some (1,1):=by kernel_rfl
def Zc (ls:List Lin) (l:List Ordr) (lo hi:Int):Int:=if qj ls l≠0 then qj ls l else if lo < 0∨lo > hi∨hi > 400 then 1 else 0
theorem qO (nlL fuL:Bool) (sL:Nat) (ls:List Lin) (hnlL:ls=[]∨nlL=false∧sL=8) (hsL:smL ls) (hlL:ls.length≤1000000) (nl fu:Bool) (s:Nat) (l:List Ordr) (hnl:l=[]∨nl=false∧s=7) (hw:wfO l) (hs:smO l) (hl:l.length≤1000000) (lo hi:Int) :
  zJ Tryz.prog 49 [.agg [.fslc nlL fuL sL (ls.map zg),.fslc nl fu s (l.map ZH)],.agg [iv .i64 lo,iv .i64 hi]] (iv .i64 (Zc ls l lo hi)):=by
 intro h n
 have k1:=check_spec nlL fuL sL ls hnlL hsL hlL nl fu s l hnl hw hs hl
 refine zQ.pure (zQ.entry (by kernel_rfl) fun hb _=>zV Tryz.func49 rfl (by kernel_rfl) (by simp[Tryz.ntmps49]) ?_)
 obtain⟨T,hT⟩:∃T,zB (T=Zc ls l lo hi):=⟨_,rfl⟩
 rw[←hT.out]
 have hT1:=hT.out
 unfold Zc at hT1
 replace hT:zB _:=trivial
 generalize qj ls l=e at *
 generalize List.map zg ls=LL at *
 generalize List.map ZH l=OO at *
 clear hsL hs hw hnl hnlL hlL hl
 by_cases hc:e=0
 ·subst hc
  rw[if_neg (by simp)] at hT1
  by_cases c1:lo < 0
  ·rw[if_pos (.inl c1)] at hT1
   subst hT1
   repeat' (first|(refine zD fun K hK=>?_)|(refine zA fun K hK=>?_;simp (disch:=omega) [go_sem, *,zG,Tryz.ntmps49])|(apply zB.out hK;clear hK K;try with_reducible dsimp only[zC])|(apply zB.out ht;clear ht hf Kt Kf)|(apply zB.out hf;clear ht hf Kt Kf)|(with_reducible refine zJ.gcall (k1) ?_;try simp (disch:=omega) [go_sem, *])|(refine zK ?_;simp only[zC])|(refine zF fun Kt Kf ht hf=>?_;simp (disch:=omega) [go_sem, *];try (refine⟨fun hc=>?_,fun hc=>?_⟩ <;> try (exfalso;omega))))
   exact zR
  ·by_cases c2:lo > hi
   ·rw[if_pos (.inr (.inl c2))] at hT1
    subst hT1
    repeat' (first|(refine zD fun K hK=>?_)|(refine zA fun K hK=>?_;simp (disch:=omega) [go_sem, *,zG,Tryz.ntmps49])|(apply zB.out hK;clear hK K;try with_reducible dsimp only[zC])|(apply zB.out ht;clear ht hf Kt Kf)|(apply zB.out hf;clear ht hf Kt Kf)|(with_reducible refine zJ.gcall (k1) ?_;try simp (disch:=omega) [go_sem, *])|(refine zK ?_;simp only[zC])|(refine zF fun Kt Kf ht hf=>?_;simp (disch:=omega) [go_sem, *];try (refine⟨fun hc=>?_,fun hc=>?_⟩ <;> try (exfalso;omega))))
    exact zR
   ·by_cases c3:hi > 400
    ·rw[if_pos (.inr (.inr c3))] at hT1
     subst hT1
     repeat' (first|(refine zD fun K hK=>?_)|(refine zA fun K hK=>?_;simp (disch:=omega) [go_sem, *,zG,Tryz.ntmps49])|(apply zB.out hK;clear hK K;try with_reducible dsimp only[zC])|(apply zB.out ht;clear ht hf Kt Kf)|(apply zB.out hf;clear ht hf Kt Kf)|(with_reducible refine zJ.gcall (k1) ?_;try simp (disch:=omega) [go_sem, *])|(refine zK ?_;simp only[zC])|(refine zF fun Kt Kf ht hf=>?_;simp (disch:=omega) [go_sem, *];try (refine⟨fun hc=>?_,fun hc=>?_⟩ <;> try (exfalso;omega))))
     exact zR
    ·rw[if_neg (by omega)] at hT1
     subst hT1
     repeat' (first|(refine zD fun K hK=>?_)|(refine zA fun K hK=>?_;simp (disch:=omega) [go_sem, *,zG,Tryz.ntmps49])|(apply zB.out hK;clear hK K;try with_reducible dsimp only[zC])|(apply zB.out hf;clear ht hf Kt Kf)|(with_reducible refine zJ.gcall (k1) ?_;try simp (disch:=omega) [go_sem, *])|(refine zK ?_;simp only[zC])|(refine zF fun Kt Kf ht hf=>?_;simp (disch:=omega) [go_sem, *];try (refine⟨fun hc=>?_,fun hc=>?_⟩ <;> try (exfalso;omega))))
     exact zR
 ·rw[if_pos hc] at hT1
  have hne:(e != 0)=true:=by simpa using hc
  clear hc
  subst hT1
  repeat' (first|(refine zD fun K hK=>?_)|(refine zA fun K hK=>?_;simp (disch:=omega) [go_sem, *,zG,Tryz.ntmps49])|(apply zB.out hK;clear hK K;try with_reducible dsimp only[zC])|(apply zB.out ht;clear ht hf Kt Kf)|(with_reducible refine zJ.gcall (k1) ?_;try simp (disch:=omega) [go_sem, *])|(refine zF fun Kt Kf ht hf=>?_;simp (disch:=omega) [go_sem, *];try (refine⟨fun hc=>?_,fun hc=>?_⟩ <;> try (exfalso;omega))))
  exact zR
def eachV (lo hi:Int) (W:List AV):AV:=.func (.func 113) [] [.fptr [iv .i64 lo,iv .i64 hi],.fptr W]
theorem each_spec (a0 a1:Bool) (a2:Nat) (A:List AV) (b0 b1:Bool) (b2:Nat) (B:List AV) (lo hi:Int):zJ Tryz.prog 53 [.agg [.fslc a0 a1 a2 A,.fslc b0 b1 b2 B],.agg [iv .i64 lo,iv .i64 hi]] (eachV lo hi [.fslc a0 a1 a2 A,.fslc b0 b1 b2 B]):=by
 intro h n
 refine zQ.pure (zQ.entry (by kernel_rfl) fun hb hbel=>zV Tryz.func53 rfl (by kernel_rfl) (by simp[Tryz.ntmps53]) ?_)
 refine zD fun K hK=>?_
 refine zA fun K2 hK2=>?_
 simp (disch:=omega) [go_sem,Tryz.ntmps53]
 refine hK2.out _ ?_
 clear hK2 K2
 dsimp only[zC]
 refine hK.out _ ?_
 clear hK K
 refine Zr (t:=2) (m:=n) (c:=[.fslc a0 a1 a2 A,.fslc b0 b1 b2 B]) (by simp (disch:=omega) only[zG,zL]) (by simp[go_sem]) ?_
 refine Zr (t:=3) (m:=n + 1) (c:=[iv .i64 lo,iv .i64 hi]) (by simp (disch:=omega) only[zG,zL]) (by simp[go_sem]) ?_
 repeat' (first|(refine zD fun K hK=>?_)|(refine zA fun K hK=>?_;simp (disch:=omega) [go_sem, *])|(apply zB.out hK;clear hK K;try with_reducible dsimp only[zC]))
 refine zf ?_
 try dsimp only[zC,zP]
 refine⟨by simp,_,(by first | rfl|(simp (disch:=omega) [go_sem,zG] <;> rfl)),?_⟩
 show ZD _ _ (eachV lo hi [.fslc a0 a1 a2 A,.fslc b0 b1 b2 B]) _ _
 refine zZ ⟨fun x hx=>?_,?_,rfl,rfl,rfl⟩
 ·simp (disch:=omega) only[zG]
 ·simp[below,belowL] at hbel
  simp[eachV,below,belowL,hbel]
theorem each_iter (nl fu:Bool) (s:Nat) (ls:List Lin) (hnl:ls=[]∨nl=false∧s=8) (hl:ls.length≤1000000) (hk:∀l ∈ ls,lnOk l) (onl ofu:Bool) (os:Nat) (O:List AV) (lo hi:Int) (h0:0≤lo) (h1:lo≤hi) (h4:hi≤400) (m:Nat)
  (I:Int→zH→Nat→Prop) (J:zH→Nat→Prop) (h:zH) (n:Nat) (K:AV→zH→Nat→Prop)
  (hI0:I lo h n) (hIn:∀d h' n',I d h' n'→n≤n') (mono:∀d h' a b,I d h' a→a≤b→I d h' b)
  (step:∀d h' n' h2 mo n2,lo≤d→d≤hi→I d h' n'→n'≤mo→mo < n2→(∀x,x < n'→h2 x=h' x)→h2 mo=acO ((ZN (dayD ls d)).map (dutyA d))→YieldsA Tryz.prog m [iv .i64 d,acV 3 mo ((ZN (dayD ls d)).map (dutyA d))] (I (d + 1)) J h2 n2)
  (hI:∀h' n',I (hi + 1) h' n'→K (.tup []) h' n') (hJ:∀h' n',J h' n'→K (.tup []) h' n') :
  zQ Tryz.prog 113 [.yld m,.fptr [iv .i64 lo,iv .i64 hi],.fptr [.fslc nl fu s (ls.map zg),.fslc onl ofu os O]] h n K:=by
 refine zQ.entry (by kernel_rfl) fun hb _=>zV Tryz.func113 rfl (by kernel_rfl) (by simp[Tryz.ntmps113]) ?_
 have kf:=fun d (h0:0≤d) (h4:d≤400) H N=>found_spec nl fu s ls hnl hl hk onl ofu os O d h0 h4 H N
 generalize List.map zg ls=LL at *
 replace kf:zB _:=kf
 replace hI0:zB _:=hI0
 replace hIn:zB _:=hIn
 replace mono:zB _:=mono
 replace step:zB _:=step
 replace hI:zB _:=hI
 replace hJ:zB _:=hJ
 replace hk:zB _:=hk
 replace hnl:zB _:=hnl
 repeat' (first|(refine zD fun K hK=>?_)|(refine zA fun K hK=>?_;simp (disch:=omega) [go_sem, *,Tryz.ntmps113])|(apply zB.out hK;clear hK K;try with_reducible dsimp only[zC])|(refine zI ?_))
 refine zW (fun s'=>∃(d:Int) (n':Nat) (h':zH),lo≤d∧d≤hi + 1∧I d h' n'∧s'=⟨20,[(0,.yld m),(1,.fptr [iv .i64 lo,iv .i64 hi]),(2,.fptr [.fslc nl fu s LL,.fslc onl ofu os O]),(4,iv .i64 d)],h',n'⟩)
   (fun s'=>(hi + 1 - zY s' 4).toNat) ?_ ?_
 ·refine zX (by simp[go_sem]) (Sub.refl _) ⟨lo,_,h,Int.le_refl _,by omega,mono.out _ _ _ _ hI0.out ?_,rfl⟩
  omega
 ·rintro s' ⟨d,n',h',hd1,hd2,hId,rfl⟩
  replace hId:zB _:=hId
  by_cases hlt:d≤hi
  ·have kfd:=kf.out d (by omega) (by omega)
   replace kfd:zB _:=kfd
   repeat' (first|(refine zD fun K hK=>?_)|(refine zA fun K hK=>?_;simp (disch:=omega) [go_sem, *])|(apply zB.out hK;clear hK K;try with_reducible dsimp only[zC])|(apply zB.out ht;clear ht hf Kt Kf)|(refine zI ?_)|(refine zK ?_;simp only[zC])|(refine zF fun Kt Kf ht hf=>?_;simp (disch:=omega) [go_sem, *];try (refine⟨fun hc=>?_,fun hc=>?_⟩ <;> try (exfalso;omega))))
   refine .inl ((kfd.out _ _).mono fun r h2 n2 hp=>?_)
   obtain⟨mo,hm1,hm2,rfl,hm3,hx2⟩:=hp
   have hst:=fun b hb=>step.out d h' b h2 mo n2 hd1 hlt (mono.out _ _ n' b hId.out hb)
   replace hst:zB _:=hst
   clear kfd
   simp (disch:=omega) [go_sem]
   refine hst.out (n' + 4 + 7) (by omega) hm1 hm2 hx2 hm3 _ (fun h3 n3 hI3=>?_) (fun h3 n3 hJ3=>?_)
   ·clear hm3 hx2
    replace hI3:zB _:=hI3
    simp (disch:=omega) [go_sem]
    repeat' (first|(refine zA fun K hK=>?_;simp (disch:=omega) [go_sem, *,zM])|(apply zB.out hK;clear hK K;try with_reducible dsimp only[zC])|(apply zB.out hf;clear ht hf Kt Kf)|(refine zK ?_;simp only[zC,zP])|(refine zF fun Kt Kf ht hf=>?_;simp (disch:=omega) [go_sem, *];try (refine⟨fun hc=>?_,fun hc=>?_⟩ <;> try (exfalso;omega))))
    refine zS (by simp (disch:=omega) [go_sem]) (Sub.refl _) ⟨d + 1,_,h3,by omega,by omega,mono.out _ _ _ _ hI3.out ?_,rfl⟩ (by simp[zY,go_sem];omega)
    omega
   ·clear hm3 hx2
    replace hJ3:zB _:=hJ3
    simp (disch:=omega) [go_sem]
    repeat' (first|(apply zB.out hK;clear hK K;try with_reducible dsimp only[zC])|(apply zB.out ht;clear ht hf Kt Kf)|(refine zF fun Kt Kf ht hf=>?_;simp (disch:=omega) [go_sem, *];try (refine⟨fun hc=>?_,fun hc=>?_⟩ <;> try (exfalso;omega))))
    refine zf ?_
    try dsimp only[zC,zP]
    refine⟨by simp,_,rfl,?_⟩
    exact zZ (hJ.out _ _ hJ3.out)
  ·have hdd:d=hi + 1:=by omega
   subst hdd
   repeat' (first|(refine zD fun K hK=>?_)|(refine zA fun K hK=>?_;simp (disch:=omega) [go_sem, *])|(apply zB.out hK;clear hK K;try with_reducible dsimp only[zC])|(apply zB.out hf;clear ht hf Kt Kf)|(refine zT ?_;simp only[zC,zP,if_true])|(refine zF fun Kt Kf ht hf=>?_;simp (disch:=omega) [go_sem, *];try (refine⟨fun hc=>?_,fun hc=>?_⟩ <;> try (exfalso;omega))))
   refine⟨by simp,_,rfl,?_⟩
   exact zZ (hI.out _ _ (mono.out _ _ _ _ hId.out (by omega)))
end Go.AM
namespace Go.AM
open Go.Proofs Cw Du
set_option maxRecDepth 10000
set_option maxHeartbeats 4000000
def jQ {α:Type} (q:α→Bool):List α→Nat→Int
 | [],_=>-1
 | x :: r,i=>if q x then i else jQ q r (i + 1)
theorem idxQ_iff {α:Type} (q:α→Bool):∀(l:List α) (i:Nat),0≤jQ q l i↔l.any q=true
 | [],_=>by simp[jQ]
 | x :: r,i=>by
  have ih:=idxQ_iff q r (i + 1)
  cases hx:q x with
  | true=>rw[jQ,hx,if_pos rfl];simp[hx]
  | false=>rw[jQ,hx,if_neg (by simp),ih];simp[hx]
theorem idxQ_in {α:Type} (q:α→Bool) (l:List α) (i:Nat):decide (jQ q l i ≥ 0)=l.any q:=by
 rw[Bool.eq_iff_iff,decide_eq_true_eq];exact idxQ_iff q l i
theorem indexFS (g:FuncId) (caps:List AV) (q:ByteArray→Bool) (nl fu:Bool) (s:Nat) (l:List ByteArray) (hq:∀x ∈ l,zJ Tryz.prog g (sv x :: caps) (bv (q x))) (hnl:l=[]∨nl=false∧s=1) (hl:l.length≤1000000):zJ Tryz.prog 111 [.fslc nl fu s (l.map (sv)),.func (.func g) [] caps] (iv .i64 (jQ q l 0)):=by
 intro h n
 refine zQ.pure (zQ.entry (by kernel_rfl) fun hb _=>zV Tryz.func111 rfl (by kernel_rfl) (by simp[Tryz.ntmps111]) ?_)
 obtain⟨T,hT⟩:∃T,zB (T=jQ q l 0):=⟨_,rfl⟩
 rw[←hT.out]
 replace hnl:zB _:=hnl
 replace hq:zB _:=hq
 repeat' (first|(refine zD fun K hK=>?_)|(refine zA fun K hK=>?_;simp (disch:=omega) [go_sem, *,Tryz.ntmps111])|(apply zB.out hK;clear hK K;try with_reducible dsimp only[zC])|(refine zI ?_))
 refine zW (fun s'=>∃(i:Nat) (n':Nat),n≤n'∧i≤l.length∧jQ q (l.drop i) i=T∧s'=⟨19,[(0,.fslc nl fu s (l.map (sv))),(1,.func (.func g) [] caps),(7,iv .i64 l.length),(8,iv .i64 i)],h,n'⟩)
   (fun s'=>l.length - (zY s' 8).toNat) ?_ ?_
 ·exact zX (by simp[go_sem]) (Sub.refl _) ⟨0,_,by omega,by omega,hT.out.symm,rfl⟩
 ·rintro s' ⟨i,n',hn',hi,hc,rfl⟩
  by_cases hlt:i < l.length
  ·obtain⟨x,hx⟩:∃x,l[i]=x:=⟨_,rfl⟩
   have hne:l≠[]:=fun e=>by rw[e] at hlt;simp at hlt
   obtain⟨rfl,rfl⟩:=hnl.out.resolve_left hne
   have hdr:l.drop i=x :: l.drop (i + 1):=by rw[List.drop_eq_getElem_cons hlt,hx]
   rw[hdr,jQ] at hc
   have k1:=hq.out x (hx ▸ List.getElem_mem hlt)
   skip
   clear hdr hne
   skip
   generalize hz:q x=z at *
   replace hz:zB _:=trivial
   skip
   cases z with
   | true=>
    rw[if_pos rfl] at hc
    subst hc
    repeat' (first|(refine zD fun K hK=>?_)|(refine zA fun K hK=>?_;simp (disch:=omega) [go_sem, *,zN,zO])|(apply zB.out hK;clear hK K;try with_reducible dsimp only[zC])|(apply zB.out ht;clear ht hf Kt Kf)|(with_reducible refine zJ.gcall (k1) ?_;try simp (disch:=omega) [go_sem, *])|(refine zI ?_)|(refine zK ?_;simp only[zC])|(refine zF fun Kt Kf ht hf=>?_;simp (disch:=omega) [go_sem, *];try (refine⟨fun hc=>?_,fun hc=>?_⟩ <;> try (exfalso;omega))))
    exact zR
   | false=>
    rw[if_neg (by simp)] at hc
    replace hc:zB _:=hc
    repeat' (first|(refine zD fun K hK=>?_)|(refine zA fun K hK=>?_;simp (disch:=omega) [go_sem, *,zM,zN,zO])|(apply zB.out hK;clear hK K;try with_reducible dsimp only[zC])|(apply zB.out ht;clear ht hf Kt Kf)|(apply zB.out hf;clear ht hf Kt Kf)|(with_reducible refine zJ.gcall (k1) ?_;try simp (disch:=omega) [go_sem, *])|(refine zI ?_)|(refine zK ?_;simp only[zC,zP])|(refine zF fun Kt Kf ht hf=>?_;simp (disch:=omega) [go_sem, *];try (refine⟨fun hc=>?_,fun hc=>?_⟩ <;> try (exfalso;omega))))
    exact zS (by simp (disch:=omega) [go_sem]) (Sub.refl _) ⟨i + 1,_,by omega,by omega,hc.out,rfl⟩ (by simp[zY,go_sem];omega)
  ·rw[List.drop_eq_nil_of_le (by omega),jQ] at hc
   subst hc
   repeat' (first|(refine zD fun K hK=>?_)|(refine zA fun K hK=>?_;simp (disch:=omega) [go_sem, *,zU])|(apply zB.out hK;clear hK K;try with_reducible dsimp only[zC])|(apply zB.out hf;clear ht hf Kt Kf)|(clear hK K;apply zB.out hK;clear hK K;try with_reducible dsimp only[zC])|(refine zT ?_;simp only[zC,zP,if_true])|(refine zF fun Kt Kf ht hf=>?_;simp (disch:=omega) [go_sem, *];try (refine⟨fun hc=>?_,fun hc=>?_⟩ <;> try (exfalso;omega))))
   exact zR
theorem containsFS (g:FuncId) (caps:List AV) (q:ByteArray→Bool) (nl fu:Bool) (s:Nat) (l:List ByteArray) (hq:∀x ∈ l,zJ Tryz.prog g (sv x :: caps) (bv (q x))) (hnl:l=[]∨nl=false∧s=1) (hl:l.length≤1000000):zJ Tryz.prog 50 [.fslc nl fu s (l.map (sv)),.func (.func g) [] caps] (bv (l.any q)):=by
 intro h n
 have k1:=indexFS g caps q nl fu s l hq hnl hl
 rw[←idxQ_in q l 0]
 refine zQ.pure (zQ.entry (by kernel_rfl) fun hb _=>zV Tryz.func50 rfl (by kernel_rfl) (by simp[Tryz.ntmps50]) ?_)
 generalize jQ q l 0=x at *
 generalize List.map (sv) l=L at *
 clear hnl hq
 repeat' (first|(refine zD fun K hK=>?_)|(refine zA fun K hK=>?_;simp (disch:=omega) [go_sem, *,Tryz.ntmps50])|(apply zB.out hK;clear hK K;try with_reducible dsimp only[zC])|(with_reducible refine zJ.gcall (k1) ?_;try simp (disch:=omega) [go_sem, *]))
 exact zR
theorem indexFD (d:Int) (g:FuncId) (caps:List AV) (q:Pr→Bool) (nl fu:Bool) (s:Nat) (l:List Pr) (hq:∀x ∈ l,zJ Tryz.prog g (dutyA d x :: caps) (bv (q x))) (hnl:l=[]∨nl=false∧s=3) (hl:l.length≤1000000):zJ Tryz.prog 114 [.fslc nl fu s (l.map (dutyA d)),.func (.func g) [] caps] (iv .i64 (jQ q l 0)):=by
 intro h n
 refine zQ.pure (zQ.entry (by kernel_rfl) fun hb _=>zV Tryz.func114 rfl (by kernel_rfl) (by simp[Tryz.ntmps114]) ?_)
 obtain⟨T,hT⟩:∃T,zB (T=jQ q l 0):=⟨_,rfl⟩
 rw[←hT.out]
 replace hnl:zB _:=hnl
 replace hq:zB _:=hq
 repeat' (first|(refine zD fun K hK=>?_)|(refine zA fun K hK=>?_;simp (disch:=omega) [go_sem, *,Tryz.ntmps114])|(apply zB.out hK;clear hK K;try with_reducible dsimp only[zC])|(refine zI ?_))
 refine zW (fun s'=>∃(i:Nat) (n':Nat),n≤n'∧i≤l.length∧jQ q (l.drop i) i=T∧s'=⟨19,[(0,.fslc nl fu s (l.map (dutyA d))),(1,.func (.func g) [] caps),(7,iv .i64 l.length),(8,iv .i64 i)],h,n'⟩)
   (fun s'=>l.length - (zY s' 8).toNat) ?_ ?_
 ·exact zX (by simp[go_sem]) (Sub.refl _) ⟨0,_,by omega,by omega,hT.out.symm,rfl⟩
 ·rintro s' ⟨i,n',hn',hi,hc,rfl⟩
  by_cases hlt:i < l.length
  ·obtain⟨x,hx⟩:∃x,l[i]=x:=⟨_,rfl⟩
   have hne:l≠[]:=fun e=>by rw[e] at hlt;simp at hlt
   obtain⟨rfl,rfl⟩:=hnl.out.resolve_left hne
   have hdr:l.drop i=x :: l.drop (i + 1):=by rw[List.drop_eq_getElem_cons hlt,hx]
   rw[hdr,jQ] at hc
   have k1:=hq.out x (hx ▸ List.getElem_mem hlt)
   have hex:dutyA d l[i]=.agg [iv .i64 d,sv x.1,sv x.2]:=by rw[hx];rfl
   clear hdr hne
   replace hx:zB _:=hx
   generalize hz:q x=z at *
   replace hz:zB _:=trivial
   simp only[dutyA] at k1
   cases z with
   | true=>
    rw[if_pos rfl] at hc
    subst hc
    repeat' (first|(refine zD fun K hK=>?_)|(refine zA fun K hK=>?_;simp (disch:=omega) [go_sem, *,zN,zO])|(apply zB.out hK;clear hK K;try with_reducible dsimp only[zC])|(apply zB.out ht;clear ht hf Kt Kf)|(with_reducible refine zJ.gcall (k1) ?_;try simp (disch:=omega) [go_sem, *])|(refine zI ?_)|(refine zK ?_;simp only[zC])|(refine zF fun Kt Kf ht hf=>?_;simp (disch:=omega) [go_sem, *];try (refine⟨fun hc=>?_,fun hc=>?_⟩ <;> try (exfalso;omega))))
    exact zR
   | false=>
    rw[if_neg (by simp)] at hc
    replace hc:zB _:=hc
    repeat' (first|(refine zD fun K hK=>?_)|(refine zA fun K hK=>?_;simp (disch:=omega) [go_sem, *,zM,zN,zO])|(apply zB.out hK;clear hK K;try with_reducible dsimp only[zC])|(apply zB.out ht;clear ht hf Kt Kf)|(apply zB.out hf;clear ht hf Kt Kf)|(with_reducible refine zJ.gcall (k1) ?_;try simp (disch:=omega) [go_sem, *])|(refine zI ?_)|(refine zK ?_;simp only[zC,zP])|(refine zF fun Kt Kf ht hf=>?_;simp (disch:=omega) [go_sem, *];try (refine⟨fun hc=>?_,fun hc=>?_⟩ <;> try (exfalso;omega))))
    exact zS (by simp (disch:=omega) [go_sem]) (Sub.refl _) ⟨i + 1,_,by omega,by omega,hc.out,rfl⟩ (by simp[zY,go_sem];omega)
  ·rw[List.drop_eq_nil_of_le (by omega),jQ] at hc
   subst hc
   repeat' (first|(refine zD fun K hK=>?_)|(refine zA fun K hK=>?_;simp (disch:=omega) [go_sem, *,zU])|(apply zB.out hK;clear hK K;try with_reducible dsimp only[zC])|(apply zB.out hf;clear ht hf Kt Kf)|(clear hK K;apply zB.out hK;clear hK K;try with_reducible dsimp only[zC])|(refine zT ?_;simp only[zC,zP,if_true])|(refine zF fun Kt Kf ht hf=>?_;simp (disch:=omega) [go_sem, *];try (refine⟨fun hc=>?_,fun hc=>?_⟩ <;> try (exfalso;omega))))
   exact zR
theorem containsFD (d:Int) (g:FuncId) (caps:List AV) (q:Pr→Bool) (nl fu:Bool) (s:Nat) (l:List Pr) (hq:∀x ∈ l,zJ Tryz.prog g (dutyA d x :: caps) (bv (q x))) (hnl:l=[]∨nl=false∧s=3) (hl:l.length≤1000000):zJ Tryz.prog 54 [.fslc nl fu s (l.map (dutyA d)),.func (.func g) [] caps] (bv (l.any q)):=by
 intro h n
 have k1:=indexFD d g caps q nl fu s l hq hnl hl
 rw[←idxQ_in q l 0]
 refine zQ.pure (zQ.entry (by kernel_rfl) fun hb _=>zV Tryz.func54 rfl (by kernel_rfl) (by simp[Tryz.ntmps54]) ?_)
 generalize jQ q l 0=x at *
 generalize List.map (dutyA d) l=L at *
 clear hnl hq
 repeat' (first|(refine zD fun K hK=>?_)|(refine zA fun K hK=>?_;simp (disch:=omega) [go_sem, *,Tryz.ntmps54])|(apply zB.out hK;clear hK K;try with_reducible dsimp only[zC])|(with_reducible refine zJ.gcall (k1) ?_;try simp (disch:=omega) [go_sem, *]))
 exact zR
end Go.AM
namespace Go.AM
open Go.Proofs Cw Du Go.RowKit
set_option maxRecDepth 10000
set_option maxHeartbeats 4000000
theorem gaps1 (s:ByteArray) (hl:s.size≤1000000):zJ Tryz.prog 51 [sv s] (bv (!z8 s)):=by
 intro h n
 have k1:=named83 s hl
 refine zQ.pure (zQ.entry (by kernel_rfl) fun hb _=>zV Tryz.func51 rfl (by kernel_rfl) (by simp[Tryz.ntmps51]) ?_)
 generalize z8 s=z at *
 clear hl
 repeat' (first|(refine zD fun K hK=>?_)|(refine zA fun K hK=>?_;simp (disch:=omega) [go_sem, *,Tryz.ntmps51])|(apply zB.out hK;clear hK K;try with_reducible dsimp only[zC])|(with_reducible refine zJ.gcall (k1) ?_;try simp (disch:=omega) [go_sem, *]))
 exact zR
theorem gaps2 (d:Int) (t:ByteArray) (p:Pr):zJ Tryz.prog 55 [dutyA d p,.fptr [sv t]] (bv (eqB p.1 t)):=by
 intro h n
 refine zQ.pure (zQ.entry (by kernel_rfl) fun hb _=>zV Tryz.func55 rfl (by kernel_rfl) (by simp[Tryz.ntmps55]) ?_)
 simp only[dutyA,eqB]
 repeat' (first|(refine zD fun K hK=>?_)|(refine zA fun K hK=>?_;simp (disch:=omega) [go_sem, *,Tryz.ntmps55])|(apply zB.out hK;clear hK K;try with_reducible dsimp only[zC]))
 exact zR
abbrev Dy:=Int × Pr
def dyA (y:Dy):AV:=dutyA y.1 y.2
theorem dy_len (y:Dy):(cellsOf (dyA y)).length=3:=rfl
theorem elemsY:∀D:List Dy,Zp true 3 D.length (flat (D.map dyA))=D.map dyA
 | []=>rfl
 | p :: r=>by
  have ih:=elemsY r
  have e:flat ((p :: r).map dyA)=[iv .i64 p.1,sv p.2.1,sv p.2.2] ++ flat (r.map dyA):=by simp[flat,dyA,dutyA,cellsOf]
  rw[e]
  simp only[Zp,List.length_cons,qP,List.map_cons] at ih ⊢
  have e1:List.drop 3 ([iv .i64 p.1,sv p.2.1,sv p.2.2] ++ flat (r.map dyA))=flat (r.map dyA):=rfl
  have e2:List.take 3 ([iv .i64 p.1,sv p.2.1,sv p.2.2] ++ flat (r.map dyA))=[iv .i64 p.1,sv p.2.1,sv p.2.2]:=rfl
  rw[e1,e2,ih];rfl
theorem ap_dy {nm m:Nat} {V:List Dy} {X:List Dy} {h:zH} {b c:Bool} (hm:h m=acO (V.map dyA)) (hX:X≠[]) (hl:V.length + X.length≤2000000) :
  zm Tryz.prog nm 28 (acV 3 m (V.map dyA)) (.fslc b c 3 (X.map dyA)) h=some (acV 3 nm ((V ++ X).map dyA),(h.upd m none).upd nm (acO ((V ++ X).map dyA))):=by
 have:=ap_ac (P:=Tryz.prog) (T:=28) (e:=51) (s:=3) (by_:=40) (z:=.agg [iv .i64 0,sv ByteArray.empty,sv ByteArray.empty]) (by kernel_rfl) (by kernel_rfl) (by kernel_rfl) (by kernel_rfl) (by simp[cellsOf,AV.scalar]) (nm:=nm) (m:=m) (L:=V.map dyA) (X:=X.map dyA) (nl:=b) (full:=c) hm (fun y hy=>by obtain⟨o,_,rfl⟩:=List.mem_map.1 hy;exact dy_len o) (by simpa using hX) (by simp;omega)
 rw[List.map_append];exact this
def dyF (L:List Dy):AV:=if L=[] then .fslc true true 0 [] else .fslc false false 3 (L.map dyA)
theorem ret_dy {fl:Nat} {K:AV→zH→Nat→Prop} {m:Nat} {V:List Dy} {e:Int} {h:zH} {n:Nat} (hm:h m=acO (V.map dyA)) (hk:ZD fl K (.tup [dyF V,iv .i64 e]) (h.upd m none) n):ZD fl K (.tup [acV 3 m (V.map dyA),iv .i64 e]) h n:=by
 by_cases h0:V=[]
 ·subst h0
  rw[JQ hm] at hk
  exact hk
 ·have h1:V.map dyA≠[]:=by simpa using h0
  rw[Zm h1] at hm
  rw[ZQ h1,List.length_map]
  refine Qa true hm ?_
  have hfl:(flat (V.map dyA)).length=V.length * 3:=by
   have:=Zy (s:=3) (L:=V.map dyA) (fun y hy=>by obtain⟨o,_,rfl⟩:=List.mem_map.1 hy;exact dy_len o)
   rw[this,List.length_map]
  have ef:fzD m (flat (V.map dyA)) true (.tup [.slc m 0 V.length 3,iv .i64 e])=.tup [.fslc false false 3 (V.map dyA),iv .i64 e]:=by
   simp only[fzD,fzDL,Nat.zero_add,List.drop_zero]
   rw[if_pos ⟨trivial,by omega,by simp⟩,elemsY]
  rw[ef]
  simpa [dyF,h0] using hk
theorem QN (n:Nat) (V:List Dy):below n (dyF V):=by
 unfold dyF
 split
 ·simp[below,belowL]
 ·simp[below];rw[Z1];intro y hy;obtain⟨o,_,rfl⟩:=List.mem_map.1 hy;simp[dyA,dutyA,below,belowL]
def gapsD (ls:List Lin) (ts:List ByteArray) (d:Int):List Dy:=(ts.filter fun t=>!(duR ls d).any fun p=>eqB p.1 t).map fun t=>(d,t,ByteArray.empty)
def Jl (ls:List Lin) (ts:List ByteArray) (lo:Int) (k:Nat):List Dy:=(dys lo k).flatMap (gapsD ls ts)
def twS:List ByteArray→List ByteArray→Bool
 | _,[]=>false
 | seen,t :: r=>inS t seen || twS (seen ++ [t]) r
def Ji (ls:List Lin) (l:List Ordr) (ts:List ByteArray) (lo hi:Int):Int:=if Zc ls l lo hi≠0 then Zc ls l lo hi else if (ts.any fun t=>!z8 t)=true then 1 else if ts.length > 60 then 2 else if twS [] ts=true then 6 else 0
def jT (ls:List Lin) (l:List Ordr) (ts:List ByteArray) (lo hi:Int):List Dy × Int:=if Ji ls l ts lo hi≠0 then ([],Ji ls l ts lo hi) else (Jl ls ts lo (hi + 1 - lo).toNat,0)
theorem jD {ls:List Lin} {l:List Ordr} {lo hi:Int} (h:Zc ls l lo hi=0):qj ls l=0∧0≤lo∧lo≤hi∧hi≤400:=by
 unfold Zc at h
 split at h
 ·rename_i h1;exact absurd h h1
 ·rename_i h1
  split at h
  ·cases h
  ·exact⟨by simpa using h1,by omega,by omega,by omega⟩
theorem gapsD_len (ls:List Lin) (ts:List ByteArray) (d:Int):(gapsD ls ts d).length≤ts.length:=by
 unfold gapsD;rw[List.length_map];exact List.length_filter_le _ _
theorem QM (ls:List Lin) (ts:List ByteArray):∀(k:Nat) (lo:Int),(Jl ls ts lo k).length≤k * ts.length
 | 0,_=>by simp[Jl,dys]
 | k + 1,lo=>by
  have:=QM ls ts k (lo + 1)
  have h2:=gapsD_len ls ts lo
  unfold Jl at this ⊢
  rw[dys,List.flatMap_cons,List.length_append,Nat.succ_mul];omega
theorem qA (ls:List Lin) (d:Int):(duR ls d).length≤ls.length:=by
 unfold duR;rw[(Z7 _).length_eq];exact dayD_len ls d
theorem Gaps_spec (nlL fuL:Bool) (sL:Nat) (ls:List Lin) (hnlL:ls=[]∨nlL=false∧sL=8) (hsL:smL ls) (hlL:ls.length≤1000000) (nl fu:Bool) (s:Nat) (l:List Ordr) (hnl:l=[]∨nl=false∧s=7) (hw:wfO l) (hs:smO l) (hl:l.length≤1000000)
  (tnl tfu:Bool) (tz:Nat) (ts:List ByteArray) (htn:ts=[]∨tnl=false∧tz=1) (htl:ts.length≤100) (hts:∀t ∈ ts,t.size≤1000000) (lo hi:Int) :
  zJ Tryz.prog 16 [.agg [.fslc nlL fuL sL (ls.map zg),.fslc nl fu s (l.map ZH)],.fslc tnl tfu tz (ts.map sv),.agg [iv .i64 lo,iv .i64 hi]] (.tup [dyF (jT ls l ts lo hi).1,iv .i64 (jT ls l ts lo hi).2]):=by
 intro h n
 have k1:=qO nlL fuL sL ls hnlL hsL hlL nl fu s l hnl hw hs hl lo hi
 have k2:=containsFS 51 [] (fun t=>!z8 t) tnl tfu tz ts (fun t ht=>gaps1 t (hts t ht)) htn (by omega)
 refine zQ.pure (zQ.entry (by kernel_rfl) fun hb _=>zV Tryz.func16 rfl (by kernel_rfl) (by simp[Tryz.ntmps16]) ?_)
 by_cases hc:Zc ls l lo hi=0
 ·rw[hc] at k1
  obtain⟨hc0,hlo,hlh,hhi⟩:=jD hc
  have hz:=j4 hc0 hsL
  cases hb2:(ts.any fun t=>!z8 t) with
  | true=>
   have ho:jT ls l ts lo hi=([],1):=by
    have:Ji ls l ts lo hi=1:=by unfold Ji;rw[if_neg (by simpa using hc),if_pos hb2]
    unfold jT;rw[this];rfl
   rw[ho,show dyF []=.fslc true true 0 [] from rfl]
   rw[hb2] at k2
   generalize List.map zg ls=LL at *
   generalize List.map ZH l=OO at *
   generalize List.map sv ts=TT at *
   clear ho hb2 hc hc0 hlo hlh hhi hz hsL hs hw hnl hnlL hts htn htl
   repeat' (first|(refine zD fun K hK=>?_)|(refine zA fun K hK=>?_;simp (disch:=omega) [go_sem, *,zG,Tryz.ntmps16])|(apply zB.out hK;clear hK K;try with_reducible dsimp only[zC])|(apply zB.out ht;clear ht hf Kt Kf)|(apply zB.out hf;clear ht hf Kt Kf)|(with_reducible refine zJ.gcall (k1) ?_;try simp (disch:=omega) [go_sem, *])|(with_reducible refine zJ.gcall (k2) ?_;try simp (disch:=omega) [go_sem, *])|(refine zK ?_;simp only[zC])|(refine zF fun Kt Kf ht hf=>?_;simp (disch:=omega) [go_sem, *];try (refine⟨fun hc=>?_,fun hc=>?_⟩ <;> try (exfalso;omega))))
   (refine zf ?_;try dsimp only[zC,zP];refine⟨by simp,_,(by first | rfl|(simp (disch:=omega) [go_sem,zG] <;> rfl)),?_⟩;refine zZ ⟨fun k hk=>(by first | rfl|(repeat rw[zG _ _ _ _ (by omega)])),(by simp[go_sem,below,belowL]),(by simp[go_sem] <;> omega),by simp,by simp⟩)
  | false=>
   rw[hb2] at k2
   by_cases h60:ts.length > 60
   ·have ho:jT ls l ts lo hi=([],2):=by
     have:Ji ls l ts lo hi=2:=by unfold Ji;rw[if_neg (by simpa using hc),if_neg (by rw[hb2];simp),if_pos h60]
     unfold jT;rw[this];rfl
    rw[ho,show dyF []=.fslc true true 0 [] from rfl]
    have htl2:(List.map sv ts).length > 60:=by simpa using h60
    have hlen:(List.map sv ts).length=ts.length:=by simp
    generalize List.map zg ls=LL at *
    generalize List.map ZH l=OO at *
    generalize List.map sv ts=TT at *
    clear ho hb2 hc hc0 hlo hlh hhi hz hsL hs hw hnl hnlL hts htn
    repeat' (first|(refine zD fun K hK=>?_)|(refine zA fun K hK=>?_;simp (disch:=omega) [go_sem, *,zG,zN,Tryz.ntmps16])|(apply zB.out hK;clear hK K;try with_reducible dsimp only[zC])|(apply zB.out ht;clear ht hf Kt Kf)|(apply zB.out hf;clear ht hf Kt Kf)|(with_reducible refine zJ.gcall (k1) ?_;try simp (disch:=omega) [go_sem, *])|(with_reducible refine zJ.gcall (k2) ?_;try simp (disch:=omega) [go_sem, *])|(refine zK ?_;simp only[zC])|(refine zF fun Kt Kf ht hf=>?_;simp (disch:=omega) [go_sem, *];try (refine⟨fun hc=>?_,fun hc=>?_⟩ <;> try (exfalso;omega))))
    (refine zf ?_;try dsimp only[zC,zP];refine⟨by simp,_,(by first | rfl|(simp (disch:=omega) [go_sem,zG] <;> rfl)),?_⟩;refine zZ ⟨fun k hk=>(by first | rfl|(repeat rw[zG _ _ _ _ (by omega)])),(by simp[go_sem,below,belowL]),(by simp[go_sem] <;> omega),by simp,by simp⟩)
   ·have ho:Ji ls l ts lo hi=if twS [] ts=true then 6 else 0:=by
     unfold Ji;rw[if_neg (by simpa using hc),if_neg (by rw[hb2];simp),if_neg h60]
    have k3:=each_spec nlL fuL sL (ls.map zg) nl fu s (l.map ZH) lo hi
    have kc:∀(i:Nat) (w:ByteArray),zJ Tryz.prog 52 [.fslc false (tfu && decide ((i:Int)=ts.length)) 1 (List.take i (List.map sv ts)),sv w] (bv (inS w (ts.take i))):=fun i w=>by
     have:=contains84 false (tfu && decide ((i:Int)=ts.length)) (ts.take i) w (by rw[List.length_take];omega)
     rw[List.map_take] at this;exact this
    replace ho:zB _:=ho
    replace hz:zB _:=hz
    replace htn:zB _:=htn
    replace hts:zB _:=hts
    replace hnlL:zB _:=hnlL
    replace kc:zB _:=kc
    generalize hLL:List.map zg ls=LL at *
    generalize List.map ZH l=OO at *
    replace hLL:zB _:=hLL
    clear hb2 hc hc0 hsL hs hw hnl
    repeat' (first|(refine zD fun K hK=>?_)|(refine zA fun K hK=>?_;simp (disch:=omega) [go_sem, *,zG,zU,Tryz.ntmps16])|(apply zB.out hK;clear hK K;try with_reducible dsimp only[zC])|(apply zB.out hf;clear ht hf Kt Kf)|(with_reducible refine zJ.gcall (k1) ?_;try simp (disch:=omega) [go_sem, *])|(with_reducible refine zJ.gcall (k2) ?_;try simp (disch:=omega) [go_sem, *])|(refine zI ?_)|(refine zK ?_;simp only[zC])|(refine zF fun Kt Kf ht hf=>?_;simp (disch:=omega) [go_sem, *];try (refine⟨fun hc=>?_,fun hc=>?_⟩ <;> try (exfalso;omega))))
    obtain⟨H3,hH3⟩:∃H3,zB (H3=((h.upd n (some (.cells [.fslc nlL fuL sL LL,.fslc nl fu s OO]))).upd (n + 1) (some (.cells [.fslc tnl tfu tz (List.map sv ts)]))).upd (n + 2) (some (.cells [iv .i64 lo,iv .i64 hi]))):=⟨_,rfl⟩
    have hb0:H3 n=some (.cells [.fslc nlL fuL sL LL,.fslc nl fu s OO]):=by rw[hH3.out];simp (disch:=omega) only[zG,zL]
    have hb1:H3 (n + 1)=some (.cells [.fslc tnl tfu tz (List.map sv ts)]):=by rw[hH3.out];simp (disch:=omega) only[zG,zL]
    have hb2:H3 (n + 2)=some (.cells [iv .i64 lo,iv .i64 hi]):=by rw[hH3.out];simp (disch:=omega) only[zL]
    have hfr:zB (∀x,x < n→H3 x=h x):=fun x hx=>by rw[hH3.out];simp (disch:=omega) only[zG]
    simp only[←hH3.out]
    clear k1 k2
    refine zW (fun s'=>∃(i n':Nat),n + 19≤n'∧i≤ts.length∧twS (ts.take i) (ts.drop i)=twS [] ts∧s'=⟨63,[(3,.ptr n 0),(4,.ptr (n + 1) 0),(5,.ptr (n + 2) 0),(27,.fslc tnl tfu tz (List.map sv ts)),(28,iv .i64 ts.length),(29,iv .i64 i)],H3,n'⟩)
     (fun s'=>ts.length - (zY s' 29).toNat) ?_ ?_
    ·exact zX (by simp[go_sem]) (Sub.refl _) ⟨0,_,by omega,by omega,by simp,rfl⟩
    ·rintro s' ⟨i,n',hn',hik,htw,rfl⟩
     by_cases hlt:i < ts.length
     ·obtain⟨t,ht⟩:∃t,ts[i]=t:=⟨_,rfl⟩
      have hne:ts≠[]:=fun e=>by rw[e] at hlt;simp at hlt
      obtain⟨rfl,rfl⟩:=htn.out.resolve_left hne
      have hdr:ts.drop i=t :: ts.drop (i + 1):=by rw[List.drop_eq_getElem_cons hlt,ht]
      have htk:ts.take i ++ [t]=ts.take (i + 1):=by rw[List.take_succ_eq_append_getElem hlt,ht]
      rw[hdr,twS,htk] at htw
      have k1:=kc.out i t
      cases hin:inS t (ts.take i) with
      | true=>
       rw[hin] at htw k1
       simp only[Bool.true_or] at htw
       have ho2:jT ls l ts lo hi=([],6):=by
        have:Ji ls l ts lo hi=6:=by rw[ho.out,←htw];rfl
        unfold jT;rw[this];rfl
       rw[ho2,show dyF []=.fslc true true 0 [] from rfl]
       replace ho2:zB _:=trivial
       replace hin:zB _:=trivial
       replace hdr:zB _:=trivial
       replace htk:zB _:=trivial
       replace htw:zB _:=trivial
       repeat' (first|(refine zD fun K hK=>?_)|(refine zA fun K hK=>?_;simp (disch:=omega) [go_sem, *,zN,zO])|(apply zB.out hK;clear hK K;try with_reducible dsimp only[zC])|(apply zB.out ht;clear ht hf Kt Kf)|(with_reducible refine zJ.gcall (k1) ?_;try simp (disch:=omega) [go_sem, *])|(refine zI ?_)|(refine zK ?_;simp only[zC])|(refine zF fun Kt Kf ht hf=>?_;simp (disch:=omega) [go_sem, *];try (refine⟨fun hc=>?_,fun hc=>?_⟩ <;> try (exfalso;omega))))
       refine zf ?_
       try dsimp only[zC,zP]
       refine⟨by simp,_,(by first | rfl|(simp (disch:=omega) [go_sem,zG] <;> rfl)),?_⟩
       exact zZ ⟨fun k hk=>hfr.out k hk,by simp[go_sem,below,belowL,ZW],by rfl,by simp,by simp⟩
      | false=>
       rw[hin] at htw k1
       simp only[Bool.false_or] at htw
       replace hin:zB _:=trivial
       replace hdr:zB _:=trivial
       replace htk:zB _:=trivial
       replace htw:zB _:=htw
       repeat' (first|(refine zD fun K hK=>?_)|(refine zA fun K hK=>?_;simp (disch:=omega) [go_sem, *,zM,zN,zO])|(apply zB.out hK;clear hK K;try with_reducible dsimp only[zC])|(apply zB.out ht;clear ht hf Kt Kf)|(apply zB.out hf;clear ht hf Kt Kf)|(with_reducible refine zJ.gcall (k1) ?_;try simp (disch:=omega) [go_sem, *])|(refine zI ?_)|(refine zK ?_;simp only[zC,zP])|(refine zF fun Kt Kf ht hf=>?_;simp (disch:=omega) [go_sem, *];try (refine⟨fun hc=>?_,fun hc=>?_⟩ <;> try (exfalso;omega))))
       exact zS (by simp (disch:=omega) [go_sem]) (Sub.refl _) ⟨i + 1,_,by omega,by omega,htw.out,rfl⟩ (by simp[zY,go_sem];omega)
     ·have hii:i=ts.length:=by omega
      subst hii
      rw[List.drop_length,List.take_length,twS] at htw
      have ho2:jT ls l ts lo hi=(Jl ls ts lo (hi + 1 - lo).toNat,0):=by
       have:Ji ls l ts lo hi=0:=by rw[ho.out,←htw];rfl
       unfold jT;rw[this];rfl
      replace ho2:zB _:=ho2
      replace htw:zB _:=trivial
      repeat' (first|(refine zD fun K hK=>?_)|(refine zA fun K hK=>?_;simp (disch:=omega) [go_sem, *,zG])|(apply zB.out hK;clear hK K;try with_reducible dsimp only[zC])|(apply zB.out hf;clear ht hf Kt Kf)|(clear hK K;apply zB.out hK;clear hK K;try with_reducible dsimp only[zC])|(with_reducible refine zJ.gcall (k3) ?_;try simp (disch:=omega) [go_sem, *])|(refine zI ?_)|(refine zT ?_;simp only[zC,zP,if_true])|(refine zF fun Kt Kf ht hf=>?_;simp (disch:=omega) [go_sem, *];try (refine⟨fun hc=>?_,fun hc=>?_⟩ <;> try (exfalso;omega))))
      refine ja (by rfl) ?_
      clear k3 kc
      generalize hLO:AObj.loop LoopState.ready none 63 _ _ _ _=LO
      replace hLO:zB _:=hLO
      show zQ Tryz.prog 113 [.yld _,.fptr [iv .i64 lo,iv .i64 hi],.fptr [.fslc nlL fuL sL LL,.fslc nl fu s OO]] _ _ _
      rw[←hLL.out]
      refine each_iter nlL fuL sL ls hnlL.out hlL hz.out.1 nl fu s OO lo hi hlo hlh hhi _ (fun d h' n2=>∃q V,n' + 6≤n2∧n' + 2≤q∧q < n2∧q≠n' + 1 + 1 + 3∧V=Jl ls ts lo (d - lo).toNat∧h' (n' + 1)=some (.cells [acV 3 q (V.map dyA)])∧h' q=acO (V.map dyA)∧h' (n' + 1 + 1 + 3)=some LO∧(∀x,x < n'→h' x=H3 x)) (fun _ _=>False) _ _ _ ?_ ?_ ?_ ?_ ?_ ?_
      ·exact⟨n' + 2,[],by simp only;omega,by omega,by simp only;omega,by omega,by rw[Int.sub_self];rfl,by simp (disch:=omega) only[zG,zL];rfl,by simp (disch:=omega) only[zG];rw[hH3.out];simp (disch:=omega) only[zG];exact hb.none (by omega),by simp (disch:=omega) only[zL],fun x hx=>by simp (disch:=omega) only[zG]⟩
      ·rintro d h' n2 ⟨q,V,q0,q1,q2,_⟩;simp only;omega
      ·rintro d h' a b ⟨q,V,q0,q1,q2,q3⟩ hab;exact⟨q,V,by omega,q1,by omega,q3⟩
      ·rintro d h' n2 h2 mo n3 hd1 hd2 ⟨q,V,q0,q1,q2,q3,q4,q5,q6,q7,q8⟩ hm1 hm2 hx2 hm3 KK hI hJ
       have hlo7:=hLO.out
       subst hlo7
       refine yield_at ((hx2 (n' + 1 + 1 + 3) (by omega)).trans q7) rfl (by simp) ?_
       simp only[go_sem]
       repeat' (first|(refine zD fun K hK=>?_)|(refine zA fun K hK=>?_;simp (disch:=omega) [go_sem, *])|(apply zB.out hK;clear hK K;try with_reducible dsimp only[zC]))
       refine⟨_,_,_,_,_,(hx2 _ (by omega)).trans q7,?_⟩
       have hSl:=qA ls d
       have hgd:gapsD ls ts d=(ts.filter fun t=>!(duR ls d).any fun p=>eqB p.1 t).map fun t=>(d,t,ByteArray.empty):=rfl
       have hV':Jl ls ts lo (d + 1 - lo).toNat=V ++ gapsD ls ts d:=by rw[q4];unfold Jl;rw[dys_to lo d hd1,List.flatMap_append];simp
       have hVl:V.length≤100000:=by
        rw[q4]
        have h1:=QM ls ts (d - lo).toNat lo
        have:(d - lo).toNat * ts.length≤400 * 100:=Nat.mul_le_mul (by omega) htl
        omega
       change h2 mo=acO ((duR ls d).map (dutyA d)) at hm3
       rw[show (ZN (dayD ls d))=duR ls d from rfl]
       rw[hgd] at hV'
       generalize duR ls d=S at *
       replace hgd:zB _:=trivial
       refine ac_fzac (t:=13) (m:=mo) (s:=3) (L:=S.map (dutyA d)) true (by simp) (by simp (disch:=omega) only[zG];exact hm3) (by simp[go_sem]) (fun x hx=>by obtain⟨o,_,rfl⟩:=List.mem_map.1 hx;rfl) (by rw[List.length_map];exact elemsD d S) ?_
       have kg:=fun t=>containsFD d 55 [.fptr [sv t]] (fun p=>eqB p.1 t) (S.map (dutyA d)).isEmpty false 3 S (fun p _=>gaps2 d t p) (by cases S with | nil=>exact .inl rfl | cons a r=>exact .inr ⟨rfl,rfl⟩) (by omega)
       dsimp only
       generalize hH5:zH.upd (zH.upd h2 _ _) mo none=H5
       have hl5:=(congrFun hH5 (n' + 1 + 1 + 3)).symm.trans ((zG _ _ _ _ (by omega)).trans (zL _ _ _))
       have ht5:H5 (n + 1)=some (.cells [.fslc tnl tfu tz (List.map sv ts)]):=by rw[←hH5];simp (disch:=omega) only[zG];rw[hx2 _ (by omega),q8 _ (by omega)];exact hb1
       have ho5:H5 (n' + 1)=some (.cells [acV 3 q (V.map dyA)]):=by rw[←hH5];simp (disch:=omega) only[zG];rw[hx2 _ (by omega)];exact q5
       have hq5:H5 q=acO (V.map dyA):=by rw[←hH5];simp (disch:=omega) only[zG];rw[hx2 _ (by omega)];exact q6
       have hf5:∀x,x < n'→H5 x=H3 x:=fun x hx=>by rw[←hH5];simp (disch:=omega) only[zG];rw[hx2 _ (by omega),q8 x hx]
       replace hl5:zB _:=hl5
       replace ho5:zB _:=ho5
       replace hq5:zB _:=hq5
       replace hf5:zB _:=hf5
       replace kg:zB _:=kg
       replace hV':zB _:=hV'
       clear hH5 hx2 q5 q6 q7 q8 hm3 hb0 hb1 hb2 q4
       repeat' (first|(refine zD fun K hK=>?_)|(refine zA fun K hK=>?_;simp (disch:=omega) [go_sem, *])|(apply zB.out hK;clear hK K;try with_reducible dsimp only[zC])|(refine zI ?_))
       replace ht5:zB _:=trivial
       refine zW (fun s'=>∃(j n4 q':Nat) (V':List Dy) (H':zH),n3 + 5≤n4∧j≤ts.length∧n' + 2≤q'∧q' < n4∧q'≠n' + 1 + 1 + 3∧V'=V ++ List.map (fun t=>(d,t,ByteArray.empty)) (List.filter (fun t=>!S.any fun p=>eqB p.fst t) (ts.take j))∧H' (n' + 1)=some (.cells [acV 3 q' (V'.map dyA)])∧H' q'=acO (V'.map dyA)∧H' (n' + 1 + 1 + 3)=H5 (n' + 1 + 1 + 3)∧(∀x,x < n'→H' x=H3 x)∧
        s'=⟨63,[(11,.ptr (n' + 1) 0),(12,iv .i64 d),(13,.fslc S.isEmpty false 3 (List.map (dutyA d) S)),(45,.fslc tnl tfu tz (List.map sv ts)),(46,iv .i64 ts.length),(47,iv .i64 j)],H',n4⟩)
        (fun s'=>ts.length - (zY s' 47).toNat) ?_ ?_
       ·exact zX (by simp[go_sem]) (Sub.refl _) ⟨0,_,q,V,H5,by omega,by omega,by omega,by omega,by omega,by simp,ho5.out,hq5.out,rfl,hf5.out,rfl⟩
       ·rintro s' ⟨j,n4,q',V',H',p1,p2,p3,p4,p5,p6,p7,p8,p9,p10,rfl⟩
        replace p8:zB _:=p8
        replace p9:zB _:=p9
        replace p10:zB _:=p10
        by_cases hlt2:j < ts.length
        ·obtain⟨t,ht⟩:∃t,ts[j]=t:=⟨_,rfl⟩
         have hne:ts≠[]:=fun e=>by rw[e] at hlt2;simp at hlt2
         obtain⟨rfl,rfl⟩:=htn.out.resolve_left hne
         have htk:ts.take (j + 1)=ts.take j ++ [t]:=by rw[List.take_succ_eq_append_getElem hlt2,ht]
         have hVl':V'.length≤200000:=by
          rw[p6,List.length_append,List.length_map]
          have:=List.length_filter_le (fun t=>!S.any fun p=>eqB p.fst t) (ts.take j)
          rw[List.length_take] at this;omega
         have kgt:=kg.out t
         have hst:V ++ List.map (fun t=>(d,t,ByteArray.empty)) (List.filter (fun t=>!S.any fun p=>eqB p.fst t) (ts.take (j + 1)))=V' ++ if (S.any fun p=>eqB p.fst t)=true then [] else [(d,t,ByteArray.empty)]:=by
          rw[htk,List.filter_append,List.map_append,←List.append_assoc,←p6]
          cases e:S.any fun p=>eqB p.fst t <;> simp[e]
         replace hst:zB _:=hst
         replace htk:zB _:=trivial
         replace p6:zB _:=trivial
         clear hne
         rw[List.isEmpty_map] at kgt
         iterate 14 (first|(refine zD fun K hK=>?_)|(refine zA fun K hK=>?_;simp (disch:=omega) [go_sem, *,zN,zO])|(apply zB.out hK;clear hK K;try with_reducible dsimp only[zC])|(apply zB.out ht;clear ht hf Kt Kf)|(refine zI ?_)|(refine zK ?_;simp only[zC])|(refine zF fun Kt Kf ht hf=>?_;simp (disch:=omega) [go_sem, *];try (refine⟨fun hc=>?_,fun hc=>?_⟩ <;> try (exfalso;omega))))
         repeat (refine hK.out _ ?_;clear hK K;try with_reducible dsimp only[zC])
         refine Zr (t:=15) (m:=n4 + 1 + 2) (c:=[sv t]) (zL _ _ _) (by simp[go_sem]) ?_
         dsimp only
         generalize hH6:zH.upd (zH.upd (zH.upd H' _ _) _ _) (n4 + 1 + 2) none=H6
         have hx6:∀x,x≠n4 + 1 + 2→H6 x=H' x:=fun x hx=>by rw[←hH6];simp only[zG _ _ _ _ hx]
         have r7:H6 (n' + 1)=some (.cells [acV 3 q' (V'.map dyA)]):=by rw[hx6 _ (by omega)];exact p7
         have r8:zB (H6 q'=acO (V'.map dyA)):=(hx6 _ (by omega)).trans p8.out
         have r9:zB (H6 (n' + 1 + 1 + 3)=H5 (n' + 1 + 1 + 3)):=(hx6 _ (by omega)).trans p9.out
         have r10:zB (∀x,x < n'→H6 x=H3 x):=fun x hx=>(hx6 x (by omega)).trans (p10.out x hx)
         clear hH6 hx6 p7 p8 p9 p10
         cases hq:(S.any fun p=>eqB p.fst t) with
         | true=>
          rw[hq] at kgt
          have hst:=hst.out
          rw[hq,if_pos rfl,List.append_nil] at hst
          replace hst:zB _:=hst
          replace hq:zB _:=trivial
          repeat' (first|(refine zD fun K hK=>?_)|(refine zA fun K hK=>?_;simp (disch:=omega) [go_sem, *,zM])|(apply zB.out hK;clear hK K;try with_reducible dsimp only[zC])|(apply zB.out hf;clear ht hf Kt Kf)|(with_reducible refine zJ.gcall (kgt) ?_;try simp (disch:=omega) [go_sem, *])|(refine zK ?_;simp only[zC,zP])|(refine zF fun Kt Kf ht hf=>?_;simp (disch:=omega) [go_sem, *];try (refine⟨fun hc=>?_,fun hc=>?_⟩ <;> try (exfalso;omega))))
          exact zS (by simp (disch:=omega) [go_sem]) (Sub.refl _) ⟨j + 1,_,q',V',H6,by omega,by omega,by omega,by omega,by omega,hst.out.symm,r7,r8.out,r9.out,r10.out,rfl⟩ (by simp[zY,go_sem];omega)
         | false=>
          rw[hq] at kgt
          have hst:=hst.out
          rw[hq,if_neg (by simp)] at hst
          replace hst:zB _:=hst
          replace hq:zB _:=trivial
          repeat' (first|(refine zD fun K hK=>?_)|(refine zA fun K hK=>?_;simp (disch:=omega) [go_sem, *])|(apply zB.out hK;clear hK K;try with_reducible dsimp only[zC])|(apply zB.out ht;clear ht hf Kt Kf)|(with_reducible refine zJ.gcall (kgt) ?_;try simp (disch:=omega) [go_sem, *])|(refine zF fun Kt Kf ht hf=>?_;simp (disch:=omega) [go_sem, *];try (refine⟨fun hc=>?_,fun hc=>?_⟩ <;> try (exfalso;omega))))
          have hap:=ap_dy (nm:=n4 + 1 + 4 + 4 + 5) (m:=q') (V:=V') (X:=[(d,t,ByteArray.empty)]) (h:=H6) (b:=false) (c:=false) r8.out (by simp) (by simp;omega)
          simp only[List.map_cons,List.map_nil,dyA,dutyA] at hap
          have e1:acV 3 (n4 + 1 + 4 + 4 + 5) ((V' ++ [(d,t,ByteArray.empty)]).map dyA)=.slc (n4 + 1 + 4 + 4 + 5) 0 (V'.length + 1) 3:=by rw[ZQ (by simp)];simp
          rw[hap,e1]
          have s7:((H6.upd q' none).upd (n4 + 1 + 4 + 4 + 5) (acO ((V' ++ [(d,t,ByteArray.empty)]).map dyA))) (n' + 1)=some (.cells [acV 3 q' (V'.map dyA)]):=by rw[zG _ _ _ _ (by omega),zG _ _ _ _ (by omega)];exact r7
          have s8:=zL (H6.upd q' none) (n4 + 1 + 4 + 4 + 5) (acO ((V' ++ [(d,t,ByteArray.empty)]).map dyA))
          have s9:((H6.upd q' none).upd (n4 + 1 + 4 + 4 + 5) (acO ((V' ++ [(d,t,ByteArray.empty)]).map dyA))) (n' + 1 + 1 + 3)=H5 (n' + 1 + 1 + 3):=by rw[zG _ _ _ _ (by omega),zG _ _ _ _ (by omega)];exact r9.out
          have s10:∀x,x < n'→((H6.upd q' none).upd (n4 + 1 + 4 + 4 + 5) (acO ((V' ++ [(d,t,ByteArray.empty)]).map dyA))) x=H3 x:=fun x hx=>by rw[zG _ _ _ _ (by omega),zG _ _ _ _ (by omega)];exact r10.out x hx
          generalize (H6.upd q' none).upd (n4 + 1 + 4 + 4 + 5) (acO ((V' ++ [(d,t,ByteArray.empty)]).map dyA))=H7 at *
          replace hap:zB _:=trivial
          replace e1:zB _:=e1
          replace s8:zB _:=s8
          replace s9:zB _:=s9
          replace s10:zB _:=s10
          clear r7 r8 r9 r10
          simp (disch:=omega) [go_sem,s7]
          repeat' (first|(refine zA fun K hK=>?_;simp (disch:=omega) [go_sem, *,zM])|(apply zB.out hK;clear hK K;try with_reducible dsimp only[zC]))
          exact zS (by simp (disch:=omega) [go_sem]) (Sub.refl _) ⟨j + 1,_,n4 + 1 + 4 + 4 + 5,V' ++ [(d,t,ByteArray.empty)],_,by omega,by omega,by omega,by omega,by omega,hst.out.symm,by rw[zL,e1.out],by rw[zG _ _ _ _ (by omega)];exact s8.out,by rw[zG _ _ _ _ (by omega)];exact s9.out,fun x hx=>by rw[zG _ _ _ _ (by omega)];exact s10.out x hx,rfl⟩ (by simp[zY,go_sem];omega)
        ·have hjj:j=ts.length:=by omega
         subst hjj
         rw[List.take_length,←hV'.out] at p6
         have p9:=p9.out
         rw[hl5.out] at p9
         replace p6:zB _:=p6
         replace p9:zB _:=p9
         repeat' (first|(refine zD fun K hK=>?_)|(refine zA fun K hK=>?_;simp (disch:=omega) [go_sem, *])|(apply zB.out hK;clear hK K;try with_reducible dsimp only[zC])|(apply zB.out hf;clear ht hf Kt Kf)|(refine zT ?_;simp only[zC,zP,if_true,if_false,Nat.reduceEqDiff])|(refine zF fun Kt Kf ht hf=>?_;simp (disch:=omega) [go_sem, *];try (refine⟨fun hc=>?_,fun hc=>?_⟩ <;> try (exfalso;omega))))
         exact⟨_,_,_,_,_,p9.out,hI.out _ _ ⟨q',V',by simp only;omega,by omega,by simp only;omega,by omega,p6.out,by rw[zG _ _ _ _ (by omega)];exact p7,by rw[zG _ _ _ _ (by omega)];exact p8.out,zL _ _ _,fun x hx=>by rw[zG _ _ _ _ (by omega)];exact p10.out x hx⟩⟩
      ·rintro h' n2 ⟨q,V,q0,q1,q2,q3,q4,q5,q6,q7,q8⟩
       have hVe:Jl ls ts lo (hi + 1 - lo).toNat=V:=q4.symm
       have ho3:=ho2.out
       rw[hVe] at ho3
       replace q4:zB _:=trivial
       replace hVe:zB _:=trivial
       replace ho3:zB _:=ho3
       have hg:zB (∀x,x < n→h' x=h x):=fun x hx=>(q8 x (by omega)).trans (hfr.out x hx)
       replace q6:zB _:=q6
       replace q8:zB _:=q8
       show JB (n' + 1 + 1 + 3) _ _ _ _ _
       rw[JB,q7,←hLO.out]
       refine⟨by simp,?_⟩
       dsimp only[zP,zC]
       repeat (refine hK.out _ ?_;clear hK K;try with_reducible dsimp only[zC])
       repeat' (first|(refine zD fun K hK=>?_)|(refine zA fun K hK=>?_;simp (disch:=omega) [go_sem, *,zG])|(apply zB.out hK;clear hK K;try with_reducible dsimp only[zC]))
       rw[ho3.out]
       refine zf ?_
       try dsimp only[zC,zP]
       refine⟨by simp,_,(by first | rfl|(simp (disch:=omega) [go_sem,zG] <;> rfl)),?_⟩
       show ZD _ _ (AV.tup [acV 3 q (V.map dyA),iv .i64 0]) _ _
       refine ret_dy (by rw[zG _ _ _ _ (by omega)];exact q6.out) ?_
       refine zZ ⟨fun x hx=>?_,?_,rfl,by simp,by simp⟩
       ·rw[zG _ _ _ _ (by omega),zG _ _ _ _ (by omega)];exact hg.out x hx
       ·simp[below,belowL,QN]
      ·rintro h' n2 hf;exact hf.elim
 ·have hne:(Zc ls l lo hi != 0)=true:=by simpa using hc
  have ho:jT ls l ts lo hi=([],Zc ls l lo hi):=by
   have:Ji ls l ts lo hi=Zc ls l lo hi:=by unfold Ji;rw[if_pos hc]
   unfold jT;rw[this,if_pos hc]
  rw[ho,show dyF []=.fslc true true 0 [] from rfl]
  generalize Zc ls l lo hi=e at *
  generalize List.map zg ls=LL at *
  generalize List.map ZH l=OO at *
  generalize List.map sv ts=TT at *
  clear ho hc hsL hs hw hnl hnlL k2 hts htn
  repeat' (first|(refine zD fun K hK=>?_)|(refine zA fun K hK=>?_;simp (disch:=omega) [go_sem, *,zG,Tryz.ntmps16])|(apply zB.out hK;clear hK K;try with_reducible dsimp only[zC])|(apply zB.out ht;clear ht hf Kt Kf)|(with_reducible refine zJ.gcall (k1) ?_;try simp (disch:=omega) [go_sem, *])|(refine zF fun Kt Kf ht hf=>?_;simp (disch:=omega) [go_sem, *];try (refine⟨fun hc=>?_,fun hc=>?_⟩ <;> try (exfalso;omega))))
  (refine zf ?_;try dsimp only[zC,zP];refine⟨by simp,_,(by first | rfl|(simp (disch:=omega) [go_sem,zG] <;> rfl)),?_⟩;refine zZ ⟨fun k hk=>(by first | rfl|(repeat rw[zG _ _ _ _ (by omega)])),(by simp[go_sem,below,belowL]),(by simp[go_sem] <;> omega),by simp,by simp⟩)
end Go.AM
