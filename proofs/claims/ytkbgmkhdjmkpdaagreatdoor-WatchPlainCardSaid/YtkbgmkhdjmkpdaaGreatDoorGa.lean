/- The days of a span; towers that nobody watches, by the program. Conditions: as each theorem says. -/
import Derived.Test.YtkbgmkhdjmkpdaaGreatDoorDe
import Derived.Test.YtkbgmkhdjmkpdaaGreatDoorAx
namespace Du
def dys:Int→Nat→List Int
 | _,0=>[]
 | d,k + 1=>d :: dys (d + 1) k
theorem dys_snoc:∀(d:Int) (k:Nat),dys d (k + 1)=dys d k ++ [d + k]
 | d,0=>by simp[dys]
 | d,k + 1=>by
  rw[dys,dys_snoc (d + 1) k,dys]
  simp only[List.cons_append,List.cons.injEq,true_and]
  congr 2
  omega
theorem dys_to (lo d:Int) (h:lo≤d):dys lo (d + 1 - lo).toNat=dys lo (d - lo).toNat ++ [d]:=by
 have e:(d + 1 - lo).toNat=(d - lo).toNat + 1:=by omega
 rw[e,dys_snoc]
 congr 2;omega
theorem jy:∀(k:Nat) (d x:Int),x ∈ dys d k↔d≤x∧x < d + k
 | 0,d,x=>by simp[dys]
 | k + 1,d,x=>by rw[dys,List.mem_cons,jy k (d + 1) x];omega
def duR (ls:List Lin) (d:Int):List Pr:=ZC (dayD ls d)
def leB (a b:ByteArray):Bool:=!bl b a
def insS:List Pr→Pr→List Pr
 | [],p=>[p]
 | x :: r,p=>if leB x.2 p.2 then x :: insS r p else p :: x :: r
theorem leB_or (a b:ByteArray):leB a b=true∨bl b a=true:=by
 unfold leB;cases bl b a <;> simp
theorem bl_leB {a b:ByteArray} (h:bl a b=true):leB a b=true:=by
 simp only[leB,bl,Bool.not_eq_true'] at *
 exact bl_asymm _ _ h
theorem bl_tr {a b c:ByteArray} (h1:bl a b=true) (h2:bl b c=true):bl a c=true:=qW _ _ _ h1 h2
theorem leB_trans {a b c:ByteArray} (h1:leB a b=true) (h2:leB b c=true):leB a c=true:=by
 simp only[leB,Bool.not_eq_true'] at *
 cases e:bl c a with
 | false=>rfl
 | true=>
  cases e1:bl a b with
  | true=>rw[bl_tr e e1] at h2;cases h2
  | false=>
   have:=bl_eq e1 h1
   subst this
   rw[e] at h2;cases h2
abbrev Ld:=List (ByteArray × Int)
def SrtL (O:Ld):Prop:=O.Pairwise fun p q=>bl p.1 q.1=true
def ldN (O:Ld) (s:ByteArray):Int:=match O with | []=>0 | x :: r=>if eqB x.1 s then x.2 else ldN r s
end Du
namespace Go.AM
open Go.RowKit
section
variable {P : Program} {α β : Type} {kt : TypeId} {kv : α → Value} {ka : α → AV} {eq : α → α → Bool} {va : β → AV}
structure KeyE (P:Program) (kt:TypeId) {α:Type} (kv:α→Value) (ka:α→AV) (eq:α→α→Bool):Prop where
 ok:∀p,Jp P kt (ka p)=some (kv p)
 eqA:∀p q,jg P kt (ka p) (kv q)=some (eq p q)
 iff:∀p q,eq p q=true↔p=q
 of:∀p,Zk (kv p)=ka p
 same:∀p,Go.Instr.sameBits 10000 (kv p) (kv p)=true
def jY (kv:α→Value) (va:β→AV) (E:List (α × β)):List (Value × AV):=E.map fun e=>(kv e.1,va e.2)
def fndK (eq:α→α→Bool) (p:α):List (α × β)→Nat→Option (Nat × β)
 | [],_=>none
 | e :: r,i=>if eq p e.1 then some (i,e.2) else fndK eq p r (i + 1)
def valK (eq:α→α→Bool) (p:α):List (α × β)→Option β
 | []=>none
 | e :: r=>if eq p e.1 then some e.2 else valK eq p r
def putK (eq:α→α→Bool) (p:α) (x:β):List (α × β)→List (α × β)
 | []=>[(p,x)]
 | e :: r=>if eq p e.1 then (e.1,x) :: r else e :: putK eq p x r
theorem find_K (K:KeyE P kt kv ka eq) (p:α):∀(E:List (α × β)) (i:Nat),jo P kt (ka p) (jY kv va E) i=some ((fndK eq p E i).map fun x=>(x.1,va x.2))
 | [],i=>rfl
 | q :: r,i=>by
  have ih:=find_K K p r (i + 1)
  have e:jY kv va (q :: r)=(kv q.1,va q.2) :: jY kv va r:=rfl
  rw[e,jo,K.eqA,fndK]
  cases h:eq p q.1 with
  | true=>simp
  | false=>simp[ih]
theorem valK_fnd (p:α):∀(E:List (α × β)) (i:Nat),valK eq p E=(fndK eq p E i).map (·.2)
 | [],_=>rfl
 | e :: r,i=>by
  rw[valK,fndK]
  cases eq p e.1 with
  | true=>simp
  | false=>simpa using valK_fnd p r (i + 1)
theorem fndK_some (hq:∀p q,eq p q=true↔p=q) (p:α) (x:β):∀(E:List (α × β)) (i j:Nat) (v:β),fndK eq p E i=some (j,v)→i≤j∧E[j - i]? = some (p,v)∧putK eq p x E=E.set (j - i) (p,x)
 | [],_,_,_,h=>by cases h
 | e :: r,i,j,v,h=>by
  rw[fndK] at h
  cases hc:eq p e.1 with
  | true=>
   rw[hc] at h
   simp only[if_true,Option.some.injEq,Prod.mk.injEq] at h
   obtain⟨rfl,rfl⟩:=h
   refine⟨Nat.le_refl _,?_,?_⟩
   ·rw[Nat.sub_self,List.getElem?_cons_zero,(hq _ _).1 hc]
   ·rw[Nat.sub_self,List.set_cons_zero,putK,if_pos hc,(hq _ _).1 hc]
  | false=>
   rw[hc] at h
   simp only[Bool.false_eq_true,if_false] at h
   obtain⟨h1,h2,h3⟩:=fndK_some hq p x r (i + 1) j v h
   have e1:j - i=(j - (i + 1)) + 1:=by omega
   refine⟨by omega,?_,?_⟩
   ·rw[e1,List.getElem?_cons_succ];exact h2
   ·rw[e1,List.set_cons_succ,putK,hc,←h3];simp
theorem fndK_none (p:α) (x:β):∀(E:List (α × β)) (i:Nat),fndK eq p E i=none→putK eq p x E=E ++ [(p,x)]∧∀e ∈ E,eq p e.1=false
 | [],_,_=>⟨rfl,fun e h=>by simp at h⟩
 | e :: r,i,h=>by
  rw[fndK] at h
  cases hc:eq p e.1 with
  | true=>rw[hc] at h;cases h
  | false=>
   rw[hc] at h
   simp only[Bool.false_eq_true,if_false] at h
   obtain⟨h1,h2⟩:=fndK_none p x r (i + 1) h
   refine⟨by rw[putK,hc,h1];simp,fun q hm=>?_⟩
   rcases List.mem_cons.1 hm with rfl | hm
   ·exact hc
   ·exact h2 q hm
theorem valK_put (hq:∀p q,eq p q=true↔p=q) (p q:α) (x:β):∀E:List (α × β),valK eq q (putK eq p x E)=if eq q p then some x else valK eq q E
 | []=>rfl
 | e :: r=>by
  have ih:=valK_put hq p q x r
  rw[putK]
  cases hc:eq p e.1 with
  | true=>
   have:=(hq _ _).1 hc
   subst this
   simp only[if_true,valK]
   cases eq q e.1 <;> simp
  | false=>
   simp only[Bool.false_eq_true,if_false,valK,ih]
   cases h1:eq q e.1 with
   | false=>rfl
   | true=>
    have e1:=(hq _ _).1 h1
    cases h2:eq q p with
    | false=>rfl
    | true=>
     have e2:=(hq _ _).1 h2
     rw[←e2,e1,(hq e.1 e.1).2 rfl] at hc;cases hc
theorem qA (hq:∀p q,eq p q=true↔p=q) (p q:α) (x:β):∀E:List (α × β),q ∈ (putK eq p x E).map (·.1)↔q=p∨q ∈ E.map (·.1)
 | []=>by simp[putK]
 | e :: r=>by
  have ih:=qA hq p q x r
  rw[putK]
  cases hc:eq p e.1 with
  | true=>
   have:=(hq _ _).1 hc
   subst this
   simp
  | false=>
   simp only[Bool.false_eq_true,if_false,List.map_cons,List.mem_cons,ih]
   exact⟨fun h=>h.elim (fun h=>.inr (.inl h)) fun h=>h.elim .inl fun h=>.inr (.inr h),fun h=>h.elim (fun h=>.inr (.inl h)) fun h=>h.elim .inl fun h=>.inr (.inr h)⟩
theorem nodup_put (hq:∀p q,eq p q=true↔p=q) (p:α) (x:β):∀E:List (α × β),(E.map (·.1)).Nodup→((putK eq p x E).map (·.1)).Nodup
 | [],_=>by simp[putK]
 | e :: r,h=>by
  rw[putK]
  cases hc:eq p e.1 with
  | true=>simpa using h
  | false=>
   simp only[List.map_cons,List.nodup_cons] at h
   simp only[Bool.false_eq_true,if_false,List.map_cons,List.nodup_cons]
   refine⟨fun hm=>?_,nodup_put hq p x r h.2⟩
   rcases (qA hq p e.1 x r).1 hm with rfl | hm
   ·rw[(hq _ _).2 rfl] at hc;cases hc
   ·exact h.1 hm
structure MapK (kv:α→Value) (va:β→AV) (h:zI) (m:Nat) (E:List (α × β)) (clk:Nat) (bs:List Nat):Prop where
 at_:h m=some (.map clk bs (jY kv va E))
 len:bs.length=E.length
 nd:bs.Nodup
 lt:∀b ∈ bs,b < clk
theorem entK_get (E:List (α × β)) (j:Nat):(jY kv va E)[j]? = (E[j]?).map fun e=>(kv e.1,va e.2):=by simp[jY]
theorem look_K (K:KeyE P kt kv ka eq) {t et:TypeId} (ht:Z7 P t=some (kt,et)) {z:β} (hz:zo P et=some (va z)) {h:zI} {m:Nat} {E:List (α × β)} {clk:Nat} {bs:List Nat} (M:MapK kv va h m E clk bs) (p:α) (ok:Bool) :
  qF P t (.map m) (ka p) ok h=some (pairF ok (va ((valK eq p E).getD z),(valK eq p E).isSome)):=by
 have hf:=find_K K (va:=va) p E 0
 unfold qF
 rw[ht]
 simp only[K.ok,M.at_,hf]
 rw[valK_fnd (eq:=eq) p E 0]
 cases fndK eq p E 0 with
 | none=>simp[resF,hz]
 | some y=>simp[resF]
def Qf (kv:α→Value) (va:β→AV) (h:zI) (m clk:Nat) (Z:List (Nat × α × β)):Prop:=h m=some (.map clk (Z.map (·.1)) (jY kv va (Z.map (·.2))))
theorem MapK.z {h:zI} {m:Nat} {E:List (α × β)} {clk:Nat} {bs:List Nat} (M:MapK kv va h m E clk bs):∃Z:List (Nat × α × β),Z.map (·.2)=E∧Qf kv va h m clk Z∧(Z.map (·.1)).Nodup∧∀b ∈ Z.map (·.1),b < clk:=by
 have e1:(bs.zip E).map (·.1)=bs:=List.map_fst_zip (by rw[M.len];exact Nat.le_refl _)
 have e2:(bs.zip E).map (·.2)=E:=List.map_snd_zip (by rw[M.len];exact Nat.le_refl _)
 exact⟨bs.zip E,e2,by unfold Qf;rw[e1,e2];exact M.at_,by rw[e1];exact M.nd,by rw[e1];exact M.lt⟩
theorem qg {γ:Type}:∀(L:List (Nat × γ)) (j b:Nat) (p:γ),(L.map (·.1)).Nodup→L[j]? = some (b,p)→(L.map (·.1)).findIdx (·== b)=j
 | [],_,_,_,_,h=>by simp at h
 | x :: r,0,b,p,hn,h=>by
  simp only[List.getElem?_cons_zero,Option.some.injEq] at h
  subst h;simp[List.findIdx_cons]
 | x :: r,j + 1,b,p,hn,h=>by
  simp only[List.getElem?_cons_succ] at h
  simp only[List.map_cons,List.nodup_cons] at hn
  have hx:(x.1 == b)=false:=by
   rw[beq_eq_false_iff_ne]
   exact fun e=>hn.1 (by rw[e];exact List.mem_map.2 ⟨(b,p),List.mem_of_getElem? h,rfl⟩)
  simp only[List.map_cons,List.findIdx_cons,hx,cond_false,qg r j b p hn.2 h]
theorem entry_K (K:KeyE P kt kv ka eq) {h:zI} {it m clk b j:Nat} {p:α} {x:β} {since:Nat} {seen:List Nat} {Z:List (Nat × α × β)} (hi:h it=some (.iter m since clk (seen ++ [b]))) (hm:Qf kv va h m clk Z) (hn:(Z.map (·.1)).Nodup) (hj:Z[j]? = some (b,p,x)):Q0 (.ptr it 0) h=some (.tup [ka p,va x]):=by
 have e1:=qg Z j b (p,x) hn hj
 unfold Qf at hm
 simp only[Q0,hi,hm,List.getLast?_append,List.getLast?_singleton,Option.some_or,if_true,e1,entK_get,List.getElem?_map,hj,Option.map_some,K.of]
theorem range_K {t kt et:TypeId} (ht:Z7 P t=some (kt,et)) {h:zI} {m nm clk:Nat} {bs:List Nat} {es:List (Value × AV)} (hm:h m=some (.map clk bs es)):qL P nm t (.map m) h=some (.ptr nm 0,h.upd nm (some (.iter m clk clk []))):=by
 simp only[qL,ht,hm]
structure Went {γ:Type} (Z V:List (Nat × γ)):Prop where
 nd:(V.map (·.1)).Nodup
 sub:∀v ∈ V,v ∈ Z
theorem Went.nil {γ:Type} (Z:List (Nat × γ)):Went Z []:=⟨List.nodup_nil,fun v h=>by simp at h⟩
theorem Went.snoc {γ:Type} {Z V:List (Nat × γ)} (W:Went Z V) {b:Nat} {p:γ} (hb:b ∉ V.map (·.1)) (hz:(b,p) ∈ Z):Went Z (V ++ [(b,p)]):=by
 refine⟨?_,fun v hv=>?_⟩
 ·rw[List.map_append,List.nodup_append]
  refine⟨W.nd,by simp,fun x hx y hy=>?_⟩
  simp only[List.map_cons,List.map_nil,List.mem_singleton] at hy
  rintro rfl;rw[hy] at hx;exact hb hx
 ·rcases List.mem_append.1 hv with hv | hv
  ·exact W.sub v hv
  ·rw[List.mem_singleton] at hv;rw[hv];exact hz
theorem nodup_of_map {γ δ:Type} (f:γ→δ) {L:List γ} (h:(L.map f).Nodup):L.Nodup:=
 (List.pairwise_map.1 h).imp fun h e=>h (congrArg f e)
theorem len_of_nodup:∀(V Z:List Nat),V.Nodup→(∀v ∈ V,v ∈ Z)→V.length≤Z.length
 | [],_,_,_=>Nat.zero_le _
 | v :: r,Z,hn,hs=>by
  rw[List.nodup_cons] at hn
  have h0:=hs v (by simp)
  have:=len_of_nodup r (Z.erase v) hn.2 fun x hx=>(List.mem_erase_of_ne fun e=>hn.1 (by rw[←e];exact hx)).2 (hs x (by simp[hx]))
  rw[List.length_erase_of_mem h0] at this
  have:=List.length_pos_of_mem h0
  simp only[List.length_cons];omega
theorem Went.nodup {γ:Type} {Z V:List (Nat × γ)} (W:Went Z V):V.Nodup:=nodup_of_map _ W.nd
theorem Went.len {γ:Type} {Z V:List (Nat × γ)} (W:Went Z V):V.length≤Z.length:=by
 have:=len_of_nodup (V.map (·.1)) (Z.map (·.1)) W.nd fun x hx=>by
  obtain⟨v,hv,rfl⟩:=List.mem_map.1 hx
  exact List.mem_map.2 ⟨v,W.sub v hv,rfl⟩
 simpa using this
theorem Went.lt {γ:Type} {Z V:List (Nat × γ)} (W:Went Z V) {b:Nat} {p:γ} (hb:b ∉ V.map (·.1)) (hz:(b,p) ∈ Z):V.length < Z.length:=by
 have:=(W.snoc hb hz).len
 simp at this;omega
theorem Went.perm {γ:Type} {Z V:List (Nat × γ)} (W:Went Z V) (hz:(Z.map (·.1)).Nodup) (h:∀b ∈ Z.map (·.1),b ∈ V.map (·.1)):V.Perm Z:=by
 refine (List.perm_ext_iff_of_nodup W.nodup (nodup_of_map _ hz)).2 fun v=>⟨W.sub v,fun hv=>?_⟩
 obtain⟨u,hu,e⟩:=List.mem_map.1 (h v.1 (List.mem_map.2 ⟨v,hv,rfl⟩))
 have hu2:=W.sub u hu
 have:u=v:=by
  obtain⟨i,hi,e1⟩:=List.mem_iff_getElem.1 hu2
  obtain⟨j,hj,e2⟩:=List.mem_iff_getElem.1 hv
  have hij:i=j:=by
   refine Decidable.byContradiction fun hne=>?_
   have:=(List.nodup_iff_pairwise_ne.1 hz)
   rw[List.pairwise_map,List.pairwise_iff_getElem] at this
   rcases Nat.lt_or_gt_of_ne hne with hl | hl
   ·exact this i j hi hj hl (by rw[e1,e2];exact e)
   ·exact this j i hj hi hl (by rw[e1,e2];exact e.symm)
  subst hij;rw[←e1,←e2]
 rw[←this];exact hu
end
end Go.AM
namespace Go.AM
open Go.Proofs Cw Du
set_option maxRecDepth 10000
set_option maxHeartbeats 4000000
@[go_sem] theorem lay45:lay Tryz.prog 45=some (2,true):=by kernel_rfl
@[go_sem] theorem szOf45:zu Tryz.prog 45=some 2:=by kernel_rfl
@[go_sem] theorem fldOf45_0:ZA Tryz.prog 45 0=some (0,1):=by kernel_rfl
@[go_sem] theorem fldOf45_1:ZA Tryz.prog 45 1=some (1,1):=by kernel_rfl
def jN (ls:List Lin) (l:List Ordr) (lo hi:Int):Int:=if jj ls l≠0 then jj ls l else if lo < 0∨lo > hi∨hi > 400 then 1 else 0
theorem checked_spec (nlL fuL:Bool) (sL:Nat) (ls:List Lin) (hnlL:ls=[]∨nlL=false∧sL=8) (hsL:smL ls) (hlL:ls.length≤1000000) (nl fu:Bool) (s:Nat) (l:List Ordr) (hnl:l=[]∨nl=false∧s=7) (hw:wfO l) (hs:smO l) (hl:l.length≤1000000) (lo hi:Int) :
  zL Tryz.prog 49 [.agg [.fslc nlL fuL sL (ls.map zT),.fslc nl fu s (l.map ZB)],.agg [iv .i64 lo,iv .i64 hi]] (iv .i64 (jN ls l lo hi)):=by
 intro h n
 have k1:=check_spec nlL fuL sL ls hnlL hsL hlL nl fu s l hnl hw hs hl
 refine zS.pure (zS.entry (by kernel_rfl) fun hb _=>zX Tryz.func49 rfl (by kernel_rfl) (by simp[Tryz.ntmps49]) ?_)
 obtain⟨T,hT⟩:∃T,zC (T=jN ls l lo hi):=⟨_,rfl⟩
 rw[←hT.out]
 have hT1:=hT.out
 unfold jN at hT1
 replace hT:zC _:=trivial
 generalize jj ls l=e at *
 generalize List.map zT ls=LL at *
 generalize List.map ZB l=OO at *
 clear hsL hs hw hnl hnlL hlL hl
 by_cases hc:e=0
 ·subst hc
  rw[if_neg (by simp)] at hT1
  by_cases c1:lo < 0
  ·rw[if_pos (.inl c1)] at hT1
   subst hT1
   repeat' (first|(refine zF fun K hK=>?_)|(refine zB fun K hK=>?_;simp (disch:=omega) [go_sem, *,zG,Tryz.ntmps49])|(apply zC.out hK;clear hK K;try with_reducible dsimp only[zD])|(apply zC.out ht;clear ht hf Kt Kf)|(apply zC.out hf;clear ht hf Kt Kf)|(with_reducible refine zL.gcall (k1) ?_;try simp (disch:=omega) [go_sem, *])|(refine zK ?_;simp only[zD])|(refine zH fun Kt Kf ht hf=>?_;simp (disch:=omega) [go_sem, *];try (refine⟨fun hc=>?_,fun hc=>?_⟩ <;> try (exfalso;omega))))
   exact zR
  ·by_cases c2:lo > hi
   ·rw[if_pos (.inr (.inl c2))] at hT1
    subst hT1
    repeat' (first|(refine zF fun K hK=>?_)|(refine zB fun K hK=>?_;simp (disch:=omega) [go_sem, *,zG,Tryz.ntmps49])|(apply zC.out hK;clear hK K;try with_reducible dsimp only[zD])|(apply zC.out ht;clear ht hf Kt Kf)|(apply zC.out hf;clear ht hf Kt Kf)|(with_reducible refine zL.gcall (k1) ?_;try simp (disch:=omega) [go_sem, *])|(refine zK ?_;simp only[zD])|(refine zH fun Kt Kf ht hf=>?_;simp (disch:=omega) [go_sem, *];try (refine⟨fun hc=>?_,fun hc=>?_⟩ <;> try (exfalso;omega))))
    exact zR
   ·by_cases c3:hi > 400
    ·rw[if_pos (.inr (.inr c3))] at hT1
     subst hT1
     repeat' (first|(refine zF fun K hK=>?_)|(refine zB fun K hK=>?_;simp (disch:=omega) [go_sem, *,zG,Tryz.ntmps49])|(apply zC.out hK;clear hK K;try with_reducible dsimp only[zD])|(apply zC.out ht;clear ht hf Kt Kf)|(apply zC.out hf;clear ht hf Kt Kf)|(with_reducible refine zL.gcall (k1) ?_;try simp (disch:=omega) [go_sem, *])|(refine zK ?_;simp only[zD])|(refine zH fun Kt Kf ht hf=>?_;simp (disch:=omega) [go_sem, *];try (refine⟨fun hc=>?_,fun hc=>?_⟩ <;> try (exfalso;omega))))
     exact zR
    ·rw[if_neg (by omega)] at hT1
     subst hT1
     repeat' (first|(refine zF fun K hK=>?_)|(refine zB fun K hK=>?_;simp (disch:=omega) [go_sem, *,zG,Tryz.ntmps49])|(apply zC.out hK;clear hK K;try with_reducible dsimp only[zD])|(apply zC.out hf;clear ht hf Kt Kf)|(with_reducible refine zL.gcall (k1) ?_;try simp (disch:=omega) [go_sem, *])|(refine zK ?_;simp only[zD])|(refine zH fun Kt Kf ht hf=>?_;simp (disch:=omega) [go_sem, *];try (refine⟨fun hc=>?_,fun hc=>?_⟩ <;> try (exfalso;omega))))
     exact zR
 ·rw[if_pos hc] at hT1
  have hne:(e != 0)=true:=by simpa using hc
  clear hc
  subst hT1
  repeat' (first|(refine zF fun K hK=>?_)|(refine zB fun K hK=>?_;simp (disch:=omega) [go_sem, *,zG,Tryz.ntmps49])|(apply zC.out hK;clear hK K;try with_reducible dsimp only[zD])|(apply zC.out ht;clear ht hf Kt Kf)|(with_reducible refine zL.gcall (k1) ?_;try simp (disch:=omega) [go_sem, *])|(refine zH fun Kt Kf ht hf=>?_;simp (disch:=omega) [go_sem, *];try (refine⟨fun hc=>?_,fun hc=>?_⟩ <;> try (exfalso;omega))))
  exact zR
def eachV (lo hi:Int) (W:List AV):AV:=.func (.func 113) [] [.fptr [iv .i64 lo,iv .i64 hi],.fptr W]
theorem each_spec (a0 a1:Bool) (a2:Nat) (A:List AV) (b0 b1:Bool) (b2:Nat) (B:List AV) (lo hi:Int):zL Tryz.prog 53 [.agg [.fslc a0 a1 a2 A,.fslc b0 b1 b2 B],.agg [iv .i64 lo,iv .i64 hi]] (eachV lo hi [.fslc a0 a1 a2 A,.fslc b0 b1 b2 B]):=by
 intro h n
 refine zS.pure (zS.entry (by kernel_rfl) fun hb hbel=>zX Tryz.func53 rfl (by kernel_rfl) (by simp[Tryz.ntmps53]) ?_)
 refine zF fun K hK=>?_
 refine zB fun K2 hK2=>?_
 simp (disch:=omega) [go_sem,Tryz.ntmps53]
 refine hK2.out _ ?_
 clear hK2 K2
 dsimp only[zD]
 refine hK.out _ ?_
 clear hK K
 refine Z1 (t:=2) (m:=n) (c:=[.fslc a0 a1 a2 A,.fslc b0 b1 b2 B]) (by simp (disch:=omega) only[zG,zM]) (by simp[go_sem]) ?_
 refine Z1 (t:=3) (m:=n + 1) (c:=[iv .i64 lo,iv .i64 hi]) (by simp (disch:=omega) only[zG,zM]) (by simp[go_sem]) ?_
 repeat' (first|(refine zF fun K hK=>?_)|(refine zB fun K hK=>?_;simp (disch:=omega) [go_sem, *])|(apply zC.out hK;clear hK K;try with_reducible dsimp only[zD]))
 refine zg ?_
 try dsimp only[zD,zO]
 refine⟨by simp,_,(by first | rfl|(simp (disch:=omega) [go_sem,zG] <;> rfl)),?_⟩
 show ZI _ _ (eachV lo hi [.fslc a0 a1 a2 A,.fslc b0 b1 b2 B]) _ _
 refine zc ⟨fun x hx=>?_,?_,rfl,rfl,rfl⟩
 ·simp (disch:=omega) only[zG]
 ·simp[below,belowL] at hbel
  simp[eachV,below,belowL,hbel]
theorem each_iter (nl fu:Bool) (s:Nat) (ls:List Lin) (hnl:ls=[]∨nl=false∧s=8) (hl:ls.length≤1000000) (hk:∀l ∈ ls,lnOk l) (onl ofu:Bool) (os:Nat) (O:List AV) (lo hi:Int) (h0:0≤lo) (h1:lo≤hi) (h4:hi≤400) (m:Nat)
  (I:Int→zI→Nat→Prop) (J:zI→Nat→Prop) (h:zI) (n:Nat) (K:AV→zI→Nat→Prop)
  (hI0:I lo h n) (hIn:∀d h' n',I d h' n'→n≤n') (mono:∀d h' a b,I d h' a→a≤b→I d h' b)
  (step:∀d h' n' h2 mo n2,lo≤d→d≤hi→I d h' n'→n'≤mo→mo < n2→(∀x,x < n'→h2 x=h' x)→h2 mo=acO ((ZC (dayD ls d)).map (zY d))→YieldsA Tryz.prog m [iv .i64 d,acV 3 mo ((ZC (dayD ls d)).map (zY d))] (I (d + 1)) J h2 n2)
  (hI:∀h' n',I (hi + 1) h' n'→K (.tup []) h' n') (hJ:∀h' n',J h' n'→K (.tup []) h' n') :
  zS Tryz.prog 113 [.yld m,.fptr [iv .i64 lo,iv .i64 hi],.fptr [.fslc nl fu s (ls.map zT),.fslc onl ofu os O]] h n K:=by
 refine zS.entry (by kernel_rfl) fun hb _=>zX Tryz.func113 rfl (by kernel_rfl) (by simp[Tryz.ntmps113]) ?_
 have kf:=fun d (h0:0≤d) (h4:d≤400) H N=>found_spec nl fu s ls hnl hl hk onl ofu os O d h0 h4 H N
 generalize List.map zT ls=LL at *
 replace kf:zC _:=kf
 replace hI0:zC _:=hI0
 replace hIn:zC _:=hIn
 replace mono:zC _:=mono
 replace step:zC _:=step
 replace hI:zC _:=hI
 replace hJ:zC _:=hJ
 replace hk:zC _:=hk
 replace hnl:zC _:=hnl
 repeat' (first|(refine zF fun K hK=>?_)|(refine zB fun K hK=>?_;simp (disch:=omega) [go_sem, *,Tryz.ntmps113])|(apply zC.out hK;clear hK K;try with_reducible dsimp only[zD])|(refine zJ ?_))
 refine za (fun s'=>∃(d:Int) (n':Nat) (h':zI),lo≤d∧d≤hi + 1∧I d h' n'∧s'=⟨20,[(0,.yld m),(1,.fptr [iv .i64 lo,iv .i64 hi]),(2,.fptr [.fslc nl fu s LL,.fslc onl ofu os O]),(4,iv .i64 d)],h',n'⟩)
   (fun s'=>(hi + 1 - zf s' 4).toNat) ?_ ?_
 ·refine zb (by simp[go_sem]) (Sub.refl _) ⟨lo,_,h,Int.le_refl _,by omega,mono.out _ _ _ _ hI0.out ?_,rfl⟩
  omega
 ·rintro s' ⟨d,n',h',hd1,hd2,hId,rfl⟩
  replace hId:zC _:=hId
  by_cases hlt:d≤hi
  ·have kfd:=kf.out d (by omega) (by omega)
   replace kfd:zC _:=kfd
   repeat' (first|(refine zF fun K hK=>?_)|(refine zB fun K hK=>?_;simp (disch:=omega) [go_sem, *])|(apply zC.out hK;clear hK K;try with_reducible dsimp only[zD])|(apply zC.out ht;clear ht hf Kt Kf)|(refine zJ ?_)|(refine zK ?_;simp only[zD])|(refine zH fun Kt Kf ht hf=>?_;simp (disch:=omega) [go_sem, *];try (refine⟨fun hc=>?_,fun hc=>?_⟩ <;> try (exfalso;omega))))
   refine .inl ((kfd.out _ _).mono fun r h2 n2 hp=>?_)
   obtain⟨mo,hm1,hm2,rfl,hm3,hx2⟩:=hp
   have hst:=fun b hb=>step.out d h' b h2 mo n2 hd1 hlt (mono.out _ _ n' b hId.out hb)
   replace hst:zC _:=hst
   clear kfd
   simp (disch:=omega) [go_sem]
   refine hst.out (n' + 4 + 7) (by omega) hm1 hm2 hx2 hm3 _ (fun h3 n3 hI3=>?_) (fun h3 n3 hJ3=>?_)
   ·clear hm3 hx2
    replace hI3:zC _:=hI3
    simp (disch:=omega) [go_sem]
    repeat' (first|(refine zB fun K hK=>?_;simp (disch:=omega) [go_sem, *,zN])|(apply zC.out hK;clear hK K;try with_reducible dsimp only[zD])|(apply zC.out hf;clear ht hf Kt Kf)|(refine zK ?_;simp only[zD,zO])|(refine zH fun Kt Kf ht hf=>?_;simp (disch:=omega) [go_sem, *];try (refine⟨fun hc=>?_,fun hc=>?_⟩ <;> try (exfalso;omega))))
    refine zV (by simp (disch:=omega) [go_sem]) (Sub.refl _) ⟨d + 1,_,h3,by omega,by omega,mono.out _ _ _ _ hI3.out ?_,rfl⟩ (by simp[zf,go_sem];omega)
    omega
   ·clear hm3 hx2
    replace hJ3:zC _:=hJ3
    simp (disch:=omega) [go_sem]
    repeat' (first|(apply zC.out hK;clear hK K;try with_reducible dsimp only[zD])|(apply zC.out ht;clear ht hf Kt Kf)|(refine zH fun Kt Kf ht hf=>?_;simp (disch:=omega) [go_sem, *];try (refine⟨fun hc=>?_,fun hc=>?_⟩ <;> try (exfalso;omega))))
    refine zg ?_
    try dsimp only[zD,zO]
    refine⟨by simp,_,rfl,?_⟩
    exact zc (hJ.out _ _ hJ3.out)
  ·have hdd:d=hi + 1:=by omega
   subst hdd
   repeat' (first|(refine zF fun K hK=>?_)|(refine zB fun K hK=>?_;simp (disch:=omega) [go_sem, *])|(apply zC.out hK;clear hK K;try with_reducible dsimp only[zD])|(apply zC.out hf;clear ht hf Kt Kf)|(refine zU ?_;simp only[zD,zO,if_true])|(refine zH fun Kt Kf ht hf=>?_;simp (disch:=omega) [go_sem, *];try (refine⟨fun hc=>?_,fun hc=>?_⟩ <;> try (exfalso;omega))))
   refine⟨by simp,_,rfl,?_⟩
   exact zc (hI.out _ _ (mono.out _ _ _ _ hId.out (by omega)))
end Go.AM
namespace Go.AM
open Go.Proofs Cw Du
set_option maxRecDepth 10000
set_option maxHeartbeats 4000000
end Go.AM
namespace Go.AM
open Go.Proofs Cw Du Go.RowKit
set_option maxRecDepth 10000
set_option maxHeartbeats 4000000
theorem QY {ls:List Lin} {l:List Ordr} {lo hi:Int} (h:jN ls l lo hi=0):jj ls l=0∧0≤lo∧lo≤hi∧hi≤400:=by
 unfold jN at h
 split at h
 ·rename_i h1;exact absurd h h1
 ·rename_i h1
  split at h
  ·cases h
  ·exact⟨by simpa using h1,by omega,by omega,by omega⟩
theorem jz (ls:List Lin) (d:Int):(duR ls d).length≤ls.length:=by
 unfold duR;rw[(Za _).length_eq];exact dayD_len ls d
end Go.AM
