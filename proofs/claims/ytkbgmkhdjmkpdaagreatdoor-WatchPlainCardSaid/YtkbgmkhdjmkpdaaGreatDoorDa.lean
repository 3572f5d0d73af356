/- Duties: a line for a day, maps of pairs, what each kind of line does. Conditions: as each theorem says. -/
import Derived.Laws.Strings
import Derived.Test.YtkbgmkhdjmkpdaaGreatDoorCb
import Derived.Test.YtkbgmkhdjmkpdaaGreatDoorEa
namespace Du
open Go
abbrev Pr:=ByteArray × ByteArray
theorem jv:∀x:List UInt8,Op.bytesLess x x=false
 | []=>rfl
 | a :: x=>by simp[Op.bytesLess,jv x]
theorem u8 (a b:UInt8):(a < b)↔a.toNat < b.toNat:=UInt8.lt_iff_toNat_lt
theorem u8e (a b:UInt8):a=b↔a.toNat=b.toNat:=UInt8.toNat_inj.symm
theorem qW:∀x y z:List UInt8,Op.bytesLess x y=true→Op.bytesLess y z=true→Op.bytesLess x z=true
 | _,_,[],_,h=>by simp[Op.bytesLess] at h
 | _,[],_ :: _,h,_=>by simp[Op.bytesLess] at h
 | [],_ :: _,_ :: _,_,_=>rfl
 | a :: x,b :: y,c :: z,h1,h2=>by
  have ih:=qW x y z
  simp only[Op.bytesLess,Bool.or_eq_true,Bool.and_eq_true,decide_eq_true_eq,beq_iff_eq,u8,u8e] at h1 h2 ⊢
  rcases h1 with h1 | ⟨h1,h3⟩
  ·rcases h2 with h2 | ⟨h2,_⟩
   ·left;omega
   ·left;omega
  ·rcases h2 with h2 | ⟨h2,h4⟩
   ·left;omega
   ·right;exact⟨by omega,ih h3 h4⟩
theorem bl_tri:∀x y:List UInt8,Op.bytesLess x y=false→Op.bytesLess y x=false→x=y
 | [],[],_,_=>rfl
 | [],_ :: _,h,_=>by simp[Op.bytesLess] at h
 | _ :: _,[],_,h=>by simp[Op.bytesLess] at h
 | a :: x,b :: y,h1,h2=>by
  have ih:=bl_tri x y
  simp only[Op.bytesLess,Bool.or_eq_false_iff,Bool.and_eq_false_iff,decide_eq_false_iff_not,beq_eq_false_iff_ne,u8,ne_eq,u8e] at h1 h2
  have e:a.toNat=b.toNat:=by omega
  have h3:=h1.2.resolve_left (by omega)
  have h4:=h2.2.resolve_left (by omega)
  rw[(u8e a b).2 e,ih h3 h4]
def bl (a b:ByteArray):Bool:=Op.bytesLess a.toList b.toList
theorem toList_inj {a b:ByteArray} (h:a.toList=b.toList):a=b:=by
 rw[ByteArray.toList_eq,ByteArray.toList_eq] at h
 exact ByteArray.ext (Array.toList_inj.1 h)
def eqB (a b:ByteArray):Bool:=a.toList == b.toList
theorem ZM (a b:ByteArray):eqB a b=true↔a=b:=by
 rw[eqB,beq_iff_eq];exact⟨toList_inj,fun h=>by rw[h]⟩
theorem bl_eq {a b:ByteArray} (h1:bl a b=false) (h2:bl b a=false):a=b:=toList_inj (bl_tri _ _ h1 h2)
def jp (a b:ByteArray):Int:=if bl a b then -1 else if bl b a then 1 else 0
theorem cmpS_lt (a b:ByteArray):jp a b < 0↔bl a b=true:=by
 unfold jp;split
 ·rename_i h;simp[h]
 ·rename_i h;split <;> simp[h]
theorem cmpS_zero (a b:ByteArray):jp a b=0↔a=b:=by
 unfold jp;split
 ·rename_i h
  constructor
  ·intro e;omega
  ·intro e;subst e;rw[bl,jv] at h;cases h
 ·rename_i h;split
  ·rename_i h2
   constructor
   ·intro e;omega
   ·intro e;subst e;rw[bl,jv] at h2;cases h2
  ·rename_i h2
   exact⟨fun _=>bl_eq (by simpa using h) (by simpa using h2),fun _=>rfl⟩
def cfP (p q:Pr):Int:=if jp p.1 q.1≠0 then jp p.1 q.1 else jp p.2 q.2
def ltP (p q:Pr):Bool:=bl p.1 q.1 || (eqB p.1 q.1 && bl p.2 q.2)
theorem ltP_cf (p q:Pr):decide (cfP p q < 0)=ltP p q:=by
 rw[Bool.eq_iff_iff,decide_eq_true_eq,ltP,Bool.or_eq_true,Bool.and_eq_true,ZM,cfP]
 split
 ·rename_i h
  rw[cmpS_lt]
  rw[ne_eq,cmpS_zero] at h
  exact⟨.inl,fun h'=>h'.elim id fun e=>absurd e.1 h⟩
 ·rename_i h
  have h':p.1=q.1:=(cmpS_zero _ _).1 (by simpa using h)
  rw[cmpS_lt]
  constructor
  ·exact fun e=>.inr ⟨h',e⟩
  ·rintro (e | e)
   ·rw[h',bl,jv] at e;cases e
   ·exact e.2
theorem jq (p:Pr):ltP p p=false:=by simp[ltP,bl,jv]
theorem QL {p q r:Pr} (h1:ltP p q=true) (h2:ltP q r=true):ltP p r=true:=by
 simp only[ltP,Bool.or_eq_true,Bool.and_eq_true,ZM] at h1 h2 ⊢
 rcases h1 with h1 | ⟨e1,h1⟩
 ·rcases h2 with h2 | ⟨e2,h2⟩
  ·exact .inl (qW _ _ _ h1 h2)
  ·rw[←e2];exact .inl h1
 ·rcases h2 with h2 | ⟨e2,h2⟩
  ·rw[e1];exact .inl h2
  ·exact .inr ⟨e1.trans e2,qW _ _ _ h1 h2⟩
theorem ltP_tri {p q:Pr} (h1:ltP p q=false) (h2:ltP q p=false):p=q:=by
 simp only[ltP,Bool.or_eq_false_iff,Bool.and_eq_false_iff] at h1 h2
 have e:=bl_eq h1.1 h2.1
 have n1:eqB p.1 q.1=true:=(ZM _ _).2 e
 have n2:eqB q.1 p.1=true:=(ZM _ _).2 e.symm
 rw[n1] at h1;rw[n2] at h2
 have f:=bl_eq (h1.2.resolve_left (by simp)) (h2.2.resolve_left (by simp))
 exact Prod.ext e f
theorem ltP_asymm {p q:Pr} (h:ltP p q=true):ltP q p=false:=by
 cases e:ltP q p with
 | false=>rfl
 | true=>have:=QL h e;rw[jq] at this;cases this
theorem ltP_ntrans {p q r:Pr} (h1:ltP p q=false) (h2:ltP q r=false):ltP p r=false:=by
 cases e:ltP p r with
 | false=>rfl
 | true=>
  exfalso
  cases e2:ltP r q with
  | true=>have:=QL e e2;rw[h1] at this;cases this
  | false=>
   have:=ltP_tri h2 e2
   subst this;rw[h1] at e;cases e
end Du
namespace Du
structure Lin where
 kind:Int
 tower:ByteArray
 person:ByteArray
 other:ByteArray
 fr:Int
 to:Int
 ev:Int
 nl:Bool
 fu:Bool
 s:Nat
 exc:List Int
def onL (l:Lin) (d:Int):Bool:=decide (l.fr≤d) && decide (d≤l.to) && decide ((d - l.fr) % l.ev=0) && !decide (d ∈ l.exc)
def swP (a b:ByteArray) (p:Pr):Pr:=(p.1,if eqB p.2 a then b else if eqB p.2 b then a else p.2)
def Zh (D:List Pr) (p:Pr):Bool:=D.any fun q=>eqB p.1 q.1 && eqB p.2 q.2
theorem Zi (D:List Pr) (p:Pr):Zh D p=true↔p ∈ D:=by
 simp only[Zh,List.any_eq_true,Bool.and_eq_true,ZM]
 constructor
 ·rintro⟨q,h,e1,e2⟩;rw[show p=q from Prod.ext e1 e2];exact h
 ·exact fun h=>⟨p,h,rfl,rfl⟩
def Zy (l:Lin) (D:List Pr):List Pr:=
 if l.kind=1 then (if Zh D (l.tower,l.person) then D else D ++ [(l.tower,l.person)])
 else if l.kind=2 then D.filter fun p=>!eqB p.2 l.person
 else if l.kind=3 then D.filter fun p=>!eqB p.1 l.tower
 else D.map (swP l.person l.other)
def JQ (d:Int) (D:List Pr) (l:Lin):List Pr:=if onL l d then Zy l D else D
def dayD (ls:List Lin) (d:Int):List Pr:=ls.foldl (JQ d) []
theorem swP_inj (a b:ByteArray) (h:a≠b) (p q:Pr) (e:swP a b p=swP a b q):p=q:=by
 obtain⟨p1,p2⟩:=p
 obtain⟨q1,q2⟩:=q
 simp only[swP,Prod.mk.injEq,ZM] at e
 obtain⟨rfl,e⟩:=e
 congr 1
 by_cases h1:p2=a
 ·by_cases h2:q2=a
  ·rw[h1,h2]
  ·rw[if_pos h1,if_neg h2] at e
   by_cases h3:q2=b
   ·rw[if_pos h3] at e;exact absurd e.symm h
   ·rw[if_neg h3] at e;exact absurd e.symm h3
 ·rw[if_neg h1] at e
  by_cases h2:q2=a
  ·rw[if_pos h2] at e
   by_cases h3:p2=b
   ·rw[if_pos h3] at e;exact absurd e h
   ·rw[if_neg h3] at e;exact absurd e h3
  ·rw[if_neg h2] at e
   by_cases h3:p2=b
   ·rw[if_pos h3] at e
    by_cases h4:q2=b
    ·rw[h3,h4]
    ·rw[if_neg h4] at e;exact absurd e.symm h2
   ·rw[if_neg h3] at e
    by_cases h4:q2=b
    ·rw[if_pos h4] at e;exact absurd e h1
    ·rw[if_neg h4] at e;exact e
theorem memP_perm {D E:List Pr} (h:D.Perm E) (p:Pr):Zh D p=Zh E p:=by
 rw[Bool.eq_iff_iff,Zi,Zi,h.mem_iff]
theorem nodup_map {f:Pr→Pr} (hf:∀p q,f p=f q→p=q):∀{D:List Pr},D.Nodup→(D.map f).Nodup
 | [],_=>by simp
 | x :: r,h=>by
  simp only[List.nodup_cons,List.map_cons] at h ⊢
  refine⟨fun hm=>?_,nodup_map hf h.2⟩
  obtain⟨y,hy,e⟩:=List.mem_map.1 hm
  rw[hf _ _ e] at hy;exact h.1 hy
theorem qj (l:Lin) (hk:l.kind=1∨l.kind=2∨l.kind=3∨l.kind=4∧l.person≠l.other) {D:List Pr} (h:D.Nodup):(Zy l D).Nodup:=by
 unfold Zy
 split
 ·split
  ·exact h
  ·rename_i hm
   rw[Zi] at hm
   rw[List.nodup_append]
   refine⟨h,by simp,fun a ha b hb=>?_⟩
   rw[List.mem_singleton] at hb
   rintro rfl
   rw[hb] at ha;exact hm ha
 ·split
  ·exact h.filter _
  ·split
   ·exact h.filter _
   ·rename_i k1 k2 k3
    have hne:l.person≠l.other:=by
     rcases hk with e | e | e | ⟨_,e⟩
     ·exact absurd e k1
     ·exact absurd e k2
     ·exact absurd e k3
     ·exact e
    exact nodup_map (swP_inj _ _ hne) h
theorem stepD_perm (l:Lin) {D E:List Pr} (h:D.Perm E):(Zy l D).Perm (Zy l E):=by
 unfold Zy
 rw[memP_perm h]
 split
 ·split
  ·exact h
  ·exact h.append (List.Perm.refl _)
 ·split
  ·exact h.filter _
  ·split
   ·exact h.filter _
   ·exact h.map _
def kindOk (l:Lin):Prop:=l.kind=1∨l.kind=2∨l.kind=3∨l.kind=4∧l.person≠l.other
theorem dayF_nodup (d:Int) (l:Lin) (hk:kindOk l) {D:List Pr} (h:D.Nodup):(JQ d D l).Nodup:=by
 unfold JQ;split
 ·exact qj l hk h
 ·exact h
def Ze (D:List Pr):Prop:=D.Pairwise fun p q=>ltP p q=true
theorem J4:∀(D E:List Pr),Ze D→Ze E→(∀p,p ∈ D↔p ∈ E)→D=E
 | [],[],_,_,_=>rfl
 | [],y :: r,_,_,h=>by have:=(h y).2 (by simp);simp at this
 | x :: r,[],_,_,h=>by have:=(h x).1 (by simp);simp at this
 | x :: r,y :: t,h1,h2,h=>by
  have a1:=List.pairwise_cons.1 h1
  have a2:=List.pairwise_cons.1 h2
  have exy:x=y:=by
   rcases List.mem_cons.1 ((h x).1 (by simp)) with e | hx
   ·exact e
   ·rcases List.mem_cons.1 ((h y).2 (by simp)) with e | hy
    ·exact e.symm
    ·have q1:=a2.1 x hx
     have q2:=a1.1 y hy
     rw[ltP_asymm q1] at q2;cases q2
  subst exy
  congr 1
  refine J4 r t a1.2 a2.2 fun p=>?_
  have:=h p
  simp only[List.mem_cons] at this
  constructor
  ·intro hp
   rcases this.1 (.inr hp) with e | e
   ·subst e;have:=a1.1 p hp;rw[jq] at this;cases this
   ·exact e
  ·intro hp
   rcases this.2 (.inr hp) with e | e
   ·subst e;have:=a2.1 p hp;rw[jq] at this;cases this
   ·exact e
def ZC (D:List Pr):List Pr:=D.mergeSort fun x y=>!ltP y x
theorem Za (D:List Pr):(ZC D).Perm D:=List.mergeSort_perm D _
theorem jD {D:List Pr} (h:D.Nodup):Ze (ZC D):=by
 have h1:=List.pairwise_mergeSort (le:=fun x y=>!ltP y x) (fun a b c ha hb=>by
  simp only[Bool.not_eq_true'] at ha hb ⊢
  exact ltP_ntrans hb ha) (fun a b=>by
  simp only[Bool.or_eq_true,Bool.not_eq_true']
  cases e:ltP b a with
  | false=>exact .inl rfl
  | true=>exact .inr (ltP_asymm e)) D
 have h2:(ZC D).Nodup:=(Za D).nodup_iff.2 h
 unfold Ze
 refine (h1.and h2).imp fun {a b} hab=>?_
 obtain⟨q1,q2⟩:=hab
 simp only[Bool.not_eq_true'] at q1
 cases e:ltP a b with
 | true=>rfl
 | false=>exact absurd (ltP_tri e q1) q2
theorem sortP_congr {D E:List Pr} (h:D.Perm E) (hd:D.Nodup):ZC D=ZC E:=
 J4 _ _ (jD hd) (jD (h.nodup_iff.1 hd)) fun p=>by rw[(Za D).mem_iff,(Za E).mem_iff,h.mem_iff]
theorem stepD_len (l:Lin) (D:List Pr):(Zy l D).length≤D.length + 1:=by
 unfold Zy
 split
 ·split
  ·omega
  ·simp
 ·split
  ·have:=List.length_filter_le (fun p:Pr=>!eqB p.2 l.person) D;omega
  ·split
   ·have:=List.length_filter_le (fun p:Pr=>!eqB p.1 l.tower) D;omega
   ·rw[List.length_map];omega
theorem foldl_len (d:Int):∀(ls:List Lin) (D:List Pr),(ls.foldl (JQ d) D).length≤D.length + ls.length
 | [],D=>by simp
 | l :: r,D=>by
  have h1:=foldl_len d r (JQ d D l)
  have h2:(JQ d D l).length≤D.length + 1:=by
   unfold JQ;split
   ·exact stepD_len l D
   ·omega
  simp only[List.foldl_cons,List.length_cons];omega
theorem dayD_len (ls:List Lin) (d:Int):(dayD ls d).length≤ls.length:=by
 have h:=foldl_len d ls []
 rw[List.length_nil,Nat.zero_add] at h
 exact h
end Du
namespace Go.AM
open Go.Proofs Cw Du
set_option maxRecDepth 10000
set_option maxHeartbeats 4000000
def idxI (w:Int):List Int→Nat→Int
 | [],_=>-1
 | x :: r,i=>if w=x then i else idxI w r (i + 1)
theorem idxI_iff (w:Int):∀(l:List Int) (i:Nat),0≤idxI w l i↔w ∈ l
 | [],_=>by simp[idxI]
 | x :: r,i=>by
  have ih:=idxI_iff w r (i + 1)
  by_cases hx:w=x
  ·rw[idxI,if_pos hx];simp[hx]
  ·rw[idxI,if_neg hx,ih];simp[hx]
theorem idxI_in (w:Int) (l:List Int) (i:Nat):decide (idxI w l i ≥ 0)=decide (w ∈ l):=by
 rw[decide_eq_decide];exact idxI_iff w l i
theorem indexI (nl fu:Bool) (s:Nat) (l:List Int) (hnl:l=[]∨nl=false∧s=1) (w:Int) (hl:l.length≤100000):zL Tryz.prog 160 [.fslc nl fu s (l.map (iv .i64)),iv .i64 w] (iv .i64 (idxI w l 0)):=by
 intro h n
 refine zS.pure (zS.entry (by kernel_rfl) fun hb _=>zX Tryz.func160 rfl (by kernel_rfl) (by simp[Tryz.ntmps160]) ?_)
 obtain⟨T,hT⟩:∃T,zC (T=idxI w l 0):=⟨_,rfl⟩
 rw[←hT.out]
 replace hnl:zC _:=hnl
 repeat' (first|(refine zF fun K hK=>?_)|(refine zB fun K hK=>?_;simp (disch:=omega) [go_sem, *,Tryz.ntmps160])|(apply zC.out hK;clear hK K;try with_reducible dsimp only[zD])|(refine zJ ?_))
 refine za (fun s'=>∃(i:Nat) (n':Nat),n≤n'∧i≤l.length∧idxI w (l.drop i) i=T∧s'=⟨19,[(0,.fslc nl fu s (l.map (iv .i64))),(1,iv .i64 w),(7,iv .i64 l.length),(8,iv .i64 i)],h,n'⟩)
   (fun s'=>l.length - (zf s' 8).toNat) ?_ ?_
 ·exact zb (by simp[go_sem, *]) (Sub.refl _) ⟨0,_,by omega,by omega,by rw[hT.out];rfl,rfl⟩
 ·rintro s' ⟨i,n',hn',hi,hc,rfl⟩
  by_cases hlt:i < l.length
  ·obtain⟨x,hx⟩:∃x,l[i]=x:=⟨_,rfl⟩
   have hne:l≠[]:=fun e=>by rw[e] at hlt;simp at hlt
   obtain⟨rfl,rfl⟩:=hnl.out.resolve_left hne
   have hdr:l.drop i=x :: l.drop (i + 1):=by rw[List.drop_eq_getElem_cons hlt,hx]
   rw[hdr,idxI] at hc
   clear hdr hne
   by_cases he:w=x
   ·rw[if_pos he] at hc
    subst hc
    subst he
    repeat' (first|(refine zF fun K hK=>?_)|(refine zB fun K hK=>?_;simp (disch:=omega) [go_sem, *,zQ,zP])|(apply zC.out hK;clear hK K;try with_reducible dsimp only[zD])|(apply zC.out ht;clear ht hf Kt Kf)|(refine zJ ?_)|(refine zK ?_;simp only[zD])|(refine zH fun Kt Kf ht hf=>?_;simp (disch:=omega) [go_sem, *];try (refine⟨fun hc=>?_,fun hc=>?_⟩ <;> try (exfalso;omega))))
    exact zR
   ·rw[if_neg he] at hc
    replace hc:zC _:=hc
    have hef:(w == x)=false:=by simpa using he
    clear he
    repeat' (first|(refine zF fun K hK=>?_)|(refine zB fun K hK=>?_;simp (disch:=omega) [go_sem, *,zN,zQ,zP])|(apply zC.out hK;clear hK K;try with_reducible dsimp only[zD])|(apply zC.out ht;clear ht hf Kt Kf)|(apply zC.out hf;clear ht hf Kt Kf)|(refine zJ ?_)|(refine zK ?_;simp only[zD,zO])|(refine zH fun Kt Kf ht hf=>?_;simp (disch:=omega) [go_sem, *];try (refine⟨fun hc=>?_,fun hc=>?_⟩ <;> try (exfalso;omega))))
    exact zV (by simp (disch:=omega) [go_sem]) (Sub.refl _) ⟨i + 1,_,by omega,by omega,hc.out,rfl⟩ (by simp[zf,go_sem];omega)
  ·rw[List.drop_eq_nil_of_le (by omega),idxI] at hc
   subst hc
   repeat' (first|(refine zF fun K hK=>?_)|(refine zB fun K hK=>?_;simp (disch:=omega) [go_sem, *,zW])|(apply zC.out hK;clear hK K;try with_reducible dsimp only[zD])|(apply zC.out hf;clear ht hf Kt Kf)|(clear hK K;apply zC.out hK;clear hK K;try with_reducible dsimp only[zD])|(refine zU ?_;simp only[zD,zO,if_true])|(refine zH fun Kt Kf ht hf=>?_;simp (disch:=omega) [go_sem, *];try (refine⟨fun hc=>?_,fun hc=>?_⟩ <;> try (exfalso;omega))))
   exact zR
theorem containsI (nl fu:Bool) (s:Nat) (l:List Int) (hnl:l=[]∨nl=false∧s=1) (w:Int) (hl:l.length≤100000):zL Tryz.prog 122 [.fslc nl fu s (l.map (iv .i64)),iv .i64 w] (bv (decide (w ∈ l))):=by
 intro h n
 have k1:=indexI nl fu s l hnl w hl
 rw[←idxI_in w l 0]
 refine zS.pure (zS.entry (by kernel_rfl) fun hb _=>zX Tryz.func122 rfl (by kernel_rfl) (by simp[Tryz.ntmps122]) ?_)
 generalize idxI w l 0=x at *
 generalize List.map (iv .i64) l=L at *
 clear hnl
 repeat' (first|(refine zF fun K hK=>?_)|(refine zB fun K hK=>?_;simp (disch:=omega) [go_sem, *,Tryz.ntmps122])|(apply zC.out hK;clear hK K;try with_reducible dsimp only[zD])|(with_reducible refine zL.gcall (k1) ?_;try simp (disch:=omega) [go_sem, *]))
 exact zR
def zT (l:Lin):AV:=.agg [iv .i64 l.kind,sv l.tower,sv l.person,sv l.other,iv .i64 l.fr,iv .i64 l.to,iv .i64 l.ev,.fslc l.nl l.fu l.s (l.exc.map (iv .i64))]
def j9 (l:Lin):Prop:=l.exc=[]∨l.nl=false∧l.s=1
def numOk (l:Lin):Prop:=0≤l.fr∧l.fr≤l.to∧l.to≤400∧1≤l.ev∧l.ev≤400∧l.exc.length≤20
theorem on_spec (l:Lin) (hw:j9 l) (hn:numOk l) (d:Int) (_h0:0≤d) (_h4:d≤400):zL Tryz.prog 97 [zT l,iv .i64 d] (bv (onL l d)):=by
 intro h n
 obtain⟨q1,q2,q3,q4,q5,q6⟩:=hn
 have k1:=Zr d l.fr l.to
 have k2:=containsI l.nl l.fu l.s l.exc hw d (by omega)
 refine zS.pure (zS.entry (by kernel_rfl) fun hb _=>zX Tryz.func97 rfl (by kernel_rfl) (by simp[Tryz.ntmps97]) ?_)
 obtain⟨T,hT⟩:∃T,zC (T=onL l d):=⟨_,rfl⟩
 rw[←hT.out]
 have hT2:T=(decide (l.fr≤d) && decide (d≤l.to) && decide ((d - l.fr) % l.ev=0) && !decide (d ∈ l.exc)):=by rw[hT.out,onL]
 replace hT:zC _:=trivial
 obtain⟨kd,tw,pe,ot,fr,to,ev,nl,fu,s,exc⟩:=l
 simp only at q1 q2 q3 q4 q5 q6 k1 k2 hT2
 simp only[zT]
 generalize hm:decide (d ∈ exc)=m at *
 generalize List.map (iv .i64) exc=L at *
 clear hw hm
 by_cases c1:fr≤d∧d≤to
 ·have w1:wi d fr to=true:=by simp[wi,c1]
  rw[w1] at k1
  have e1:decide (fr≤d)=true:=by simp[c1]
  have e2:decide (d≤to)=true:=by simp[c1]
  rw[e1,e2] at hT2
  have hmod:(d - fr).tmod ev=(d - fr) % ev:=by
   obtain⟨a,ha⟩:=Int.eq_ofNat_of_zero_le (show 0≤d - fr by omega)
   obtain⟨b,hb⟩:=Int.eq_ofNat_of_zero_le (show 0≤ev by omega)
   rw[ha,hb];rfl
  have hm0:0≤(d - fr) % ev:=Int.emod_nonneg _ (by omega)
  have hm1:(d - fr) % ev < ev:=Int.emod_lt_of_pos _ (by omega)
  have hev:¬ev=0:=by omega
  generalize hr:(d - fr) % ev=r at *
  clear hr w1 e1 e2
  by_cases r0:r=0
  ·have hTT:T = !m:=by rw[hT2,r0];simp
   subst hTT
   subst r0
   clear hT2
   repeat' (first|(refine zF fun K hK=>?_)|(refine zB fun K hK=>?_;simp (disch:=omega) [go_sem, *,Tryz.ntmps97])|(apply zC.out hK;clear hK K;try with_reducible dsimp only[zD])|(with_reducible refine zL.gcall (k1) ?_;try simp (disch:=omega) [go_sem, *,zN])|(with_reducible refine zL.gcall (k2) ?_;try simp (disch:=omega) [go_sem, *]))
   exact zR
  ·have hTT:T=false:=by rw[hT2];simp[r0]
   have rb:(r == 0)=false:=by simpa using r0
   subst hTT
   clear hT2 r0
   repeat' (first|(refine zF fun K hK=>?_)|(refine zB fun K hK=>?_;simp (disch:=omega) [go_sem, *,Tryz.ntmps97])|(apply zC.out hK;clear hK K;try with_reducible dsimp only[zD])|(with_reducible refine zL.gcall (k1) ?_;try simp (disch:=omega) [go_sem, *,zN]))
   exact zR
 ·have w1:wi d fr to=false:=by simp only[wi,Bool.and_eq_false_iff,decide_eq_false_iff_not];omega
  rw[w1] at k1
  have e1:(decide (fr≤d) && decide (d≤to))=false:=by simp only[Bool.and_eq_false_iff,decide_eq_false_iff_not];omega
  rw[e1] at hT2
  simp only[Bool.false_and] at hT2
  subst hT2
  clear e1 w1 c1
  repeat' (first|(refine zF fun K hK=>?_)|(refine zB fun K hK=>?_;simp (disch:=omega) [go_sem, *,Tryz.ntmps97])|(apply zC.out hK;clear hK K;try with_reducible dsimp only[zD])|(with_reducible refine zL.gcall (k1) ?_;try simp (disch:=omega) [go_sem, *]))
  exact zR
end Go.AM
namespace Go.AM
open Go.Proofs Cw Du Go.RowKit
set_option maxRecDepth 10000
set_option maxHeartbeats 4000000
def Zm (p:Pr):Value:=.agg #[.string p.1,.string p.2]
def keyA (p:Pr):AV:=.agg [sv p.1,sv p.2]
def ents (D:List Pr):List (Value × AV):=D.map fun p=>(Zm p,bv true)
theorem ents_get (D:List Pr) (j:Nat):(ents D)[j]? = (D[j]?).map fun p=>(Zm p,bv true):=by simp[ents]
theorem JC (p:Pr):Zk (Zm p)=keyA p:=by simp[Zm,keyA,Zk,Qv]
theorem Qs (p:Pr):Jp Tryz.prog 119 (keyA p)=some (Zm p):=by
 simp[Jp,keyA,Tryz.underlying119,cVals,Zm]
 kernel_rfl
theorem skStr:Q9 Tryz.prog 9=.str:=by kernel_rfl
theorem keyEq_pair (p q:Pr):jg Tryz.prog 119 (keyA p) (Zm q)=some (eqB p.1 q.1 && eqB p.2 q.2):=by
 have g1:Tryz.prog.stoodInHeld 119=false:=by kernel_rfl
 have g2:Tryz.prog.eqGuardType Tryz.prog.depth 119=false:=by kernel_rfl
 simp only[jg,keyA,Zm,aggEq,Tryz.underlying119,g1,g2,List.map_cons,List.map_nil,Zk,fldEq]
 simp only[and_self,if_true,List.getElem?_cons_zero,List.getElem?_cons_succ,skStr,jZ,eqB]
 simp
 cases (p.1.toList == q.1.toList) <;> cases (p.2.toList == q.2.toList) <;> simp
def eqP (p q:Pr):Bool:=eqB p.1 q.1 && eqB p.2 q.2
theorem eqP_iff (p q:Pr):eqP p q=true↔p=q:=by
 rw[eqP,Bool.and_eq_true,ZM,ZM];exact⟨fun h=>Prod.ext h.1 h.2,fun h=>by rw[h];exact⟨rfl,rfl⟩⟩
theorem find_pair (p:Pr):∀(D:List Pr) (i:Nat),jo Tryz.prog 119 (keyA p) (ents D) i=some ((D.findIdx? (eqP p)).map fun j=>(i + j,bv true))
 | [],i=>by simp[ents,jo]
 | q :: r,i=>by
  have ih:=find_pair p r (i + 1)
  have e:ents (q :: r)=(Zm q,bv true) :: ents r:=rfl
  rw[e,jo,keyEq_pair]
  have e2:(eqB p.1 q.1 && eqB p.2 q.2)=eqP p q:=rfl
  rw[e2,List.findIdx?_cons]
  cases h:eqP p q with
  | true=>simp
  | false=>
   simp only[ih]
   cases List.findIdx? (eqP p) r with
   | none=>simp
   | some j=>simp;omega
theorem sameKey (p:Pr):Go.Instr.sameBits 10000 (Zm p) (Zm p)=true:=by
 have hb:∀a:ByteArray,(a == a)=true:=fun a=>by
  cases a
  simp only[BEq.beq,ByteArray.beq]
  first | exact Array.isEqv_self _ | simp[Array.isEqv_self]|(rw[Array.isEqv_iff_rel];simp)
 simp[Zm,Go.Instr.sameBits,hb]
theorem QS {α β:Type} (f:α→β):∀(l:List α) (j:Nat),(l.map f).eraseIdx j=(l.eraseIdx j).map f
 | [],_=>by simp
 | x :: r,0=>by simp
 | x :: r,j + 1=>by simp[QS f r j]
structure MapP (h:zI) (m:Nat) (D:List Pr) (clk:Nat) (bs:List Nat):Prop where
 at_:h m=some (.map clk bs (ents D))
 len:bs.length=D.length
 nd:bs.Nodup
 lt:∀b ∈ bs,b < clk
theorem put_pair {h:zI} {m:Nat} {D:List Pr} {clk:Nat} {bs:List Nat} (M:MapP h m D clk bs) (p:Pr):∃clk' bs',qG Tryz.prog 163 (.map m) (keyA p) (bv true) h=some (h.upd m (some (.map clk' bs' (ents (if Zh D p then D else D ++ [p])))))∧MapP (h.upd m (some (.map clk' bs' (ents (if Zh D p then D else D ++ [p]))))) m (if Zh D p then D else D ++ [p]) clk' bs':=by
 have hf:=find_pair p D 0
 unfold qG
 rw[J0]
 simp only[Qs,M.at_,hf]
 cases hi:D.findIdx? (eqP p) with
 | none=>
  have hm:Zh D p=false:=by
   cases e:Zh D p with
   | false=>rfl
   | true=>
    have:=(Zi D p).1 e
    rw[List.findIdx?_eq_none_iff] at hi
    have:=hi p this
    rw[(eqP_iff p p).2 rfl] at this;cases this
  rw[hm]
  refine⟨clk + 1,bs ++ [clk],by simp[ents],⟨zM _ _ _,by simp[M.len],?_,fun b hb=>?_⟩⟩
  ·rw[List.nodup_append]
   refine⟨M.nd,by simp,fun a ha b hb=>?_⟩
   rw[List.mem_singleton] at hb
   have:=M.lt a ha
   omega
  ·rcases List.mem_append.1 hb with hb | hb
   ·have:=M.lt b hb;omega
   ·rw[List.mem_singleton] at hb;omega
 | some j=>
  obtain⟨hj,hp,_⟩:=List.findIdx?_eq_some_iff_getElem.1 hi
  have hp2:D[j]=p:=((eqP_iff _ _).1 hp).symm
  have hm:Zh D p=true:=(Zi D p).2 (by rw[←hp2];exact List.getElem_mem hj)
  rw[hm]
  have hk:((ents D).map (·.1)).getD j (Zm p)=Zm p:=by
   simp[ents,hj,hp2]
  have hset:(ents D).set j (Zm p,bv true)=ents D:=by
   apply List.ext_getElem?
   intro i
   rw[List.getElem?_set]
   split
   ·rename_i e;subst e;simp[ents,hj,hp2]
   ·rfl
  refine⟨clk,bs,?_,⟨zM _ _ _,M.len,M.nd,M.lt⟩⟩
  simp only[Option.map_some,Nat.zero_add,hk,sameKey,if_true,hset]
theorem del_pair {h:zI} {m:Nat} {D:List Pr} {clk:Nat} {bs:List Nat} (M:MapP h m D clk bs) (j:Nat) (p:Pr) (hj:D[j]? = some p) (hd:D.Nodup) :
  aDelete Tryz.prog 163 (.map m) (keyA p) h=some (h.upd m (some (.map clk (bs.eraseIdx j) (ents (D.eraseIdx j))))):=by
 have hf:=find_pair p D 0
 obtain⟨hl,hp⟩:=List.getElem?_eq_some_iff.1 hj
 have hi:D.findIdx? (eqP p)=some j:=by
  rw[List.findIdx?_eq_some_iff_getElem]
  refine⟨hl,(eqP_iff _ _).2 hp.symm,fun i hi=>?_⟩
  cases e:eqP p D[i] with
  | false=>simp
  | true=>
   have e1:=(eqP_iff _ _).1 e
   exact absurd (e1.symm.trans hp.symm) (List.pairwise_iff_getElem.1 hd i j (by omega) hl hi)
 unfold aDelete
 rw[J0]
 simp only[Qs,M.at_,hf,hi,Option.map_some,Nat.zero_add]
 have e:(ents D).eraseIdx j=ents (D.eraseIdx j):=by rw[ents,QS];rfl
 rw[e]
theorem QK {P:Program} {fl:Nat} {Q:Exit→St→Prop} {st:St} {id:Nat} {ops:Array Oper} {o:Oper} {rest:List Oper} {it:Operand} {n m since last clk:Nat} {seen bs:List Nat} {es:List (Value × AV)} (ho:ops.toList=o :: rest) (hop:o.op=.next it false) (hg:o.guard=none) (hd:Zu st.nt o.dst=true)
  (hit:ev st.s it=.ptr n 0) (hn:st.h n=some (.iter m since last seen)) (hm:st.h m=some (.map clk bs es)) (hlt:∀b ∈ bs,b < since) (hle:since≤last)
  (hend:(∀b ∈ bs,b ∈ seen)→∀K:St→Prop,zC (∀s,Q .normal s→K s)→JO P ops st.n K 1 rest (put ⟨st.nt,st.s,st.h,st.n + ops.size⟩ o.dst (.tup [bv false])))
  (hnext:∀(j b:Nat) (k:Value) (v:AV),es[j]? = some (k,v)→bs[j]? = some b→b ∉ seen→∀K:St→Prop,zC (∀s,Q .normal s→K s)→JO P ops st.n K 1 rest (put ⟨st.nt,st.s,st.h.upd n (some (.iter m since clk (seen ++ [b]))),st.n + ops.size⟩ o.dst (.tup [bv true,Zk k,v]))):zi P fl (.region id ops false) Q st:=
 ac_next ho hop hg hd hit hn hm hlt hle (fun h=>hend h _ fun _ h=>h) (fun j b k v h1 h2 h3=>hnext j b k v h1 h2 h3 _ fun _ h=>h)
end Go.AM
namespace Du
abbrev Zs:=List (Nat × Pr)
def Zv (seen:List Nat) (pred:Pr→Bool) (Z:Zs):Zs:=Z.filter fun z=>!(decide (z.1 ∈ seen) && pred z.2)
theorem keepZ_nil (pred:Pr→Bool) (Z:Zs):Zv [] pred Z=Z:=by simp[Zv]
theorem keepZ_end {seen:List Nat} {pred:Pr→Bool} {Z:Zs} (h:∀b ∈ (Zv seen pred Z).map (·.1),b ∈ seen):Zv seen pred Z=Z.filter fun z=>!pred z.2:=by
 unfold Zv
 refine List.filter_congr fun z hz=>?_
 by_cases hs:z.1 ∈ seen
 ·simp[hs]
 ·exfalso
  refine hs (h z.1 (List.mem_map.2 ⟨z,?_,rfl⟩))
  simp[Zv,hz,hs]
theorem mem_keepZ {seen:List Nat} {pred:Pr→Bool} {Z:Zs} {z:Nat × Pr}:z ∈ Zv seen pred Z↔z ∈ Z∧¬(z.1 ∈ seen∧pred z.2=true):=by
 simp only[Zv,List.mem_filter,Bool.not_eq_true',Bool.and_eq_false_iff,decide_eq_false_iff_not]
 constructor
 ·rintro⟨h1,h2⟩
  refine⟨h1,fun h=>?_⟩
  rcases h2 with h2 | h2
  ·exact h2 h.1
  ·rw[h2] at h;cases h.2
 ·rintro⟨h1,h2⟩
  refine⟨h1,?_⟩
  by_cases hs:z.1 ∈ seen
  ·right
   cases e:pred z.2 with
   | false=>rfl
   | true=>exact absurd ⟨hs,e⟩ h2
  ·exact .inl hs
theorem stamp_inj {Z:Zs} (hn:(Z.map (·.1)).Nodup) {z y:Nat × Pr} (hz:z ∈ Z) (hy:y ∈ Z) (h:z.1=y.1):z=y:=by
 induction Z with
 | nil=>simp at hz
 | cons x r ih=>
  simp only[List.map_cons,List.nodup_cons] at hn
  rcases List.mem_cons.1 hz with e1 | hz1
  ·rcases List.mem_cons.1 hy with e2 | hy1
   ·rw[e1,e2]
   ·exact absurd (List.mem_map.2 ⟨y,hy1,by rw[←h,e1]⟩) hn.1
  ·rcases List.mem_cons.1 hy with e2 | hy1
   ·exact absurd (List.mem_map.2 ⟨z,hz1,by rw[h,e2]⟩) hn.1
   ·exact ih hn.2 hz1 hy1
theorem keepZ_keep {seen:List Nat} {pred:Pr→Bool} {Z:Zs} {b:Nat} {p:Pr} (hn:(Z.map (·.1)).Nodup) (hz:(b,p) ∈ Z) (hp:pred p=false):Zv (seen ++ [b]) pred Z=Zv seen pred Z:=by
 unfold Zv
 refine List.filter_congr fun z hz2=>?_
 by_cases e:z.1=b
 ·have:=stamp_inj hn hz2 hz e
  subst this
  simp[hp]
 ·simp[e]
theorem erase_filter:∀(L:Zs) (j:Nat) (b:Nat) (p:Pr),(L.map (·.1)).Nodup→L[j]? = some (b,p)→L.eraseIdx j=L.filter fun z=>decide (z.1≠b)
 | [],_,_,_,_,h=>by simp at h
 | x :: r,0,b,p,hn,h=>by
  simp only[List.getElem?_cons_zero,Option.some.injEq] at h
  subst h
  simp only[List.map_cons,List.nodup_cons] at hn
  rw[List.eraseIdx_cons_zero,List.filter_cons_of_neg (by simp)]
  symm
  rw[List.filter_eq_self]
  intro z hz
  simp only[decide_eq_true_eq]
  intro e
  exact hn.1 (List.mem_map.2 ⟨z,hz,e⟩)
 | x :: r,j + 1,b,p,hn,h=>by
  simp only[List.getElem?_cons_succ] at h
  simp only[List.map_cons,List.nodup_cons] at hn
  have hx:x.1≠b:=fun e=>hn.1 (by rw[e];exact List.mem_map.2 ⟨(b,p),List.mem_of_getElem? h,rfl⟩)
  rw[List.eraseIdx_cons_succ,List.filter_cons_of_pos (by simpa using hx),erase_filter r j b p hn.2 h]
theorem qb {seen:List Nat} {pred:Pr→Bool} {Z:Zs} (hn:(Z.map (·.1)).Nodup):((Zv seen pred Z).map (·.1)).Nodup:=
 hn.sublist (List.filter_sublist.map _)
theorem keepZ_drop {seen:List Nat} {pred:Pr→Bool} {Z:Zs} {b:Nat} {p:Pr} {j:Nat} (hn:(Z.map (·.1)).Nodup) (hj:(Zv seen pred Z)[j]? = some (b,p)) (hp:pred p=true):Zv (seen ++ [b]) pred Z=(Zv seen pred Z).eraseIdx j:=by
 rw[erase_filter _ j b p (qb hn) hj]
 have hz:=(mem_keepZ.1 (List.mem_of_getElem? hj)).1
 unfold Zv
 rw[List.filter_filter]
 refine List.filter_congr fun z hz2=>?_
 by_cases e:z.1=b
 ·have:=stamp_inj hn hz2 hz e
  subst this
  simp[hp]
 ·simp[e]
def Jq (Z:Zs) (seen:List Nat):Nat:=(Z.filter fun z=>decide (z.1 ∉ seen)).length
theorem leftZ_lt {Z:Zs} {seen:List Nat} {z:Nat × Pr} (hz:z ∈ Z) (hs:z.1 ∉ seen):Jq Z (seen ++ [z.1]) < Jq Z seen:=by
 unfold Jq
 induction Z with
 | nil=>simp at hz
 | cons x r ih=>
  have hle:(r.filter fun y=>decide (y.1 ∉ seen ++ [z.1])).length≤(r.filter fun y=>decide (y.1 ∉ seen)).length:=by
   have e:(r.filter fun y=>decide (y.1 ∉ seen ++ [z.1]))=((r.filter fun y=>decide (y.1 ∉ seen)).filter fun y=>decide (y.1≠z.1)):=by
    rw[List.filter_filter]
    refine List.filter_congr fun y _=>?_
    by_cases h1:y.1 ∈ seen <;> by_cases h2:y.1=z.1 <;> simp[h1,h2]
   rw[e];exact List.length_filter_le _ _
  rcases List.mem_cons.1 hz with rfl | hz
  ·rw[List.filter_cons_of_neg (by simp),List.filter_cons_of_pos (by simpa using hs),List.length_cons]
   omega
  ·have:=ih hz
   by_cases h1:x.1 ∈ seen
   ·rw[List.filter_cons_of_neg (by simp[h1]),List.filter_cons_of_neg (by simp[h1])];exact this
   ·by_cases h2:x.1=z.1
    ·rw[List.filter_cons_of_neg (by simp[h2]),List.filter_cons_of_pos (by simpa using h1),List.length_cons];omega
    ·rw[List.filter_cons_of_pos (by simp[h1,h2]),List.filter_cons_of_pos (by simpa using h1),List.length_cons,List.length_cons];omega
def SeenZ (Z:Zs) (seen:List Nat) (q:Pr):Prop:=∃z ∈ Z,z.1 ∈ seen∧z.2=q
theorem SeenZ_nil (Z:Zs) (q:Pr):¬SeenZ Z [] q:=by rintro⟨z,_,h,_⟩;simp at h
theorem qQ {Z:Zs} {seen:List Nat} {b:Nat} {p:Pr} (hn:(Z.map (·.1)).Nodup) (hz:(b,p) ∈ Z) (q:Pr):SeenZ Z (seen ++ [b]) q↔SeenZ Z seen q∨q=p:=by
 constructor
 ·rintro⟨z,h1,h2,rfl⟩
  rcases List.mem_append.1 h2 with h2 | h2
  ·exact .inl ⟨z,h1,h2,rfl⟩
  ·rw[List.mem_singleton] at h2
   have:=stamp_inj hn h1 hz h2
   subst this;exact .inr rfl
 ·rintro (⟨z,h1,h2,rfl⟩ | rfl)
  ·exact⟨z,h1,List.mem_append.2 (.inl h2),rfl⟩
  ·exact⟨(b,q),hz,by simp,rfl⟩
theorem SeenZ_all {Z:Zs} {seen:List Nat} (h:∀b ∈ Z.map (·.1),b ∈ seen) (q:Pr):SeenZ Z seen q↔q ∈ Z.map (·.2):=by
 constructor
 ·rintro⟨z,h1,_,rfl⟩;exact List.mem_map.2 ⟨z,h1,rfl⟩
 ·intro hq
  obtain⟨z,h1,rfl⟩:=List.mem_map.1 hq
  exact⟨z,h1,h z.1 (List.mem_map.2 ⟨z,h1,rfl⟩),rfl⟩
theorem SeenZ_not {Z:Zs} {seen:List Nat} {b:Nat} {p:Pr} (hd:(Z.map (·.2)).Nodup) (hz:(b,p) ∈ Z) (hs:b ∉ seen):¬SeenZ Z seen p:=by
 rintro⟨z,h1,h2,rfl⟩
 have:z=(b,z.2):=by
  induction Z with
  | nil=>simp at hz
  | cons x r ih=>
   simp only[List.map_cons,List.nodup_cons] at hd
   rcases List.mem_cons.1 hz with e | hz1
   ·rcases List.mem_cons.1 h1 with e2 | h3
    ·rw[e2,←e]
    ·exact absurd (List.mem_map.2 ⟨z,h3,by rw[←e]⟩) hd.1
   ·rcases List.mem_cons.1 h1 with e2 | h3
    ·exact absurd (List.mem_map.2 ⟨(b,z.2),hz1,by rw[←e2]⟩) hd.1
    ·exact ih hd.2 h3 hz1
 rw[this] at h2
 exact hs h2
end Du
namespace Go.AM
open Go.Proofs Cw Du Go.RowKit
set_option maxRecDepth 10000
set_option maxHeartbeats 4000000
def jX (h:zI) (m clk:Nat) (Z:Zs):Prop:=h m=some (.map clk (Z.map (·.1)) (ents (Z.map (·.2))))
theorem MapP.z {h:zI} {m:Nat} {D:List Pr} {clk:Nat} {bs:List Nat} (M:MapP h m D clk bs):∃Z:Zs,Z.map (·.1)=bs∧Z.map (·.2)=D:=⟨bs.zip D,by rw[List.map_fst_zip (by rw[M.len];exact Nat.le_refl _)],by rw[List.map_snd_zip (by rw[M.len];exact Nat.le_refl _)]⟩
def ZG (h:zI) (it:Nat):List Nat:=match h it with | some (.iter _ _ _ s)=>s | _=>[]
theorem Qh:∀(L:Zs) (j b:Nat) (p:Pr),(L.map (·.1)).Nodup→L[j]? = some (b,p)→(L.map (·.1)).findIdx (·== b)=j
 | [],_,_,_,_,h=>by simp at h
 | x :: r,0,b,p,hn,h=>by
  simp only[List.getElem?_cons_zero,Option.some.injEq] at h
  subst h;simp[List.findIdx_cons]
 | x :: r,j + 1,b,p,hn,h=>by
  simp only[List.getElem?_cons_succ] at h
  simp only[List.map_cons,List.nodup_cons] at hn
  have hx:(x.1 == b)=false:=by
   rw[beq_eq_false_iff_ne]
   exact fun e=>hn.1 (by rw[e];exact List.mem_map.2 ⟨(b,p),List.mem_of_getElem? h,rfl⟩)
  simp only[List.map_cons,List.findIdx_cons,hx,cond_false,Qh r j b p hn.2 h]
theorem Qr {h:zI} {it m clk b j:Nat} {p:Pr} {since:Nat} {seen:List Nat} {Z:Zs} (hi:h it=some (.iter m since clk (seen ++ [b]))) (hm:jX h m clk Z) (hn:(Z.map (·.1)).Nodup) (hj:Z[j]? = some (b,p)):Q0 (.ptr it 0) h=some (.tup [keyA p,bv true]):=by
 have e1:=Qh Z j b p hn hj
 unfold jX at hm
 simp only[Q0,hi,hm,List.getLast?_append,List.getLast?_singleton,Option.some_or,if_true,e1,ents_get,List.getElem?_map,hj,Option.map_some,JC]
theorem range_pair {h:zI} {m nm clk:Nat} {Z:Zs} (hm:jX h m clk Z):qL Tryz.prog nm 163 (.map m) h=some (.ptr nm 0,h.upd nm (some (.iter m clk clk []))):=by
 unfold jX at hm
 simp only[qL,J0,hm]
theorem deleteF (g:FuncId) (caps:List AV) (pred:Pr→Bool) (hp:∀p:Pr,zL Tryz.prog g (keyA p :: bv true :: caps) (bv (pred p))) (m n:Nat) (D:List Pr) (H:zI) (clk:Nat) (bs:List Nat) (M:MapP H m D clk bs) (hd:D.Nodup) (hmn:m < n) :
  zS Tryz.prog 146 [.map m,.func (.func g) [] caps] H n fun r h' n'=>n≤n'∧r=.tup []∧(∃clk bs,MapP h' m (D.filter fun p=>!pred p) clk bs)∧∀x,x < n→x≠m→h' x=H x:=by
 refine zS.entry (by kernel_rfl) fun hb _=>zX Tryz.func146 rfl (by kernel_rfl) (by simp[Tryz.ntmps146]) ?_
 obtain⟨Z,hZ1,hZ2⟩:=M.z
 have hat:=M.at_
 have hn0:(Z.map (·.1)).Nodup:=by rw[hZ1];exact M.nd
 have hlt:∀z ∈ Z,z.1 < clk:=fun z hz=>M.lt _ (by rw[←hZ1];exact List.mem_map.2 ⟨z,hz,rfl⟩)
 rw[←hZ1,←hZ2] at hat
 replace hp:zC _:=hp
 replace hn0:zC _:=hn0
 replace hlt:zC _:=hlt
 replace hZ1:zC _:=hZ1
 replace hZ2:zC _:=hZ2
 replace M:zC _:=M
 replace hd:zC _:=hd
 repeat' (first|(refine zF fun K hK=>?_)|(refine zB fun K hK=>?_;simp (disch:=omega) [go_sem, *,Tryz.ntmps146]))
 rw[range_pair hat]
 simp (disch:=omega) [go_sem]
 repeat' (first|(apply zC.out hK;clear hK K;try with_reducible dsimp only[zD])|(refine zJ ?_))
 refine za (fun s'=>∃(n':Nat) (seen:List Nat) (H':zI),n + 2≤n'∧H' (n + 1)=some (.iter m clk clk seen)∧jX H' m clk (Zv seen pred Z)∧(∀x,x < n→x≠m→H' x=H x)∧
   s'=⟨19,[(0,.map m),(1,.func (.func g) [] caps),(7,.ptr (n + 1) 0)],H',n'⟩)
  (fun s'=>Jq Z (ZG s'.h (n + 1))) ?_ ?_
 ·refine zb (by simp[go_sem]) (Sub.refl _) ⟨_,[],_,?_,zM _ _ _,?_,fun x hx _=>zG _ _ _ _ (by omega),rfl⟩
  ·omega
  ·rw[keepZ_nil];unfold jX;rw[zG _ _ _ _ (by omega)];exact hat
 ·rintro s' ⟨n',seen,H',hn',hit,hmp,hfr,rfl⟩
  replace hfr:zC _:=hfr
  refine zF fun K hK=>?_
  refine QK (it:=.tmp 7) (n:=n + 1) (m:=m) (since:=clk) (last:=clk) (clk:=clk) (seen:=seen) rfl rfl rfl rfl (by simp[go_sem]) hit hmp ?_ (Nat.le_refl _) (fun hall K3 hK3=>?_) (fun j b k v hj hbj hns K3 hK3=>?_)
  ·intro b hb
   obtain⟨z,hz,rfl⟩:=List.mem_map.1 hb
   exact hlt.out z (mem_keepZ.1 hz).1
  ·have hfin:∃clk bs,MapP H' m (D.filter fun p=>!pred p) clk bs:=by
    have e:=keepZ_end hall
    rw[e] at hmp
    refine⟨clk,(Z.filter fun z=>!pred z.2).map (·.1),⟨?_,?_,?_,?_⟩⟩
    ·have e2:D.filter (fun p=>!pred p)=(Z.filter fun z=>!pred z.2).map (·.2):=by
      rw[←hZ2.out,List.filter_map];rfl
     rw[e2];exact hmp
    ·rw[←hZ2.out,List.filter_map];simp[Function.comp_def]
    ·exact (hn0.out).sublist (List.filter_sublist.map _)
    ·intro b hb
     obtain⟨z,hz,rfl⟩:=List.mem_map.1 hb
     exact hlt.out z (List.mem_filter.1 hz).1
   replace hfin:zC _:=hfin
   clear hall hmp hit
   simp (disch:=omega) [go_sem]
   refine hK3.out _ ?_
   clear hK3 K3
   dsimp only[zD]
   refine hK.out _ ?_
   clear hK K
   repeat' (first|(refine zF fun K hK=>?_)|(apply zC.out hf;clear ht hf Kt Kf)|(refine zU ?_;simp only[zD,zO,if_true])|(refine zH fun Kt Kf ht hf=>?_;simp (disch:=omega) [go_sem, *];try (refine⟨fun hc=>?_,fun hc=>?_⟩ <;> try (exfalso;omega))))
   refine⟨by simp,_,(by first | rfl|(simp (disch:=omega) [go_sem,zG] <;> rfl)),?_⟩
   refine zc ⟨by omega,rfl,hfin.out,hfr.out⟩
  ·obtain⟨p,hjz,rfl,rfl⟩:∃p,(Zv seen pred Z)[j]? = some (b,p)∧k=Zm p∧v=bv true:=by
    rw[ents_get,List.getElem?_map] at hj
    rw[List.getElem?_map] at hbj
    cases hq:(Zv seen pred Z)[j]? with
    | none=>rw[hq] at hj;cases hj
    | some z=>
     rw[hq] at hj hbj
     simp only[Option.map_some,Option.some.injEq,Prod.mk.injEq] at hj hbj
     exact⟨z.2,by rw[←hbj],hj.1.symm,hj.2.symm⟩
   have hzm:=(mem_keepZ.1 (List.mem_of_getElem? hjz)).1
   have hmes:=leftZ_lt hzm hns
   have hpp:=hp.out p
   have hit2:(H'.upd (n + 1) (some (.iter m clk clk (seen ++ [b])))) (n + 1)=some (.iter m clk clk (seen ++ [b])):=zM _ _ _
   have hmp2:jX (H'.upd (n + 1) (some (.iter m clk clk (seen ++ [b])))) m clk (Zv seen pred Z):=by unfold jX;rw[zG _ _ _ _ (by omega)];exact hmp
   have hfr2:∀x,x < n→x≠m→(H'.upd (n + 1) (some (.iter m clk clk (seen ++ [b])))) x=H x:=fun x h1 h2=>by rw[zG _ _ _ _ (by omega)];exact hfr.out x h1 h2
   have hent:=Qr hit2 hmp2 (qb hn0.out) hjz
   rw[JC]
   simp only
   generalize H'.upd (n + 1) (some (.iter m clk clk (seen ++ [b])))=H2 at *
   replace hmes:zC _:=hmes
   replace hfr2:zC _:=hfr2
   replace hmp2:zC _:=hmp2
   replace hzm:zC _:=hzm
   replace hjz:zC _:=hjz
   replace hns:zC _:=hns
   clear hmp hj hbj hfr
   simp only[keyA] at hpp hent ⊢
   simp (disch:=omega) [go_sem]
   refine hK3.out _ ?_
   clear hK3 K3
   dsimp only[zD]
   refine hK.out _ ?_
   clear hK K
   cases hq:pred p with
   | true=>
    rw[hq] at hpp
    repeat' (first|(refine zF fun K hK=>?_)|(refine zB fun K hK=>?_;simp (disch:=omega) [go_sem, *])|(apply zC.out hK;clear hK K;try with_reducible dsimp only[zD])|(apply zC.out ht;clear ht hf Kt Kf)|(with_reducible refine zL.gcall (hpp) ?_;try simp (disch:=omega) [go_sem, *])|(refine zJ ?_)|(refine zK ?_;simp only[zD])|(refine zH fun Kt Kf ht hf=>?_;simp (disch:=omega) [go_sem, *];try (refine⟨fun hc=>?_,fun hc=>?_⟩ <;> try (exfalso;omega))))
    obtain⟨H3,hH3⟩:∃H3,H3=(H2.upd (n' + 2 + 3) (some (.cells [sv ByteArray.empty,sv ByteArray.empty]))).upd (n' + 2 + 3) (some (.cells [sv p.1,sv p.2])):=⟨_,rfl⟩
    rw[←hH3]
    have hit3:H3 (n + 1)=some (.iter m clk clk (seen ++ [b])):=by rw[hH3,zG _ _ _ _ (by omega),zG _ _ _ _ (by omega)];exact hit2
    have hmp3:H3 m=some (.map clk ((Zv seen pred Z).map (·.1)) (ents ((Zv seen pred Z).map (·.2)))):=by rw[hH3,zG _ _ _ _ (by omega),zG _ _ _ _ (by omega)];exact hmp2.out
    have hfr3:∀x,x < n→x≠m→H3 x=H x:=fun x h1 h2=>by rw[hH3,zG _ _ _ _ (by omega),zG _ _ _ _ (by omega)];exact hfr2.out x h1 h2
    have hdel:=del_pair (h:=H3) (m:=m) (D:=(Zv seen pred Z).map (·.2)) (clk:=clk) (bs:=(Zv seen pred Z).map (·.1)) ⟨hmp3,by simp,qb hn0.out,fun b hb=>by
     obtain⟨z,hz,rfl⟩:=List.mem_map.1 hb
     exact hlt.out z (mem_keepZ.1 hz).1⟩ j p (by rw[List.getElem?_map,hjz.out];rfl) (List.Nodup.sublist (List.filter_sublist.map _) (by rw[hZ2.out];exact hd.out))
    rw[QS,QS,←keepZ_drop hn0.out hjz.out hq] at hdel
    simp only[keyA] at hdel
    rw[hdel]
    clear hdel hmp3 hH3 hmp2 hit2 hfr2 hent
    simp (disch:=omega) [go_sem]
    repeat' (first|(apply zC.out hK;clear hK K;try with_reducible dsimp only[zD]))
    refine zV (by simp[go_sem]) (Sub.refl _) ⟨_,seen ++ [b],_,by omega,?_,?_,fun x h1 h2=>?_,rfl⟩ ?_
    ·rw[zG _ _ _ _ (by omega)];exact hit3
    ·unfold jX;rw[zM]
    ·rw[zG _ _ _ _ h2];exact hfr3 x h1 h2
    ·have e1:ZG (H3.upd m (some (.map clk ((Zv (seen ++ [b]) pred Z).map (·.1)) (ents ((Zv (seen ++ [b]) pred Z).map (·.2)))))) (n + 1)=seen ++ [b]:=by
      unfold ZG;rw[zG _ _ _ _ (by omega),hit3]
     have e2:ZG H' (n + 1)=seen:=by unfold ZG;rw[hit]
     simp only[e1,e2];exact hmes.out
   | false=>
    rw[hq] at hpp
    repeat' (first|(refine zF fun K hK=>?_)|(refine zB fun K hK=>?_;simp (disch:=omega) [go_sem, *])|(apply zC.out hK;clear hK K;try with_reducible dsimp only[zD])|(apply zC.out ht;clear ht hf Kt Kf)|(apply zC.out hf;clear ht hf Kt Kf)|(with_reducible refine zL.gcall (hpp) ?_;try simp (disch:=omega) [go_sem, *])|(refine zJ ?_)|(refine zK ?_;simp only[zD,zO])|(refine zH fun Kt Kf ht hf=>?_;simp (disch:=omega) [go_sem, *];try (refine⟨fun hc=>?_,fun hc=>?_⟩ <;> try (exfalso;omega))))
    refine zV (by simp[go_sem]) (Sub.refl _) ⟨_,seen ++ [b],_,by omega,?_,?_,fun x h1 h2=>?_,rfl⟩ ?_
    ·rw[zG _ _ _ _ (by omega),zG _ _ _ _ (by omega)];exact hit2
    ·unfold jX;rw[zG _ _ _ _ (by omega),zG _ _ _ _ (by omega),keepZ_keep hn0.out hzm.out hq];exact hmp2.out
    ·rw[zG _ _ _ _ (by omega),zG _ _ _ _ (by omega)];exact hfr2.out x h1 h2
    ·have e1:ZG ((H2.upd (n' + 2 + 3) (some (.cells [sv ByteArray.empty,sv ByteArray.empty]))).upd (n' + 2 + 3) (some (.cells [sv p.1,sv p.2]))) (n + 1)=seen ++ [b]:=by
      unfold ZG;rw[zG _ _ _ _ (by omega),zG _ _ _ _ (by omega),hit2]
     have e2:ZG H' (n + 1)=seen:=by unfold ZG;rw[hit]
     simp only[e1,e2];exact hmes.out
end Go.AM
namespace Go.AM
open Go.Proofs Cw Du Go.RowKit
set_option maxRecDepth 10000
set_option maxHeartbeats 4000000
def zy (l:Lin):List AV:=[iv .i64 l.kind,sv l.tower,sv l.person,sv l.other,iv .i64 l.fr,iv .i64 l.to,iv .i64 l.ev,.fslc l.nl l.fu l.s (l.exc.map (iv .i64))]
theorem restC (l:Lin) (p:Pr):zL Tryz.prog 147 (keyA p :: bv true :: [.fptr (zy l)]) (bv (eqB p.2 l.person)):=by
 intro h n
 refine zS.pure (zS.entry (by kernel_rfl) fun hb _=>zX Tryz.func147 rfl (by kernel_rfl) (by simp[Tryz.ntmps147]) ?_)
 simp only[keyA,zy,eqB]
 generalize List.map (iv .i64) l.exc=L at *
 repeat' (first|(refine zF fun K hK=>?_)|(refine zB fun K hK=>?_;simp (disch:=omega) [go_sem, *,Tryz.ntmps147])|(apply zC.out hK;clear hK K;try with_reducible dsimp only[zD]))
 exact zR
theorem cancelC (l:Lin) (p:Pr):zL Tryz.prog 148 (keyA p :: bv true :: [.fptr (zy l)]) (bv (eqB p.1 l.tower)):=by
 intro h n
 refine zS.pure (zS.entry (by kernel_rfl) fun hb _=>zX Tryz.func148 rfl (by kernel_rfl) (by simp[Tryz.ntmps148]) ?_)
 simp only[keyA,zy,eqB]
 generalize List.map (iv .i64) l.exc=L at *
 repeat' (first|(refine zF fun K hK=>?_)|(refine zB fun K hK=>?_;simp (disch:=omega) [go_sem, *,Tryz.ntmps148])|(apply zC.out hK;clear hK K;try with_reducible dsimp only[zD]))
 exact zR
theorem rest_spec (l:Lin) (m n:Nat) (D:List Pr) (H:zI) (clk:Nat) (bs:List Nat) (M:MapP H m D clk bs) (hd:D.Nodup) (hmn:m < n) :
  zS Tryz.prog 94 [.map m,zT l] H n fun r h' n'=>n≤n'∧r=.tup []∧(∃clk bs,MapP h' m (D.filter fun p=>!eqB p.2 l.person) clk bs)∧∀x,x < n→x≠m→h' x=H x:=by
 have k1:=deleteF 147 [.fptr (zy l)] (fun p=>eqB p.2 l.person) (restC l) m
 refine zS.entry (by kernel_rfl) fun hb _=>zX Tryz.func94 rfl (by kernel_rfl) (by simp[Tryz.ntmps94]) ?_
 replace k1:zC _:=k1
 replace M:zC _:=M
 replace hd:zC _:=hd
 simp only[zT]
 refine zF fun K hK=>?_
 refine zB fun K2 hK2=>?_
 simp (disch:=omega) [go_sem,Tryz.ntmps94]
 refine hK2.out _ ?_
 clear hK2 K2
 dsimp only[zD]
 refine hK.out _ ?_
 clear hK K
 refine Z1 (t:=3) (m:=n) (c:=zy l) (zM _ _ _) (by simp[go_sem]) ?_
 have M2:MapP ((H.upd n (some (.cells (zy l)))).upd n none) m D clk bs:=⟨by rw[zG _ _ _ _ (by omega),zG _ _ _ _ (by omega)];exact M.out.at_,M.out.len,M.out.nd,M.out.lt⟩
 have hf:∀x,x < n→((H.upd n (some (.cells (zy l)))).upd n none) x=H x:=fun x hx=>by rw[zG _ _ _ _ (by omega),zG _ _ _ _ (by omega)]
 have e0 : [iv .i64 l.kind,sv l.tower,sv l.person,sv l.other,iv .i64 l.fr,iv .i64 l.to,iv .i64 l.ev,.fslc l.nl l.fu l.s (l.exc.map (iv .i64))]=zy l:=rfl
 simp only[e0]
 generalize (H.upd n (some (.cells (zy l)))).upd n none=H2 at *
 replace hf:zC _:=hf
 replace e0:zC _:=trivial
 refine zB fun K2 hK2=>?_
 simp (disch:=omega) [go_sem]
 refine .inl ((k1.out _ D H2 clk bs M2 hd.out (by omega)).mono fun r h' n' hp=>?_)
 obtain⟨hn',rfl,hm,hx⟩:=hp
 replace hm:zC _:=hm
 replace hx:zC _:=hx
 simp (disch:=omega) [go_sem]
 refine hK2.out _ ?_
 refine⟨by simp,_,(by first | rfl|(simp (disch:=omega) [go_sem,zG] <;> rfl)),?_⟩
 refine zc ⟨by show n≤n';omega,rfl,hm.out,fun x h1 h2=>by show h' x=H x;rw[hx.out x (by omega) h2,hf.out x h1]⟩
theorem cancel_spec (l:Lin) (m n:Nat) (D:List Pr) (H:zI) (clk:Nat) (bs:List Nat) (M:MapP H m D clk bs) (hd:D.Nodup) (hmn:m < n) :
  zS Tryz.prog 95 [.map m,zT l] H n fun r h' n'=>n≤n'∧r=.tup []∧(∃clk bs,MapP h' m (D.filter fun p=>!eqB p.1 l.tower) clk bs)∧∀x,x < n→x≠m→h' x=H x:=by
 have k1:=deleteF 148 [.fptr (zy l)] (fun p=>eqB p.1 l.tower) (cancelC l) m
 refine zS.entry (by kernel_rfl) fun hb _=>zX Tryz.func95 rfl (by kernel_rfl) (by simp[Tryz.ntmps95]) ?_
 replace k1:zC _:=k1
 replace M:zC _:=M
 replace hd:zC _:=hd
 simp only[zT]
 refine zF fun K hK=>?_
 refine zB fun K2 hK2=>?_
 simp (disch:=omega) [go_sem,Tryz.ntmps95]
 refine hK2.out _ ?_
 clear hK2 K2
 dsimp only[zD]
 refine hK.out _ ?_
 clear hK K
 refine Z1 (t:=3) (m:=n) (c:=zy l) (zM _ _ _) (by simp[go_sem]) ?_
 have M2:MapP ((H.upd n (some (.cells (zy l)))).upd n none) m D clk bs:=⟨by rw[zG _ _ _ _ (by omega),zG _ _ _ _ (by omega)];exact M.out.at_,M.out.len,M.out.nd,M.out.lt⟩
 have hf:∀x,x < n→((H.upd n (some (.cells (zy l)))).upd n none) x=H x:=fun x hx=>by rw[zG _ _ _ _ (by omega),zG _ _ _ _ (by omega)]
 have e0 : [iv .i64 l.kind,sv l.tower,sv l.person,sv l.other,iv .i64 l.fr,iv .i64 l.to,iv .i64 l.ev,.fslc l.nl l.fu l.s (l.exc.map (iv .i64))]=zy l:=rfl
 simp only[e0]
 generalize (H.upd n (some (.cells (zy l)))).upd n none=H2 at *
 replace hf:zC _:=hf
 replace e0:zC _:=trivial
 refine zB fun K2 hK2=>?_
 simp (disch:=omega) [go_sem]
 refine .inl ((k1.out _ D H2 clk bs M2 hd.out (by omega)).mono fun r h' n' hp=>?_)
 obtain⟨hn',rfl,hm,hx⟩:=hp
 replace hm:zC _:=hm
 replace hx:zC _:=hx
 simp (disch:=omega) [go_sem]
 refine hK2.out _ ?_
 refine⟨by simp,_,(by first | rfl|(simp (disch:=omega) [go_sem,zG] <;> rfl)),?_⟩
 refine zc ⟨by show n≤n';omega,rfl,hm.out,fun x h1 h2=>by show h' x=H x;rw[hx.out x (by omega) h2,hf.out x h1]⟩
theorem watch_spec (l:Lin) (m n:Nat) (D:List Pr) (H:zI) (clk:Nat) (bs:List Nat) (M:MapP H m D clk bs) (hmn:m < n) :
  zS Tryz.prog 93 [.map m,zT l] H n fun r h' n'=>n≤n'∧r=.tup []∧(∃clk bs,MapP h' m (if Zh D (l.tower,l.person) then D else D ++ [(l.tower,l.person)]) clk bs)∧∀x,x < n→x≠m→h' x=H x:=by
 refine zS.entry (by kernel_rfl) fun hb _=>zX Tryz.func93 rfl (by kernel_rfl) (by simp[Tryz.ntmps93]) ?_
 obtain⟨H2,hH2⟩:∃H2,H2=H.upd n (some (.cells (zy l))):=⟨_,rfl⟩
 have M2:MapP H2 m D clk bs:=⟨by rw[hH2,zG _ _ _ _ (by omega)];exact M.at_,M.len,M.nd,M.lt⟩
 obtain⟨clk',bs',hput,M3⟩:=put_pair M2 (l.tower,l.person)
 have hf:∀x,x < n→x≠m→(H2.upd m (some (.map clk' bs' (ents (if Zh D (l.tower,l.person) then D else D ++ [(l.tower,l.person)]))))) x=H x:=fun x h1 h2=>by rw[zG _ _ _ _ h2,hH2,zG _ _ _ _ (by omega)]
 rw[hH2] at hput M3 hf
 simp only[keyA,zy] at hput M3 hf
 generalize (if Zh D (l.tower,l.person)=true then D else D ++ [(l.tower,l.person)])=E at *
 have M4:zC (∃clk bs,MapP _ m E clk bs):=⟨clk',bs',M3⟩
 clear M3
 replace hf:zC _:=hf
 replace M2:zC _:=trivial
 replace M:zC _:=trivial
 simp only[zT]
 clear hH2
 repeat' (first|(refine zF fun K hK=>?_)|(refine zB fun K hK=>?_;simp (disch:=omega) [go_sem, *,Tryz.ntmps93])|(apply zC.out hK;clear hK K;try with_reducible dsimp only[zD]))
 refine⟨by simp,_,(by first | rfl|(simp (disch:=omega) [go_sem,zG] <;> rfl)),?_⟩
 refine zc ⟨by omega,rfl,M4.out,hf.out⟩
end Go.AM
namespace Go.AM
open Go.Proofs Cw Du Go.RowKit
set_option maxRecDepth 10000
set_option maxHeartbeats 4000000
theorem notIface:jk Tryz.prog 163=some false:=by kernel_rfl
theorem mkIf (x:AV):qx Tryz.prog 163 x=some (.iface 163 x):=by simp[qx,notIface]
theorem asIf (x:AV):aAssert Tryz.prog (.iface 163 x) 163 false=some x:=by simp[aAssert,notIface]
theorem clone_spec (m n:Nat) (D:List Pr) (H:zI) (clk:Nat) (bs:List Nat) (M:MapP H m D clk bs) (_hmn:m < n) :
  zS Tryz.prog 149 [.map m] H n fun r h' n'=>∃mo,n≤mo∧mo < n'∧r=.map mo∧MapP h' mo D clk bs∧∀x,x < n→h' x=H x:=by
 refine zS.entry (by kernel_rfl) fun hb _=>zX Tryz.func149 rfl (by kernel_rfl) (by simp[Tryz.ntmps149]) ?_
 replace M:zC _:=M
 repeat' (first|(refine zF fun K hK=>?_)|(refine zB fun K hK=>?_;simp (disch:=omega) [go_sem, *,Tryz.ntmps149])|(apply zC.out hK;clear hK K;try with_reducible dsimp only[zD])|(apply zC.out hf;clear ht hf Kt Kf)|(refine zK ?_;simp only[zD])|(refine zH fun Kt Kf ht hf=>?_;simp (disch:=omega) [go_sem, *];try (refine⟨fun hc=>?_,fun hc=>?_⟩ <;> try (exfalso;omega))))
 rw[mkIf]
 simp (disch:=omega) [go_sem]
 refine .inr (evExt_ok (k:=2) Go.Proofs.SAN.xt_ok (by decide) (o:=(.iface 163 (.map (n + 1 + 2 + 5)),H.upd (n + 1 + 2 + 5) (some (.map clk bs (ents D))),n + 1 + 2 + 5 + 1)) (by simp[evExt,M.out.at_]) ?_)
 have M2:MapP (H.upd (n + 1 + 2 + 5) (some (.map clk bs (ents D)))) (n + 1 + 2 + 5) D clk bs:=⟨zM _ _ _,M.out.len,M.out.nd,M.out.lt⟩
 replace M2:zC _:=M2
 simp (disch:=omega) [go_sem]
 rw[asIf]
 simp (disch:=omega) [go_sem]
 repeat' (first|(apply zC.out hK;clear hK K;try with_reducible dsimp only[zD]))
 refine zg ?_
 try dsimp only[zD,zO]
 refine⟨by simp,_,(by first | rfl|(simp (disch:=omega) [go_sem,zG] <;> rfl)),?_⟩
 refine zc ⟨n + 1 + 2 + 5,by omega,by omega,rfl,M2.out,fun x hx=>zG _ _ _ _ (by omega)⟩
theorem range_pairP {h:zI} {m nm clk:Nat} {D:List Pr} {bs:List Nat} (M:MapP h m D clk bs):qL Tryz.prog nm 163 (.map m) h=some (.ptr nm 0,h.upd nm (some (.iter m clk clk []))):=by
 simp only[qL,J0,M.at_]
theorem clear_pair {h:zI} {m clk:Nat} {D:List Pr} {bs:List Nat} (M:MapP h m D clk bs):Ju Tryz.prog 163 (.map m) h=some (h.upd m (some (.map clk [] []))):=by
 simp only[Ju,J0,M.at_]
theorem swap_spec (l:Lin) (hne:l.person≠l.other) (m n:Nat) (D:List Pr) (H:zI) (clk:Nat) (bs:List Nat) (M:MapP H m D clk bs) (hd:D.Nodup) (hmn:m < n) :
  zS Tryz.prog 96 [.map m,zT l] H n fun r h' n'=>n≤n'∧r=.tup []∧(∃clk bs E,MapP h' m E clk bs∧E.Perm (D.map (swP l.person l.other)))∧∀x,x < n→x≠m→h' x=H x:=by
 refine zS.entry (by kernel_rfl) fun hb _=>zX Tryz.func96 rfl (by kernel_rfl) (by simp[Tryz.ntmps96]) ?_
 replace M:zC _:=M
 replace hd:zC _:=hd
 simp only[zT]
 refine zF fun K hK=>?_
 refine zB fun K2 hK2=>?_
 simp (disch:=omega) [go_sem,Tryz.ntmps96]
 refine hK2.out _ ?_
 clear hK2 K2
 dsimp only[zD]
 refine hK.out _ ?_
 clear hK K
 refine Z1 (t:=3) (m:=n) (c:=zy l) (zM _ _ _) (by simp[go_sem]) ?_
 have M2:MapP ((H.upd n (some (.cells (zy l)))).upd n none) m D clk bs:=⟨by rw[zG _ _ _ _ (by omega),zG _ _ _ _ (by omega)];exact M.out.at_,M.out.len,M.out.nd,M.out.lt⟩
 have hf:∀x,x < n→((H.upd n (some (.cells (zy l)))).upd n none) x=H x:=fun x hx=>by rw[zG _ _ _ _ (by omega),zG _ _ _ _ (by omega)]
 have e0 : [iv .i64 l.kind,sv l.tower,sv l.person,sv l.other,iv .i64 l.fr,iv .i64 l.to,iv .i64 l.ev,.fslc l.nl l.fu l.s (l.exc.map (iv .i64))]=zy l:=rfl
 simp only[e0]
 generalize (H.upd n (some (.cells (zy l)))).upd n none=H2 at *
 replace hf:zC _:=hf
 replace e0:zC _:=trivial
 refine zF fun K hK=>?_
 refine zB fun K2 hK2=>?_
 simp (disch:=omega) [go_sem]
 refine .inl ((clone_spec m _ D H2 clk bs M2 (by omega)).mono fun r H3 n3 hp=>?_)
 obtain⟨mo,hmo1,hmo2,rfl,Mo,hx3⟩:=hp
 have M3:MapP H3 m D clk bs:=⟨by rw[hx3 m (by omega)];exact M2.at_,M2.len,M2.nd,M2.lt⟩
 have hf3:∀x,x < n→H3 x=H x:=fun x hx=>by rw[hx3 x (by omega),hf.out x hx]
 clear hx3 hf M2
 replace hf3:zC _:=hf3
 have hclr:=clear_pair M3
 have hcl0:aClear Tryz.prog 163 (.map m) H3=none:=by unfold aClear;rfl
 replace M3:zC _:=M3
 replace Mo:zC _:=Mo
 simp (disch:=omega) [go_sem]
 refine hK2.out _ ?_
 clear hK2 K2
 dsimp only[zD]
 refine hK.out _ ?_
 clear hK K
 repeat' (first|(refine zF fun K hK=>?_)|(refine zB fun K hK=>?_;simp (disch:=omega) [go_sem, *])|(apply zC.out hK;clear hK K;try with_reducible dsimp only[zD]))
 have M4:MapP (H3.upd m (some (.map clk [] []))) m [] clk []:=⟨zM _ _ _,rfl,List.nodup_nil,fun b hb=>by simp at hb⟩
 have Mo4:MapP (H3.upd m (some (.map clk [] []))) mo D clk bs:=⟨by rw[zG _ _ _ _ (by omega)];exact Mo.out.at_,Mo.out.len,Mo.out.nd,Mo.out.lt⟩
 have hf4:∀x,x < n→x≠m→(H3.upd m (some (.map clk [] []))) x=H x:=fun x h1 h2=>by rw[zG _ _ _ _ h2];exact hf3.out x h1
 rw[range_pairP Mo4]
 generalize H3.upd m (some (.map clk [] []))=H4 at *
 replace M4:zC _:=M4
 replace Mo4:zC _:=Mo4
 replace hf4:zC _:=hf4
 simp (disch:=omega) [go_sem]
 repeat' (first|(apply zC.out hK;clear hK K;try with_reducible dsimp only[zD])|(refine zJ ?_))
 obtain⟨it,hite⟩:∃it,it=n3 + 2 + 1:=⟨_,rfl⟩
 rw[←hite]
 have hitn:n + 1 + 3≤it∧it < n3 + 2 + 2∧it≠mo∧it≠m:=by omega
 obtain⟨Z,hZ1,hZ2⟩:=Mo4.out.z
 have hmoz:jX H4 mo clk Z:=by unfold jX;rw[hZ1,hZ2];exact Mo4.out.at_
 have hn0:(Z.map (·.1)).Nodup:=by rw[hZ1];exact Mo4.out.nd
 have hdz:(Z.map (·.2)).Nodup:=by rw[hZ2];exact hd.out
 have hlt:∀z ∈ Z,z.1 < clk:=fun z hz=>Mo4.out.lt _ (by rw[←hZ1];exact List.mem_map.2 ⟨z,hz,rfl⟩)
 obtain⟨sw,hsw⟩:∃f,f=swP l.person l.other:=⟨_,rfl⟩
 have hinj:∀p q,sw p=sw q→p=q:=by rw[hsw];exact swP_inj _ _ hne
 rw[←hsw]
 replace hn0:zC _:=hn0
 replace hdz:zC _:=hdz
 replace hlt:zC _:=hlt
 replace hZ1:zC _:=hZ1
 replace hZ2:zC _:=hZ2
 replace hinj:zC _:=hinj
 replace hsw:zC _:=hsw
 replace hne:zC _:=hne
 clear hclr hcl0 hf3 M3 Mo M
 replace hite:zC _:=hite
 refine za (fun s'=>∃(n':Nat) (seen:List Nat) (H':zI) (ck:Nat) (bt:List Nat) (E:List Pr),n3 + 2 + 2≤n'∧H' it=some (.iter mo clk clk seen)∧jX H' mo clk Z∧MapP H' m E ck bt∧E.Nodup∧(∀q,q ∈ E↔∃p,SeenZ Z seen p∧sw p=q)∧(∀x,x < n→x≠m→H' x=H x)∧
   s'=⟨33,[(0,.map m),(3,.fptr (zy l)),(10,.ptr it 0)],H',n'⟩)
  (fun s'=>Jq Z (ZG s'.h it)) ?_ ?_
 ·refine zb (by simp[go_sem]) (Sub.refl _) ⟨_,[],_,clk,[],[],?_,zM _ _ _,?_,⟨?_,rfl,List.nodup_nil,fun b hb=>by simp at hb⟩,List.nodup_nil,fun q=>⟨fun h=>by simp at h,fun ⟨p,h,_⟩=>absurd h (SeenZ_nil _ _)⟩,fun x h1 h2=>?_,rfl⟩
  ·omega
  ·unfold jX;rw[zG _ _ _ _ (by omega)];exact hmoz
  ·rw[zG _ _ _ _ (by omega)];exact M4.out.at_
  ·rw[zG _ _ _ _ (by omega)];exact hf4.out x h1 h2
 ·rintro s' ⟨n',seen,H',ck,bt,E,hn',hit,hmp,ME,hEn,hEm,hfr,rfl⟩
  replace hfr:zC _:=hfr
  replace ME:zC _:=ME
  replace hEn:zC _:=hEn
  replace hEm:zC _:=hEm
  refine zF fun K hK=>?_
  refine QK (it:=.tmp 10) (n:=it) (m:=mo) (since:=clk) (last:=clk) (clk:=clk) (seen:=seen) rfl rfl rfl rfl (by simp[go_sem]) hit hmp ?_ (Nat.le_refl _) (fun hall K3 hK3=>?_) (fun j b k v hj hbj hns K3 hK3=>?_)
  ·intro b hb
   obtain⟨z,hz,rfl⟩:=List.mem_map.1 hb
   exact hlt.out z hz
  ·have hfin:∃clk bs E,MapP H' m E clk bs∧E.Perm (D.map sw):=by
    refine⟨ck,bt,E,ME.out,?_⟩
    rw[List.perm_ext_iff_of_nodup hEn.out (nodup_map hinj.out hd.out)]
    intro q
    rw[hEm.out q,List.mem_map]
    constructor
    ·rintro⟨p,h1,h2⟩
     exact⟨p,by rw[←hZ2.out];exact (SeenZ_all hall p).1 h1,h2⟩
    ·rintro⟨p,h1,h2⟩
     exact⟨p,(SeenZ_all hall p).2 (by rw[hZ2.out];exact h1),h2⟩
   replace hfin:zC _:=hfin
   clear hall hmp hit
   simp (disch:=omega) [go_sem]
   refine hK3.out _ ?_
   clear hK3 K3
   dsimp only[zD]
   refine hK.out _ ?_
   clear hK K
   repeat' (first|(refine zF fun K hK=>?_)|(apply zC.out hf;clear ht hf Kt Kf)|(refine zU ?_;simp only[zD,zO,if_true])|(refine zH fun Kt Kf ht hf=>?_;simp (disch:=omega) [go_sem, *];try (refine⟨fun hc=>?_,fun hc=>?_⟩ <;> try (exfalso;omega))))
   refine⟨by simp,_,(by first | rfl|(simp (disch:=omega) [go_sem,zG] <;> rfl)),?_⟩
   refine zc ⟨by omega,rfl,hfin.out,hfr.out⟩
  ·obtain⟨p,hjz,rfl,rfl⟩:∃p,Z[j]? = some (b,p)∧k=Zm p∧v=bv true:=by
    rw[ents_get,List.getElem?_map] at hj
    rw[List.getElem?_map] at hbj
    cases hq:Z[j]? with
    | none=>rw[hq] at hj;cases hj
    | some z=>
     rw[hq] at hj hbj
     simp only[Option.map_some,Option.some.injEq,Prod.mk.injEq] at hj hbj
     exact⟨z.2,by rw[←hbj],hj.1.symm,hj.2.symm⟩
   have hzm:=List.mem_of_getElem? hjz
   have hmes:=leftZ_lt hzm hns
   have hnew:sw p ∉ E:=fun h=>by
    obtain⟨p',h1,h2⟩:=(hEm.out _).1 h
    rw[hinj.out _ _ h2] at h1
    exact SeenZ_not hdz.out hzm hns h1
   have hmemn:Zh E (sw p)=false:=by
    cases e:Zh E (sw p) with
    | false=>rfl
    | true=>exact absurd ((Zi _ _).1 e) hnew
   have hEn2:(E ++ [sw p]).Nodup:=by
    rw[List.nodup_append]
    refine⟨hEn.out,by simp,fun a ha c hc=>?_⟩
    rw[List.mem_singleton] at hc
    rintro rfl
    rw[hc] at ha;exact hnew ha
   have hEm2:∀q,q ∈ E ++ [sw p]↔∃p,SeenZ Z (seen ++ [b]) p∧sw p=q:=fun q=>by
    rw[List.mem_append,List.mem_singleton,hEm.out q]
    constructor
    ·rintro (⟨p',h1,h2⟩ | rfl)
     ·exact⟨p',(qQ hn0.out hzm p').2 (.inl h1),h2⟩
     ·exact⟨p,(qQ hn0.out hzm p).2 (.inr rfl),rfl⟩
    ·rintro⟨p',h1,h2⟩
     rcases (qQ hn0.out hzm p').1 h1 with h1 | rfl
     ·exact .inl ⟨p',h1,h2⟩
     ·exact .inr h2.symm
   have hit2:(H'.upd it (some (.iter mo clk clk (seen ++ [b])))) it=some (.iter mo clk clk (seen ++ [b])):=zM _ _ _
   have hmp2:jX (H'.upd it (some (.iter mo clk clk (seen ++ [b])))) mo clk Z:=by unfold jX;rw[zG _ _ _ _ (by omega)];exact hmp
   have ME2:MapP (H'.upd it (some (.iter mo clk clk (seen ++ [b])))) m E ck bt:=⟨by rw[zG _ _ _ _ (by omega)];exact ME.out.at_,ME.out.len,ME.out.nd,ME.out.lt⟩
   have hfr2:∀x,x < n→x≠m→(H'.upd it (some (.iter mo clk clk (seen ++ [b])))) x=H x:=fun x h1 h2=>by rw[zG _ _ _ _ (by omega)];exact hfr.out x h1 h2
   have hent:=Qr hit2 hmp2 hn0.out hjz
   rw[JC]
   simp only
   have hmes2:Jq Z (seen ++ [b]) < Jq Z (ZG H' it):=by
    have:ZG H' it=seen:=by unfold ZG;rw[hit]
    rw[this];exact hmes
   generalize H'.upd it (some (.iter mo clk clk (seen ++ [b])))=H5 at *
   replace hmes2:zC _:=hmes2
   replace hfr2:zC _:=hfr2
   replace hmp2:zC _:=hmp2
   replace ME2:zC _:=ME2
   replace hEn2:zC _:=hEn2
   replace hEm2:zC _:=hEm2
   replace hmemn:zC _:=hmemn
   clear hmp hj hbj hfr hEm hEn ME hns hmes hnew hzm hjz hit
   obtain⟨p1,p2⟩:=p
   simp only[keyA,zy] at hent ⊢
   simp (disch:=omega) [go_sem]
   refine hK3.out _ ?_
   clear hK3 K3
   dsimp only[zD]
   refine hK.out _ ?_
   clear hK K
   cases c1:(p2.toList == l.person.toList) with
   | true=>
    have esw:sw (p1,p2)=(p1,l.other):=by rw[hsw.out];simp only[swP,eqB,c1,if_true]
    rw[esw] at hmemn hEn2 hEm2
    repeat' (first|(refine zF fun K hK=>?_)|(refine zB fun K hK=>?_;simp (disch:=omega) [go_sem, *])|(apply zC.out hK;clear hK K;try with_reducible dsimp only[zD])|(apply zC.out ht;clear ht hf Kt Kf)|(refine zJ ?_)|(refine zK ?_;simp only[zD])|(refine zH fun Kt Kf ht hf=>?_;simp (disch:=omega) [go_sem, *];try (refine⟨fun hc=>?_,fun hc=>?_⟩ <;> try (exfalso;omega))))
    obtain⟨H6,hH6⟩:∃H6,H6=((H5.upd (n' + 2 + 2) (some (.cells [sv ByteArray.empty,sv ByteArray.empty]))).upd (n' + 2 + 2) (some (.cells [sv p1,sv p2]))).upd (n' + 2 + 2) (some (.cells [sv p1,sv l.other])):=⟨_,rfl⟩
    rw[←hH6]
    have hx6:∀x,x≠n' + 2 + 2→H6 x=H5 x:=fun x hx=>by rw[hH6];simp only[zG _ _ _ _ hx]
    have ME6:MapP H6 m E ck bt:=⟨by rw[hx6 m (by omega)];exact ME2.out.at_,ME2.out.len,ME2.out.nd,ME2.out.lt⟩
    obtain⟨ck',bt',hput,ME7⟩:=put_pair ME6 (p1,l.other)
    rw[hmemn.out] at hput ME7
    simp only[Bool.false_eq_true,if_false] at hput ME7
    simp only[keyA] at hput
    rw[hput]
    have hit7:(H6.upd m (some (.map ck' bt' (ents (E ++ [(p1,l.other)]))))) it=some (.iter mo clk clk (seen ++ [b])):=by rw[zG _ _ _ _ (by omega),hx6 it (by omega)];exact hit2
    have hmp7:jX (H6.upd m (some (.map ck' bt' (ents (E ++ [(p1,l.other)]))))) mo clk Z:=by unfold jX;rw[zG _ _ _ _ (by omega),hx6 mo (by omega)];exact hmp2.out
    have hfr7:∀x,x < n→x≠m→(H6.upd m (some (.map ck' bt' (ents (E ++ [(p1,l.other)]))))) x=H x:=fun x h1 h2=>by rw[zG _ _ _ _ h2,hx6 x (by omega)];exact hfr2.out x h1 h2
    generalize H6.upd m (some (.map ck' bt' (ents (E ++ [(p1,l.other)]))))=H7 at *
    replace hfr7:zC _:=hfr7
    replace hmp7:zC _:=hmp7
    replace ME7:zC _:=ME7
    clear hput hx6 hH6 ME6 hent hit2
    simp (disch:=omega) [go_sem]
    repeat' (first|(apply zC.out hK;clear hK K;try with_reducible dsimp only[zD]))
    refine zV (by simp[go_sem,zy]) (Sub.refl _) ⟨_,seen ++ [b],_,ck',bt',E ++ [(p1,l.other)],by omega,hit7,hmp7.out,ME7.out,hEn2.out,hEm2.out,hfr7.out,rfl⟩ ?_
    have e1:ZG H7 it=seen ++ [b]:=by unfold ZG;rw[hit7]
    simp only[e1];exact hmes2.out
   | false=>
    cases c2:(p2.toList == l.other.toList) with
    | true=>
     have esw:sw (p1,p2)=(p1,l.person):=by rw[hsw.out];simp[swP,eqB,c1,c2]
     rw[esw] at hmemn hEn2 hEm2
     repeat' (first|(refine zF fun K hK=>?_)|(refine zB fun K hK=>?_;simp (disch:=omega) [go_sem, *])|(apply zC.out hK;clear hK K;try with_reducible dsimp only[zD])|(apply zC.out ht;clear ht hf Kt Kf)|(apply zC.out hf;clear ht hf Kt Kf)|(refine zJ ?_)|(refine zK ?_;simp only[zD])|(refine zH fun Kt Kf ht hf=>?_;simp (disch:=omega) [go_sem, *];try (refine⟨fun hc=>?_,fun hc=>?_⟩ <;> try (exfalso;omega))))
     obtain⟨H6,hH6⟩:∃H6,H6=((H5.upd (n' + 2 + 2) (some (.cells [sv ByteArray.empty,sv ByteArray.empty]))).upd (n' + 2 + 2) (some (.cells [sv p1,sv p2]))).upd (n' + 2 + 2) (some (.cells [sv p1,sv l.person])):=⟨_,rfl⟩
     rw[←hH6]
     have hx6:∀x,x≠n' + 2 + 2→H6 x=H5 x:=fun x hx=>by rw[hH6];simp only[zG _ _ _ _ hx]
     have ME6:MapP H6 m E ck bt:=⟨by rw[hx6 m (by omega)];exact ME2.out.at_,ME2.out.len,ME2.out.nd,ME2.out.lt⟩
     obtain⟨ck',bt',hput,ME7⟩:=put_pair ME6 (p1,l.person)
     rw[hmemn.out] at hput ME7
     simp only[Bool.false_eq_true,if_false] at hput ME7
     simp only[keyA] at hput
     rw[hput]
     have hit7:(H6.upd m (some (.map ck' bt' (ents (E ++ [(p1,l.person)]))))) it=some (.iter mo clk clk (seen ++ [b])):=by rw[zG _ _ _ _ (by omega),hx6 it (by omega)];exact hit2
     have hmp7:jX (H6.upd m (some (.map ck' bt' (ents (E ++ [(p1,l.person)]))))) mo clk Z:=by unfold jX;rw[zG _ _ _ _ (by omega),hx6 mo (by omega)];exact hmp2.out
     have hfr7:∀x,x < n→x≠m→(H6.upd m (some (.map ck' bt' (ents (E ++ [(p1,l.person)]))))) x=H x:=fun x h1 h2=>by rw[zG _ _ _ _ h2,hx6 x (by omega)];exact hfr2.out x h1 h2
     generalize H6.upd m (some (.map ck' bt' (ents (E ++ [(p1,l.person)]))))=H7 at *
     replace hfr7:zC _:=hfr7
     replace hmp7:zC _:=hmp7
     replace ME7:zC _:=ME7
     clear hput hx6 hH6 ME6 hent hit2
     simp (disch:=omega) [go_sem]
     repeat' (first|(apply zC.out hK;clear hK K;try with_reducible dsimp only[zD]))
     refine zV (by simp[go_sem,zy]) (Sub.refl _) ⟨_,seen ++ [b],_,ck',bt',E ++ [(p1,l.person)],by omega,hit7,hmp7.out,ME7.out,hEn2.out,hEm2.out,hfr7.out,rfl⟩ ?_
     have e1:ZG H7 it=seen ++ [b]:=by unfold ZG;rw[hit7]
     simp only[e1];exact hmes2.out
    | false=>
     have esw:sw (p1,p2)=(p1,p2):=by rw[hsw.out];simp[swP,eqB,c1,c2]
     rw[esw] at hmemn hEn2 hEm2
     repeat' (first|(refine zF fun K hK=>?_)|(refine zB fun K hK=>?_;simp (disch:=omega) [go_sem, *])|(apply zC.out hK;clear hK K;try with_reducible dsimp only[zD])|(apply zC.out ht;clear ht hf Kt Kf)|(apply zC.out hf;clear ht hf Kt Kf)|(refine zJ ?_)|(refine zK ?_;simp only[zD,zO])|(refine zH fun Kt Kf ht hf=>?_;simp (disch:=omega) [go_sem, *];try (refine⟨fun hc=>?_,fun hc=>?_⟩ <;> try (exfalso;omega))))
     obtain⟨H6,hH6⟩:∃H6,H6=(H5.upd (n' + 2 + 2) (some (.cells [sv ByteArray.empty,sv ByteArray.empty]))).upd (n' + 2 + 2) (some (.cells [sv p1,sv p2])):=⟨_,rfl⟩
     rw[←hH6]
     have hx6:∀x,x≠n' + 2 + 2→H6 x=H5 x:=fun x hx=>by rw[hH6];simp only[zG _ _ _ _ hx]
     have ME6:MapP H6 m E ck bt:=⟨by rw[hx6 m (by omega)];exact ME2.out.at_,ME2.out.len,ME2.out.nd,ME2.out.lt⟩
     obtain⟨ck',bt',hput,ME7⟩:=put_pair ME6 (p1,p2)
     rw[hmemn.out] at hput ME7
     simp only[Bool.false_eq_true,if_false] at hput ME7
     simp only[keyA] at hput
     rw[hput]
     have hit7:(H6.upd m (some (.map ck' bt' (ents (E ++ [(p1,p2)]))))) it=some (.iter mo clk clk (seen ++ [b])):=by rw[zG _ _ _ _ (by omega),hx6 it (by omega)];exact hit2
     have hmp7:jX (H6.upd m (some (.map ck' bt' (ents (E ++ [(p1,p2)]))))) mo clk Z:=by unfold jX;rw[zG _ _ _ _ (by omega),hx6 mo (by omega)];exact hmp2.out
     have hfr7:∀x,x < n→x≠m→(H6.upd m (some (.map ck' bt' (ents (E ++ [(p1,p2)]))))) x=H x:=fun x h1 h2=>by rw[zG _ _ _ _ h2,hx6 x (by omega)];exact hfr2.out x h1 h2
     generalize H6.upd m (some (.map ck' bt' (ents (E ++ [(p1,p2)]))))=H7 at *
     replace hfr7:zC _:=hfr7
     replace hmp7:zC _:=hmp7
     replace ME7:zC _:=ME7
     clear hput hx6 hH6 ME6 hent hit2
     simp (disch:=omega) [go_sem]
     repeat' (first|(apply zC.out hK;clear hK K;try with_reducible dsimp only[zD]))
     refine zV (by simp[go_sem,zy]) (Sub.refl _) ⟨_,seen ++ [b],_,ck',bt',E ++ [(p1,p2)],by omega,hit7,hmp7.out,ME7.out,hEn2.out,hEm2.out,hfr7.out,rfl⟩ ?_
     have e1:ZG H7 it=seen ++ [b]:=by unfold ZG;rw[hit7]
     simp only[e1];exact hmes2.out
end Go.AM
