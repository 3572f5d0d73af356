/- Letters, digits, words. Conditions: as each theorem says. -/
import Derived.Test.YtkbgmkhdjmkpdaaGreatDoorTa
namespace Go.AM
open Go.Proofs Cw
set_option maxRecDepth 10000
set_option maxHeartbeats 4000000
def jv (u:Nat):Bool:=decide (97≤u) && decide (u≤122)
def JI (u:Nat):Bool:=decide (48≤u) && decide (u≤57)
def plnb (u:Nat):Bool:=jv u || JI u
theorem letter135 (u:Nat):zJ Tryz.prog 104 [iv .u8 u] (bv (jv u)):=by
 intro h n
 refine zQ.pure (zQ.entry (by kernel_rfl) fun hb _=>zV Tryz.func104 rfl (by kernel_rfl) (by simp[Tryz.ntmps104]) ?_)
 by_cases h1:97≤u <;> by_cases h2:u≤122
 ·have:jv u=true:=by simp[jv,h1,h2]
  rw[this];clear this
  repeat' (first|(refine zD fun K hK=>?_)|(refine zA fun K hK=>?_;simp (disch:=omega) [go_sem, *,zO,Tryz.ntmps104])|(apply zB.out hK;clear hK K;try with_reducible dsimp only[zC]))
  exact zR
 ·have:jv u=false:=by simp[jv,h1,h2]
  rw[this];clear this
  repeat' (first|(refine zD fun K hK=>?_)|(refine zA fun K hK=>?_;simp (disch:=omega) [go_sem, *,zO,ze,Tryz.ntmps104])|(apply zB.out hK;clear hK K;try with_reducible dsimp only[zC]))
  exact zR
 ·have:jv u=false:=by simp[jv,h1,h2]
  rw[this];clear this
  repeat' (first|(refine zD fun K hK=>?_)|(refine zA fun K hK=>?_;simp (disch:=omega) [go_sem, *,ze,Tryz.ntmps104])|(apply zB.out hK;clear hK K;try with_reducible dsimp only[zC]))
  exact zR
 ·have:jv u=false:=by simp[jv,h1,h2]
  rw[this];clear this
  repeat' (first|(refine zD fun K hK=>?_)|(refine zA fun K hK=>?_;simp (disch:=omega) [go_sem, *,zO,Tryz.ntmps104])|(apply zB.out hK;clear hK K;try with_reducible dsimp only[zC]))
  exact zR
theorem digit158 (u:Nat):zJ Tryz.prog 153 [iv .u8 u] (bv (JI u)):=by
 intro h n
 refine zQ.pure (zQ.entry (by kernel_rfl) fun hb _=>zV Tryz.func153 rfl (by kernel_rfl) (by simp[Tryz.ntmps153]) ?_)
 by_cases h1:48≤u <;> by_cases h2:u≤57
 ·have:JI u=true:=by simp[JI,h1,h2]
  rw[this];clear this
  repeat' (first|(refine zD fun K hK=>?_)|(refine zA fun K hK=>?_;simp (disch:=omega) [go_sem, *,zO,Tryz.ntmps153])|(apply zB.out hK;clear hK K;try with_reducible dsimp only[zC]))
  exact zR
 ·have:JI u=false:=by simp[JI,h1,h2]
  rw[this];clear this
  repeat' (first|(refine zD fun K hK=>?_)|(refine zA fun K hK=>?_;simp (disch:=omega) [go_sem, *,zO,ze,Tryz.ntmps153])|(apply zB.out hK;clear hK K;try with_reducible dsimp only[zC]))
  exact zR
 ·have:JI u=false:=by simp[JI,h1,h2]
  rw[this];clear this
  repeat' (first|(refine zD fun K hK=>?_)|(refine zA fun K hK=>?_;simp (disch:=omega) [go_sem, *,ze,Tryz.ntmps153])|(apply zB.out hK;clear hK K;try with_reducible dsimp only[zC]))
  exact zR
 ·have:JI u=false:=by simp[JI,h1,h2]
  rw[this];clear this
  repeat' (first|(refine zD fun K hK=>?_)|(refine zA fun K hK=>?_;simp (disch:=omega) [go_sem, *,zO,Tryz.ntmps153])|(apply zB.out hK;clear hK K;try with_reducible dsimp only[zC]))
  exact zR
theorem letter181 (u:Nat):zJ Tryz.prog 108 [iv .u8 u] (bv (jv u)):=by
 intro h n
 refine zQ.pure (zQ.entry (by kernel_rfl) fun hb _=>zV Tryz.func108 rfl (by kernel_rfl) (by simp[Tryz.ntmps108]) ?_)
 by_cases h1:97≤u <;> by_cases h2:u≤122
 ·have:jv u=true:=by simp[jv,h1,h2]
  rw[this];clear this
  repeat' (first|(refine zD fun K hK=>?_)|(refine zA fun K hK=>?_;simp (disch:=omega) [go_sem, *,zO,Tryz.ntmps108])|(apply zB.out hK;clear hK K;try with_reducible dsimp only[zC]))
  exact zR
 ·have:jv u=false:=by simp[jv,h1,h2]
  rw[this];clear this
  repeat' (first|(refine zD fun K hK=>?_)|(refine zA fun K hK=>?_;simp (disch:=omega) [go_sem, *,zO,ze,Tryz.ntmps108])|(apply zB.out hK;clear hK K;try with_reducible dsimp only[zC]))
  exact zR
 ·have:jv u=false:=by simp[jv,h1,h2]
  rw[this];clear this
  repeat' (first|(refine zD fun K hK=>?_)|(refine zA fun K hK=>?_;simp (disch:=omega) [go_sem, *,ze,Tryz.ntmps108])|(apply zB.out hK;clear hK K;try with_reducible dsimp only[zC]))
  exact zR
 ·have:jv u=false:=by simp[jv,h1,h2]
  rw[this];clear this
  repeat' (first|(refine zD fun K hK=>?_)|(refine zA fun K hK=>?_;simp (disch:=omega) [go_sem, *,zO,Tryz.ntmps108])|(apply zB.out hK;clear hK K;try with_reducible dsimp only[zC]))
  exact zR
theorem digit230 (u:Nat):zJ Tryz.prog 155 [iv .u8 u] (bv (JI u)):=by
 intro h n
 refine zQ.pure (zQ.entry (by kernel_rfl) fun hb _=>zV Tryz.func155 rfl (by kernel_rfl) (by simp[Tryz.ntmps155]) ?_)
 by_cases h1:48≤u <;> by_cases h2:u≤57
 ·have:JI u=true:=by simp[JI,h1,h2]
  rw[this];clear this
  repeat' (first|(refine zD fun K hK=>?_)|(refine zA fun K hK=>?_;simp (disch:=omega) [go_sem, *,zO,Tryz.ntmps155])|(apply zB.out hK;clear hK K;try with_reducible dsimp only[zC]))
  exact zR
 ·have:JI u=false:=by simp[JI,h1,h2]
  rw[this];clear this
  repeat' (first|(refine zD fun K hK=>?_)|(refine zA fun K hK=>?_;simp (disch:=omega) [go_sem, *,zO,ze,Tryz.ntmps155])|(apply zB.out hK;clear hK K;try with_reducible dsimp only[zC]))
  exact zR
 ·have:JI u=false:=by simp[JI,h1,h2]
  rw[this];clear this
  repeat' (first|(refine zD fun K hK=>?_)|(refine zA fun K hK=>?_;simp (disch:=omega) [go_sem, *,ze,Tryz.ntmps155])|(apply zB.out hK;clear hK K;try with_reducible dsimp only[zC]))
  exact zR
 ·have:JI u=false:=by simp[JI,h1,h2]
  rw[this];clear this
  repeat' (first|(refine zD fun K hK=>?_)|(refine zA fun K hK=>?_;simp (disch:=omega) [go_sem, *,zO,Tryz.ntmps155])|(apply zB.out hK;clear hK K;try with_reducible dsimp only[zC]))
  exact zR
theorem plain137 (u:Nat):zJ Tryz.prog 106 [iv .u8 u] (bv (plnb u)):=by
 intro h n
 have k1:=letter135 u
 have k2:=digit158 u
 refine zQ.pure (zQ.entry (by kernel_rfl) fun hb _=>zV Tryz.func106 rfl (by kernel_rfl) (by simp[Tryz.ntmps106]) ?_)
 unfold plnb
 generalize jv u=x at *
 generalize JI u=y at *
 cases x <;> cases y
 all_goals simp only[Bool.or_true,Bool.or_false]
 all_goals repeat' (first|(refine zD fun K hK=>?_)|(refine zA fun K hK=>?_;simp (disch:=omega) [go_sem, *,Tryz.ntmps106])|(apply zB.out hK;clear hK K;try with_reducible dsimp only[zC])|(with_reducible refine zJ.gcall (k1) ?_;try simp (disch:=omega) [go_sem, *])|(with_reducible refine zJ.gcall (k2) ?_;try simp (disch:=omega) [go_sem, *]))
 all_goals exact zR
end Go.AM
namespace Go.AM
open Go.Proofs Cw
set_option maxRecDepth 10000
set_option maxHeartbeats 4000000
def runE (s:ByteArray):Nat:=(s.data.toList.takeWhile fun u=>plnb u.toNat).length
theorem je {α:Type} (p:α→Bool):∀(l:List α) (i:Nat),i≤l.length→(∀j x,j < i→l[j]? = some x→p x=true)→(∀x,l[i]? = some x→p x=false)→(l.takeWhile p).length=i
 | [],i,h,_,_=>by simp at h;subst h;rfl
 | y :: r,0,_,_,h2=>by
  have:=h2 y (by simp)
  simp[List.takeWhile,this]
 | y :: r,i + 1,h,h1,h2=>by
  have:=h1 0 y (by omega) (by simp)
  simp only[List.takeWhile,this,List.length_cons]
  rw[je p r i (by simpa using h) (fun j x hj hx=>h1 (j + 1) x (by omega) (by simpa using hx)) (fun x hx=>h2 x (by simpa using hx))]
theorem run136 (s:ByteArray) (hl:s.size≤1000000):zJ Tryz.prog 105 [sv s,iv .i64 0,.func (.func 106) [] []] (iv .i64 (runE s)):=by
 intro h n
 refine zQ.pure (zQ.entry (by kernel_rfl) fun hb _=>zV Tryz.func105 rfl (by kernel_rfl) (by simp[Tryz.ntmps105]) ?_)
 obtain⟨T,hT⟩:∃T,zB (T=runE s):=⟨_,rfl⟩
 rw[←hT.out]
 repeat' (first|(refine zD fun K hK=>?_)|(refine zA fun K hK=>?_;simp (disch:=omega) [go_sem, *,Tryz.ntmps105])|(apply zB.out hK;clear hK K;try with_reducible dsimp only[zC])|(refine zI ?_))
 refine zW (fun s'=>∃(i:Nat) (n':Nat),n≤n'∧i≤s.size∧(∀j (x:UInt8),j < i→s.data.toList[j]? = some x→plnb x.toNat=true)∧s'=⟨21,[(0,sv s),(1,iv .i64 i),(2,.func (.func 106) [] [])],h,n'⟩)
   (fun s'=>s.size - (zY s' 1).toNat) ?_ ?_
 ·exact zX (by simp[go_sem, *]) (Sub.refl _) ⟨0,_,by omega,by omega,fun j x hj=>by omega,rfl⟩
 ·rintro s' ⟨i,n',hn',hi,hall,rfl⟩
  replace hall:zB _:=hall
  by_cases hlt:i < s.size
  ·obtain⟨x,hx⟩:∃x,s[i]=x:=⟨_,rfl⟩
   have hxl:s.data.toList[i]? = some x:=by
    have hz:i < s.data.toList.length:=by rw[Array.length_toList];exact hlt
    rw[List.getElem?_eq_getElem hz,←hx];rfl
   have k1:=plain137 x.toNat
   cases hp:plnb x.toNat with
   | true=>
    rw[hp] at k1
    replace hp:zB _:=hp
    replace hxl:zB _:=hxl
    repeat' (first|(refine zD fun K hK=>?_)|(refine zA fun K hK=>?_;simp (disch:=omega) [go_sem, *,zM,zN,zO])|(apply zB.out hK;clear hK K;try with_reducible dsimp only[zC])|(apply zB.out ht;clear ht hf Kt Kf)|(with_reducible refine zJ.gcall (k1) ?_;try simp (disch:=omega) [go_sem, *])|(refine zI ?_)|(refine zK ?_;simp only[zC])|(refine zF fun Kt Kf ht hf=>?_;simp (disch:=omega) [go_sem, *];try (refine⟨fun hc=>?_,fun hc=>?_⟩ <;> try (exfalso;omega))))
    exact zS (by simp (disch:=omega) [go_sem]) (Sub.refl _) ⟨i + 1,_,by omega,by omega,fun j y hj hy=>by
     rcases Nat.lt_or_ge j i with h1 | h1
     ·exact hall.out j y h1 hy
     ·have:j=i:=by omega
      subst this
      rw[hxl.out] at hy;cases hy;exact hp.out,rfl⟩ (by simp[zY,go_sem];omega)
   | false=>
    rw[hp] at k1
    have hTi:T=i:=by
     rw[hT.out]
     exact je _ _ i (by rw[Array.length_toList];exact hi) hall.out fun y hy=>by rw[hxl] at hy;cases hy;exact hp
    subst hTi
    replace hp:zB _:=hp
    replace hxl:zB _:=hxl
    repeat' (first|(refine zD fun K hK=>?_)|(refine zA fun K hK=>?_;simp (disch:=omega) [go_sem, *,zN,zO])|(apply zB.out hK;clear hK K;try with_reducible dsimp only[zC])|(apply zB.out hf;clear ht hf Kt Kf)|(clear hK K;apply zB.out hK;clear hK K;try with_reducible dsimp only[zC])|(with_reducible refine zJ.gcall (k1) ?_;try simp (disch:=omega) [go_sem, *])|(refine zT ?_;simp only[zC,zP,if_true])|(refine zF fun Kt Kf ht hf=>?_;simp (disch:=omega) [go_sem, *];try (refine⟨fun hc=>?_,fun hc=>?_⟩ <;> try (exfalso;omega))))
    exact zR
  ·have hii:i=s.size:=by omega
   have hTi:T=i:=by
    rw[hT.out]
    exact je _ _ i (by rw[Array.length_toList];exact hi) hall.out fun y hy=>by
     rw[List.getElem?_eq_none (by rw[Array.length_toList];show s.size≤i;omega)] at hy;cases hy
   subst hTi
   repeat' (first|(refine zD fun K hK=>?_)|(refine zA fun K hK=>?_;simp (disch:=omega) [go_sem, *])|(apply zB.out hK;clear hK K;try with_reducible dsimp only[zC])|(apply zB.out hf;clear ht hf Kt Kf)|(clear hK K;apply zB.out hK;clear hK K;try with_reducible dsimp only[zC])|(refine zT ?_;simp only[zC,zP,if_true])|(refine zF fun Kt Kf ht hf=>?_;simp (disch:=omega) [go_sem, *];try (refine⟨fun hc=>?_,fun hc=>?_⟩ <;> try (exfalso;omega))))
   exact zR
theorem end183 (s:ByteArray) (hl:s.size≤1000000):zJ Tryz.prog 110 [sv s,iv .i64 0] (iv .i64 (runE s)):=by
 intro h n
 refine zQ.pure (zQ.entry (by kernel_rfl) fun hb _=>zV Tryz.func110 rfl (by kernel_rfl) (by simp[Tryz.ntmps110]) ?_)
 obtain⟨T,hT⟩:∃T,zB (T=runE s):=⟨_,rfl⟩
 rw[←hT.out]
 repeat' (first|(refine zD fun K hK=>?_)|(refine zA fun K hK=>?_;simp (disch:=omega) [go_sem, *,Tryz.ntmps110])|(apply zB.out hK;clear hK K;try with_reducible dsimp only[zC])|(refine zI ?_))
 refine zW (fun s'=>∃(i:Nat) (n':Nat),n≤n'∧i≤s.size∧(∀j (x:UInt8),j < i→s.data.toList[j]? = some x→plnb x.toNat=true)∧s'=⟨24,[(0,sv s),(1,iv .i64 i)],h,n'⟩)
   (fun s'=>s.size - (zY s' 1).toNat) ?_ ?_
 ·exact zX (by simp[go_sem, *]) (Sub.refl _) ⟨0,_,by omega,by omega,fun j x hj=>by omega,rfl⟩
 ·rintro s' ⟨i,n',hn',hi,hall,rfl⟩
  replace hall:zB _:=hall
  by_cases hlt:i < s.size
  ·obtain⟨x,hx⟩:∃x,s[i]=x:=⟨_,rfl⟩
   have hxl:s.data.toList[i]? = some x:=by
    have hz:i < s.data.toList.length:=by rw[Array.length_toList];exact hlt
    rw[List.getElem?_eq_getElem hz,←hx];rfl
   have k1:=letter181 x.toNat
   have k2:=digit230 x.toNat
   have hpl:plnb x.toNat=(jv x.toNat || JI x.toNat):=rfl
   cases h1:jv x.toNat <;> cases h2:JI x.toNat
   all_goals rw[h1] at k1
   all_goals rw[h2] at k2
   all_goals rw[h1,h2] at hpl
   ·have hTi:T=i:=by
     rw[hT.out]
     exact je _ _ i (by rw[Array.length_toList];exact hi) hall.out fun y hy=>by rw[hxl] at hy;cases hy;exact hpl
    subst hTi
    clear hpl hxl h1 h2
    repeat' (first|(refine zD fun K hK=>?_)|(refine zA fun K hK=>?_;simp (disch:=omega) [go_sem, *,zN,zO])|(apply zB.out hK;clear hK K;try with_reducible dsimp only[zC])|(apply zB.out hf;clear ht hf Kt Kf)|(clear hK K;apply zB.out hK;clear hK K;try with_reducible dsimp only[zC])|(with_reducible refine zJ.gcall (k1) ?_;try simp (disch:=omega) [go_sem, *,zO])|(with_reducible refine zJ.gcall (k2) ?_;try simp (disch:=omega) [go_sem, *])|(refine zT ?_;simp only[zC,zP,if_true])|(refine zF fun Kt Kf ht hf=>?_;simp (disch:=omega) [go_sem, *];try (refine⟨fun hc=>?_,fun hc=>?_⟩ <;> try (exfalso;omega))))
    exact zR
   all_goals replace hpl:zB (plnb x.toNat=true):=hpl
   all_goals replace hxl:zB _:=hxl
   all_goals clear h1 h2
   all_goals repeat' (first|(refine zD fun K hK=>?_)|(refine zA fun K hK=>?_;simp (disch:=omega) [go_sem, *,zM,zN,zO])|(apply zB.out hK;clear hK K;try with_reducible dsimp only[zC])|(apply zB.out ht;clear ht hf Kt Kf)|(with_reducible refine zJ.gcall (k1) ?_;try simp (disch:=omega) [go_sem, *,zO])|(with_reducible refine zJ.gcall (k2) ?_;try simp (disch:=omega) [go_sem, *])|(refine zI ?_)|(refine zK ?_;simp only[zC])|(refine zF fun Kt Kf ht hf=>?_;simp (disch:=omega) [go_sem, *];try (refine⟨fun hc=>?_,fun hc=>?_⟩ <;> try (exfalso;omega))))
   all_goals exact zS (by simp (disch:=omega) [go_sem]) (Sub.refl _) ⟨i + 1,_,by omega,by omega,fun j y hj hy=>by
     rcases Nat.lt_or_ge j i with h1 | h1
     ·exact hall.out j y h1 hy
     ·have:j=i:=by omega
      subst this
      rw[hxl.out] at hy;cases hy;exact hpl.out,rfl⟩ (by simp[zY,go_sem];omega)
  ·have hii:i=s.size:=by omega
   have hTi:T=i:=by
    rw[hT.out]
    exact je _ _ i (by rw[Array.length_toList];exact hi) hall.out fun y hy=>by
     rw[List.getElem?_eq_none (by rw[Array.length_toList];show s.size≤i;omega)] at hy;cases hy
   subst hTi
   repeat' (first|(refine zD fun K hK=>?_)|(refine zA fun K hK=>?_;simp (disch:=omega) [go_sem, *])|(apply zB.out hK;clear hK K;try with_reducible dsimp only[zC])|(apply zB.out hf;clear ht hf Kt Kf)|(clear hK K;apply zB.out hK;clear hK K;try with_reducible dsimp only[zC])|(refine zT ?_;simp only[zC,zP,if_true])|(refine zF fun Kt Kf ht hf=>?_;simp (disch:=omega) [go_sem, *];try (refine⟨fun hc=>?_,fun hc=>?_⟩ <;> try (exfalso;omega))))
   exact zR
end Go.AM
namespace Go.AM
open Go.Proofs Cw
set_option maxRecDepth 10000
set_option maxHeartbeats 4000000
def Q5 (w:ByteArray):List ByteArray→Nat→Int
 | [],_=>-1
 | x :: r,i=>if (w.toList == x.toList)=true then i else Q5 w r (i + 1)
def inS (w:ByteArray) (l:List ByteArray):Bool:=l.any fun x=>w.toList == x.toList
theorem idxS_iff (w:ByteArray):∀(l:List ByteArray) (i:Nat),0≤Q5 w l i↔inS w l=true
 | [],_=>by simp[Q5,inS]
 | x :: r,i=>by
  have ih:=idxS_iff w r (i + 1)
  have e:inS w (x :: r)=((w.toList == x.toList) || inS w r):=rfl
  rw[e]
  by_cases hx:(w.toList == x.toList)=true
  ·have e1:Q5 w (x :: r) i=i:=by rw[Q5,if_pos hx]
   rw[e1,hx];simp
  ·have e1:Q5 w (x :: r) i=Q5 w r (i + 1):=by rw[Q5,if_neg hx]
   rw[e1,ih];simp only[Bool.not_eq_true] at hx;rw[hx];simp
theorem idxS_in (w:ByteArray) (l:List ByteArray) (i:Nat):decide (Q5 w l i ≥ 0)=inS w l:=by
 rw[Bool.eq_iff_iff,decide_eq_true_eq];exact idxS_iff w l i
theorem index139 (nl fu:Bool) (l:List ByteArray) (w:ByteArray) (hl:l.length≤100000):zJ Tryz.prog 112 [.fslc nl fu 1 (l.map sv),sv w] (iv .i64 (Q5 w l 0)):=by
 intro h n
 refine zQ.pure (zQ.entry (by kernel_rfl) fun hb _=>zV Tryz.func112 rfl (by kernel_rfl) (by simp[Tryz.ntmps112]) ?_)
 obtain⟨T,hT⟩:∃T,zB (T=Q5 w l 0):=⟨_,rfl⟩
 rw[←hT.out]
 repeat' (first|(refine zD fun K hK=>?_)|(refine zA fun K hK=>?_;simp (disch:=omega) [go_sem, *,Tryz.ntmps112])|(apply zB.out hK;clear hK K;try with_reducible dsimp only[zC])|(refine zI ?_))
 refine zW (fun s'=>∃(i:Nat) (n':Nat),n≤n'∧i≤l.length∧Q5 w (l.drop i) i=T∧s'=⟨19,[(0,.fslc nl fu 1 (l.map sv)),(1,sv w),(7,iv .i64 l.length),(8,iv .i64 i)],h,n'⟩)
   (fun s'=>l.length - (zY s' 8).toNat) ?_ ?_
 ·exact zX (by simp[go_sem, *]) (Sub.refl _) ⟨0,_,by omega,by omega,by rw[hT.out];rfl,rfl⟩
 ·rintro s' ⟨i,n',hn',hi,hc,rfl⟩
  by_cases hlt:i < l.length
  ·obtain⟨x,hx⟩:∃x,l[i]=x:=⟨_,rfl⟩
   have hdr:l.drop i=x :: l.drop (i + 1):=by rw[List.drop_eq_getElem_cons hlt,hx]
   rw[hdr,Q5] at hc
   clear hdr
   cases he:(w.toList == x.toList) with
   | true=>
    rw[he,if_pos rfl] at hc
    subst hc
    repeat' (first|(refine zD fun K hK=>?_)|(refine zA fun K hK=>?_;simp (disch:=omega) [go_sem, *,zN,zO])|(apply zB.out hK;clear hK K;try with_reducible dsimp only[zC])|(apply zB.out ht;clear ht hf Kt Kf)|(refine zI ?_)|(refine zK ?_;simp only[zC])|(refine zF fun Kt Kf ht hf=>?_;simp (disch:=omega) [go_sem, *];try (refine⟨fun hc=>?_,fun hc=>?_⟩ <;> try (exfalso;omega))))
    exact zR
   | false=>
    rw[he,if_neg (by simp)] at hc
    replace hc:zB _:=hc
    repeat' (first|(refine zD fun K hK=>?_)|(refine zA fun K hK=>?_;simp (disch:=omega) [go_sem, *,zM,zN,zO])|(apply zB.out hK;clear hK K;try with_reducible dsimp only[zC])|(apply zB.out ht;clear ht hf Kt Kf)|(apply zB.out hf;clear ht hf Kt Kf)|(refine zI ?_)|(refine zK ?_;simp only[zC,zP])|(refine zF fun Kt Kf ht hf=>?_;simp (disch:=omega) [go_sem, *];try (refine⟨fun hc=>?_,fun hc=>?_⟩ <;> try (exfalso;omega))))
    exact zS (by simp (disch:=omega) [go_sem]) (Sub.refl _) ⟨i + 1,_,by omega,by omega,hc.out,rfl⟩ (by simp[zY,go_sem];omega)
  ·rw[List.drop_eq_nil_of_le (by omega),Q5] at hc
   subst hc
   repeat' (first|(refine zD fun K hK=>?_)|(refine zA fun K hK=>?_;simp (disch:=omega) [go_sem, *,zU])|(apply zB.out hK;clear hK K;try with_reducible dsimp only[zC])|(apply zB.out hf;clear ht hf Kt Kf)|(clear hK K;apply zB.out hK;clear hK K;try with_reducible dsimp only[zC])|(refine zT ?_;simp only[zC,zP,if_true])|(refine zF fun Kt Kf ht hf=>?_;simp (disch:=omega) [go_sem, *];try (refine⟨fun hc=>?_,fun hc=>?_⟩ <;> try (exfalso;omega))))
   exact zR
theorem contains84 (nl fu:Bool) (l:List ByteArray) (w:ByteArray) (hl:l.length≤100000):zJ Tryz.prog 52 [.fslc nl fu 1 (l.map sv),sv w] (bv (inS w l)):=by
 intro h n
 have k1:=index139 nl fu l w hl
 have e:=idxS_in w l 0
 refine zQ.pure (zQ.entry (by kernel_rfl) fun hb _=>zV Tryz.func52 rfl (by kernel_rfl) (by simp[Tryz.ntmps52]) ?_)
 rw[←e]
 clear e
 generalize Q5 w l 0=j at *
 repeat' (first|(refine zD fun K hK=>?_)|(refine zA fun K hK=>?_;simp (disch:=omega) [go_sem, *,Tryz.ntmps52])|(apply zB.out hK;clear hK K;try with_reducible dsimp only[zC])|(with_reducible refine zJ.gcall (k1) ?_;try simp (disch:=omega) [go_sem, *]))
 exact zR
end Go.AM
