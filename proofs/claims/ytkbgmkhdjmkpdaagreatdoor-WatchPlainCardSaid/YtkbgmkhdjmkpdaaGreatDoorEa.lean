/- Letters, digits, words. Conditions: as each theorem says. -/
import Derived.Test.YtkbgmkhdjmkpdaaGreatDoorTa
namespace Go.AM
open Go.Proofs Cw
set_option maxRecDepth 10000
set_option maxHeartbeats 4000000
def j5 (u:Nat):Bool:=decide (97≤u) && decide (u≤122)
def JP (u:Nat):Bool:=decide (48≤u) && decide (u≤57)
def plnb (u:Nat):Bool:=j5 u || JP u
theorem letter135 (u:Nat):zL Tryz.prog 104 [iv .u8 u] (bv (j5 u)):=by
 intro h n
 refine zS.pure (zS.entry (by kernel_rfl) fun hb _=>zX Tryz.func104 rfl (by kernel_rfl) (by simp[Tryz.ntmps104]) ?_)
 by_cases h1:97≤u <;> by_cases h2:u≤122
 ·have:j5 u=true:=by simp[j5,h1,h2]
  rw[this];clear this
  repeat' (first|(refine zF fun K hK=>?_)|(refine zB fun K hK=>?_;simp (disch:=omega) [go_sem, *,zP,Tryz.ntmps104])|(apply zC.out hK;clear hK K;try with_reducible dsimp only[zD]))
  exact zR
 ·have:j5 u=false:=by simp[j5,h1,h2]
  rw[this];clear this
  repeat' (first|(refine zF fun K hK=>?_)|(refine zB fun K hK=>?_;simp (disch:=omega) [go_sem, *,zP,zk,Tryz.ntmps104])|(apply zC.out hK;clear hK K;try with_reducible dsimp only[zD]))
  exact zR
 ·have:j5 u=false:=by simp[j5,h1,h2]
  rw[this];clear this
  repeat' (first|(refine zF fun K hK=>?_)|(refine zB fun K hK=>?_;simp (disch:=omega) [go_sem, *,zk,Tryz.ntmps104])|(apply zC.out hK;clear hK K;try with_reducible dsimp only[zD]))
  exact zR
 ·have:j5 u=false:=by simp[j5,h1,h2]
  rw[this];clear this
  repeat' (first|(refine zF fun K hK=>?_)|(refine zB fun K hK=>?_;simp (disch:=omega) [go_sem, *,zP,Tryz.ntmps104])|(apply zC.out hK;clear hK K;try with_reducible dsimp only[zD]))
  exact zR
theorem digit158 (u:Nat):zL Tryz.prog 153 [iv .u8 u] (bv (JP u)):=by
 intro h n
 refine zS.pure (zS.entry (by kernel_rfl) fun hb _=>zX Tryz.func153 rfl (by kernel_rfl) (by simp[Tryz.ntmps153]) ?_)
 by_cases h1:48≤u <;> by_cases h2:u≤57
 ·have:JP u=true:=by simp[JP,h1,h2]
  rw[this];clear this
  repeat' (first|(refine zF fun K hK=>?_)|(refine zB fun K hK=>?_;simp (disch:=omega) [go_sem, *,zP,Tryz.ntmps153])|(apply zC.out hK;clear hK K;try with_reducible dsimp only[zD]))
  exact zR
 ·have:JP u=false:=by simp[JP,h1,h2]
  rw[this];clear this
  repeat' (first|(refine zF fun K hK=>?_)|(refine zB fun K hK=>?_;simp (disch:=omega) [go_sem, *,zP,zk,Tryz.ntmps153])|(apply zC.out hK;clear hK K;try with_reducible dsimp only[zD]))
  exact zR
 ·have:JP u=false:=by simp[JP,h1,h2]
  rw[this];clear this
  repeat' (first|(refine zF fun K hK=>?_)|(refine zB fun K hK=>?_;simp (disch:=omega) [go_sem, *,zk,Tryz.ntmps153])|(apply zC.out hK;clear hK K;try with_reducible dsimp only[zD]))
  exact zR
 ·have:JP u=false:=by simp[JP,h1,h2]
  rw[this];clear this
  repeat' (first|(refine zF fun K hK=>?_)|(refine zB fun K hK=>?_;simp (disch:=omega) [go_sem, *,zP,Tryz.ntmps153])|(apply zC.out hK;clear hK K;try with_reducible dsimp only[zD]))
  exact zR
theorem letter181 (u:Nat):zL Tryz.prog 108 [iv .u8 u] (bv (j5 u)):=by
 intro h n
 refine zS.pure (zS.entry (by kernel_rfl) fun hb _=>zX Tryz.func108 rfl (by kernel_rfl) (by simp[Tryz.ntmps108]) ?_)
 by_cases h1:97≤u <;> by_cases h2:u≤122
 ·have:j5 u=true:=by simp[j5,h1,h2]
  rw[this];clear this
  repeat' (first|(refine zF fun K hK=>?_)|(refine zB fun K hK=>?_;simp (disch:=omega) [go_sem, *,zP,Tryz.ntmps108])|(apply zC.out hK;clear hK K;try with_reducible dsimp only[zD]))
  exact zR
 ·have:j5 u=false:=by simp[j5,h1,h2]
  rw[this];clear this
  repeat' (first|(refine zF fun K hK=>?_)|(refine zB fun K hK=>?_;simp (disch:=omega) [go_sem, *,zP,zk,Tryz.ntmps108])|(apply zC.out hK;clear hK K;try with_reducible dsimp only[zD]))
  exact zR
 ·have:j5 u=false:=by simp[j5,h1,h2]
  rw[this];clear this
  repeat' (first|(refine zF fun K hK=>?_)|(refine zB fun K hK=>?_;simp (disch:=omega) [go_sem, *,zk,Tryz.ntmps108])|(apply zC.out hK;clear hK K;try with_reducible dsimp only[zD]))
  exact zR
 ·have:j5 u=false:=by simp[j5,h1,h2]
  rw[this];clear this
  repeat' (first|(refine zF fun K hK=>?_)|(refine zB fun K hK=>?_;simp (disch:=omega) [go_sem, *,zP,Tryz.ntmps108])|(apply zC.out hK;clear hK K;try with_reducible dsimp only[zD]))
  exact zR
theorem digit230 (u:Nat):zL Tryz.prog 155 [iv .u8 u] (bv (JP u)):=by
 intro h n
 refine zS.pure (zS.entry (by kernel_rfl) fun hb _=>zX Tryz.func155 rfl (by kernel_rfl) (by simp[Tryz.ntmps155]) ?_)
 by_cases h1:48≤u <;> by_cases h2:u≤57
 ·have:JP u=true:=by simp[JP,h1,h2]
  rw[this];clear this
  repeat' (first|(refine zF fun K hK=>?_)|(refine zB fun K hK=>?_;simp (disch:=omega) [go_sem, *,zP,Tryz.ntmps155])|(apply zC.out hK;clear hK K;try with_reducible dsimp only[zD]))
  exact zR
 ·have:JP u=false:=by simp[JP,h1,h2]
  rw[this];clear this
  repeat' (first|(refine zF fun K hK=>?_)|(refine zB fun K hK=>?_;simp (disch:=omega) [go_sem, *,zP,zk,Tryz.ntmps155])|(apply zC.out hK;clear hK K;try with_reducible dsimp only[zD]))
  exact zR
 ·have:JP u=false:=by simp[JP,h1,h2]
  rw[this];clear this
  repeat' (first|(refine zF fun K hK=>?_)|(refine zB fun K hK=>?_;simp (disch:=omega) [go_sem, *,zk,Tryz.ntmps155])|(apply zC.out hK;clear hK K;try with_reducible dsimp only[zD]))
  exact zR
 ·have:JP u=false:=by simp[JP,h1,h2]
  rw[this];clear this
  repeat' (first|(refine zF fun K hK=>?_)|(refine zB fun K hK=>?_;simp (disch:=omega) [go_sem, *,zP,Tryz.ntmps155])|(apply zC.out hK;clear hK K;try with_reducible dsimp only[zD]))
  exact zR
theorem plain137 (u:Nat):zL Tryz.prog 106 [iv .u8 u] (bv (plnb u)):=by
 intro h n
 have k1:=letter135 u
 have k2:=digit158 u
 refine zS.pure (zS.entry (by kernel_rfl) fun hb _=>zX Tryz.func106 rfl (by kernel_rfl) (by simp[Tryz.ntmps106]) ?_)
 unfold plnb
 generalize j5 u=x at *
 generalize JP u=y at *
 cases x <;> cases y
 all_goals simp only[Bool.or_true,Bool.or_false]
 all_goals repeat' (first|(refine zF fun K hK=>?_)|(refine zB fun K hK=>?_;simp (disch:=omega) [go_sem, *,Tryz.ntmps106])|(apply zC.out hK;clear hK K;try with_reducible dsimp only[zD])|(with_reducible refine zL.gcall (k1) ?_;try simp (disch:=omega) [go_sem, *])|(with_reducible refine zL.gcall (k2) ?_;try simp (disch:=omega) [go_sem, *]))
 all_goals exact zR
end Go.AM
namespace Go.AM
open Go.Proofs Cw
set_option maxRecDepth 10000
set_option maxHeartbeats 4000000
def runE (s:ByteArray):Nat:=(s.data.toList.takeWhile fun u=>plnb u.toNat).length
theorem jh {α:Type} (p:α→Bool):∀(l:List α) (i:Nat),i≤l.length→(∀j x,j < i→l[j]? = some x→p x=true)→(∀x,l[i]? = some x→p x=false)→(l.takeWhile p).length=i
 | [],i,h,_,_=>by simp at h;subst h;rfl
 | y :: r,0,_,_,h2=>by
  have:=h2 y (by simp)
  simp[List.takeWhile,this]
 | y :: r,i + 1,h,h1,h2=>by
  have:=h1 0 y (by omega) (by simp)
  simp only[List.takeWhile,this,List.length_cons]
  rw[jh p r i (by simpa using h) (fun j x hj hx=>h1 (j + 1) x (by omega) (by simpa using hx)) (fun x hx=>h2 x (by simpa using hx))]
theorem run136 (s:ByteArray) (hl:s.size≤1000000):zL Tryz.prog 105 [sv s,iv .i64 0,.func (.func 106) [] []] (iv .i64 (runE s)):=by
 intro h n
 refine zS.pure (zS.entry (by kernel_rfl) fun hb _=>zX Tryz.func105 rfl (by kernel_rfl) (by simp[Tryz.ntmps105]) ?_)
 obtain⟨T,hT⟩:∃T,zC (T=runE s):=⟨_,rfl⟩
 rw[←hT.out]
 repeat' (first|(refine zF fun K hK=>?_)|(refine zB fun K hK=>?_;simp (disch:=omega) [go_sem, *,Tryz.ntmps105])|(apply zC.out hK;clear hK K;try with_reducible dsimp only[zD])|(refine zJ ?_))
 refine za (fun s'=>∃(i:Nat) (n':Nat),n≤n'∧i≤s.size∧(∀j (x:UInt8),j < i→s.data.toList[j]? = some x→plnb x.toNat=true)∧s'=⟨21,[(0,sv s),(1,iv .i64 i),(2,.func (.func 106) [] [])],h,n'⟩)
   (fun s'=>s.size - (zf s' 1).toNat) ?_ ?_
 ·exact zb (by simp[go_sem, *]) (Sub.refl _) ⟨0,_,by omega,by omega,fun j x hj=>by omega,rfl⟩
 ·rintro s' ⟨i,n',hn',hi,hall,rfl⟩
  replace hall:zC _:=hall
  by_cases hlt:i < s.size
  ·obtain⟨x,hx⟩:∃x,s[i]=x:=⟨_,rfl⟩
   have hxl:s.data.toList[i]? = some x:=by
    have hz:i < s.data.toList.length:=by rw[Array.length_toList];exact hlt
    rw[List.getElem?_eq_getElem hz,←hx];rfl
   have k1:=plain137 x.toNat
   cases hp:plnb x.toNat with
   | true=>
    rw[hp] at k1
    replace hp:zC _:=hp
    replace hxl:zC _:=hxl
    repeat' (first|(refine zF fun K hK=>?_)|(refine zB fun K hK=>?_;simp (disch:=omega) [go_sem, *,zN,zQ,zP])|(apply zC.out hK;clear hK K;try with_reducible dsimp only[zD])|(apply zC.out ht;clear ht hf Kt Kf)|(with_reducible refine zL.gcall (k1) ?_;try simp (disch:=omega) [go_sem, *])|(refine zJ ?_)|(refine zK ?_;simp only[zD])|(refine zH fun Kt Kf ht hf=>?_;simp (disch:=omega) [go_sem, *];try (refine⟨fun hc=>?_,fun hc=>?_⟩ <;> try (exfalso;omega))))
    exact zV (by simp (disch:=omega) [go_sem]) (Sub.refl _) ⟨i + 1,_,by omega,by omega,fun j y hj hy=>by
     rcases Nat.lt_or_ge j i with h1 | h1
     ·exact hall.out j y h1 hy
     ·have:j=i:=by omega
      subst this
      rw[hxl.out] at hy;cases hy;exact hp.out,rfl⟩ (by simp[zf,go_sem];omega)
   | false=>
    rw[hp] at k1
    have hTi:T=i:=by
     rw[hT.out]
     exact jh _ _ i (by rw[Array.length_toList];exact hi) hall.out fun y hy=>by rw[hxl] at hy;cases hy;exact hp
    subst hTi
    replace hp:zC _:=hp
    replace hxl:zC _:=hxl
    repeat' (first|(refine zF fun K hK=>?_)|(refine zB fun K hK=>?_;simp (disch:=omega) [go_sem, *,zQ,zP])|(apply zC.out hK;clear hK K;try with_reducible dsimp only[zD])|(apply zC.out hf;clear ht hf Kt Kf)|(clear hK K;apply zC.out hK;clear hK K;try with_reducible dsimp only[zD])|(with_reducible refine zL.gcall (k1) ?_;try simp (disch:=omega) [go_sem, *])|(refine zU ?_;simp only[zD,zO,if_true])|(refine zH fun Kt Kf ht hf=>?_;simp (disch:=omega) [go_sem, *];try (refine⟨fun hc=>?_,fun hc=>?_⟩ <;> try (exfalso;omega))))
    exact zR
  ·have hii:i=s.size:=by omega
   have hTi:T=i:=by
    rw[hT.out]
    exact jh _ _ i (by rw[Array.length_toList];exact hi) hall.out fun y hy=>by
     rw[List.getElem?_eq_none (by rw[Array.length_toList];show s.size≤i;omega)] at hy;cases hy
   subst hTi
   repeat' (first|(refine zF fun K hK=>?_)|(refine zB fun K hK=>?_;simp (disch:=omega) [go_sem, *])|(apply zC.out hK;clear hK K;try with_reducible dsimp only[zD])|(apply zC.out hf;clear ht hf Kt Kf)|(clear hK K;apply zC.out hK;clear hK K;try with_reducible dsimp only[zD])|(refine zU ?_;simp only[zD,zO,if_true])|(refine zH fun Kt Kf ht hf=>?_;simp (disch:=omega) [go_sem, *];try (refine⟨fun hc=>?_,fun hc=>?_⟩ <;> try (exfalso;omega))))
   exact zR
theorem end183 (s:ByteArray) (hl:s.size≤1000000):zL Tryz.prog 110 [sv s,iv .i64 0] (iv .i64 (runE s)):=by
 intro h n
 refine zS.pure (zS.entry (by kernel_rfl) fun hb _=>zX Tryz.func110 rfl (by kernel_rfl) (by simp[Tryz.ntmps110]) ?_)
 obtain⟨T,hT⟩:∃T,zC (T=runE s):=⟨_,rfl⟩
 rw[←hT.out]
 repeat' (first|(refine zF fun K hK=>?_)|(refine zB fun K hK=>?_;simp (disch:=omega) [go_sem, *,Tryz.ntmps110])|(apply zC.out hK;clear hK K;try with_reducible dsimp only[zD])|(refine zJ ?_))
 refine za (fun s'=>∃(i:Nat) (n':Nat),n≤n'∧i≤s.size∧(∀j (x:UInt8),j < i→s.data.toList[j]? = some x→plnb x.toNat=true)∧s'=⟨24,[(0,sv s),(1,iv .i64 i)],h,n'⟩)
   (fun s'=>s.size - (zf s' 1).toNat) ?_ ?_
 ·exact zb (by simp[go_sem, *]) (Sub.refl _) ⟨0,_,by omega,by omega,fun j x hj=>by omega,rfl⟩
 ·rintro s' ⟨i,n',hn',hi,hall,rfl⟩
  replace hall:zC _:=hall
  by_cases hlt:i < s.size
  ·obtain⟨x,hx⟩:∃x,s[i]=x:=⟨_,rfl⟩
   have hxl:s.data.toList[i]? = some x:=by
    have hz:i < s.data.toList.length:=by rw[Array.length_toList];exact hlt
    rw[List.getElem?_eq_getElem hz,←hx];rfl
   have k1:=letter181 x.toNat
   have k2:=digit230 x.toNat
   have hpl:plnb x.toNat=(j5 x.toNat || JP x.toNat):=rfl
   cases h1:j5 x.toNat <;> cases h2:JP x.toNat
   all_goals rw[h1] at k1
   all_goals rw[h2] at k2
   all_goals rw[h1,h2] at hpl
   ·have hTi:T=i:=by
     rw[hT.out]
     exact jh _ _ i (by rw[Array.length_toList];exact hi) hall.out fun y hy=>by rw[hxl] at hy;cases hy;exact hpl
    subst hTi
    clear hpl hxl h1 h2
    repeat' (first|(refine zF fun K hK=>?_)|(refine zB fun K hK=>?_;simp (disch:=omega) [go_sem, *,zQ,zP])|(apply zC.out hK;clear hK K;try with_reducible dsimp only[zD])|(apply zC.out hf;clear ht hf Kt Kf)|(clear hK K;apply zC.out hK;clear hK K;try with_reducible dsimp only[zD])|(with_reducible refine zL.gcall (k1) ?_;try simp (disch:=omega) [go_sem, *,zP])|(with_reducible refine zL.gcall (k2) ?_;try simp (disch:=omega) [go_sem, *])|(refine zU ?_;simp only[zD,zO,if_true])|(refine zH fun Kt Kf ht hf=>?_;simp (disch:=omega) [go_sem, *];try (refine⟨fun hc=>?_,fun hc=>?_⟩ <;> try (exfalso;omega))))
    exact zR
   all_goals replace hpl:zC (plnb x.toNat=true):=hpl
   all_goals replace hxl:zC _:=hxl
   all_goals clear h1 h2
   all_goals repeat' (first|(refine zF fun K hK=>?_)|(refine zB fun K hK=>?_;simp (disch:=omega) [go_sem, *,zN,zQ,zP])|(apply zC.out hK;clear hK K;try with_reducible dsimp only[zD])|(apply zC.out ht;clear ht hf Kt Kf)|(with_reducible refine zL.gcall (k1) ?_;try simp (disch:=omega) [go_sem, *,zP])|(with_reducible refine zL.gcall (k2) ?_;try simp (disch:=omega) [go_sem, *])|(refine zJ ?_)|(refine zK ?_;simp only[zD])|(refine zH fun Kt Kf ht hf=>?_;simp (disch:=omega) [go_sem, *];try (refine⟨fun hc=>?_,fun hc=>?_⟩ <;> try (exfalso;omega))))
   all_goals exact zV (by simp (disch:=omega) [go_sem]) (Sub.refl _) ⟨i + 1,_,by omega,by omega,fun j y hj hy=>by
     rcases Nat.lt_or_ge j i with h1 | h1
     ·exact hall.out j y h1 hy
     ·have:j=i:=by omega
      subst this
      rw[hxl.out] at hy;cases hy;exact hpl.out,rfl⟩ (by simp[zf,go_sem];omega)
  ·have hii:i=s.size:=by omega
   have hTi:T=i:=by
    rw[hT.out]
    exact jh _ _ i (by rw[Array.length_toList];exact hi) hall.out fun y hy=>by
     rw[List.getElem?_eq_none (by rw[Array.length_toList];show s.size≤i;omega)] at hy;cases hy
   subst hTi
   repeat' (first|(refine zF fun K hK=>?_)|(refine zB fun K hK=>?_;simp (disch:=omega) [go_sem, *])|(apply zC.out hK;clear hK K;try with_reducible dsimp only[zD])|(apply zC.out hf;clear ht hf Kt Kf)|(clear hK K;apply zC.out hK;clear hK K;try with_reducible dsimp only[zD])|(refine zU ?_;simp only[zD,zO,if_true])|(refine zH fun Kt Kf ht hf=>?_;simp (disch:=omega) [go_sem, *];try (refine⟨fun hc=>?_,fun hc=>?_⟩ <;> try (exfalso;omega))))
   exact zR
end Go.AM
namespace Go.AM
open Go.Proofs Cw
set_option maxRecDepth 10000
set_option maxHeartbeats 4000000
def Qu (w:ByteArray):List ByteArray→Nat→Int
 | [],_=>-1
 | x :: r,i=>if (w.toList == x.toList)=true then i else Qu w r (i + 1)
def inS (w:ByteArray) (l:List ByteArray):Bool:=l.any fun x=>w.toList == x.toList
theorem idxS_iff (w:ByteArray):∀(l:List ByteArray) (i:Nat),0≤Qu w l i↔inS w l=true
 | [],_=>by simp[Qu,inS]
 | x :: r,i=>by
  have ih:=idxS_iff w r (i + 1)
  have e:inS w (x :: r)=((w.toList == x.toList) || inS w r):=rfl
  rw[e]
  by_cases hx:(w.toList == x.toList)=true
  ·have e1:Qu w (x :: r) i=i:=by rw[Qu,if_pos hx]
   rw[e1,hx];simp
  ·have e1:Qu w (x :: r) i=Qu w r (i + 1):=by rw[Qu,if_neg hx]
   rw[e1,ih];simp only[Bool.not_eq_true] at hx;rw[hx];simp
theorem idxS_in (w:ByteArray) (l:List ByteArray) (i:Nat):decide (Qu w l i ≥ 0)=inS w l:=by
 rw[Bool.eq_iff_iff,decide_eq_true_eq];exact idxS_iff w l i
theorem index139 (nl fu:Bool) (l:List ByteArray) (w:ByteArray) (hl:l.length≤100000):zL Tryz.prog 112 [.fslc nl fu 1 (l.map sv),sv w] (iv .i64 (Qu w l 0)):=by
 intro h n
 refine zS.pure (zS.entry (by kernel_rfl) fun hb _=>zX Tryz.func112 rfl (by kernel_rfl) (by simp[Tryz.ntmps112]) ?_)
 obtain⟨T,hT⟩:∃T,zC (T=Qu w l 0):=⟨_,rfl⟩
 rw[←hT.out]
 repeat' (first|(refine zF fun K hK=>?_)|(refine zB fun K hK=>?_;simp (disch:=omega) [go_sem, *,Tryz.ntmps112])|(apply zC.out hK;clear hK K;try with_reducible dsimp only[zD])|(refine zJ ?_))
 refine za (fun s'=>∃(i:Nat) (n':Nat),n≤n'∧i≤l.length∧Qu w (l.drop i) i=T∧s'=⟨19,[(0,.fslc nl fu 1 (l.map sv)),(1,sv w),(7,iv .i64 l.length),(8,iv .i64 i)],h,n'⟩)
   (fun s'=>l.length - (zf s' 8).toNat) ?_ ?_
 ·exact zb (by simp[go_sem, *]) (Sub.refl _) ⟨0,_,by omega,by omega,by rw[hT.out];rfl,rfl⟩
 ·rintro s' ⟨i,n',hn',hi,hc,rfl⟩
  by_cases hlt:i < l.length
  ·obtain⟨x,hx⟩:∃x,l[i]=x:=⟨_,rfl⟩
   have hdr:l.drop i=x :: l.drop (i + 1):=by rw[List.drop_eq_getElem_cons hlt,hx]
   rw[hdr,Qu] at hc
   clear hdr
   cases he:(w.toList == x.toList) with
   | true=>
    rw[he,if_pos rfl] at hc
    subst hc
    repeat' (first|(refine zF fun K hK=>?_)|(refine zB fun K hK=>?_;simp (disch:=omega) [go_sem, *,zQ,zP])|(apply zC.out hK;clear hK K;try with_reducible dsimp only[zD])|(apply zC.out ht;clear ht hf Kt Kf)|(refine zJ ?_)|(refine zK ?_;simp only[zD])|(refine zH fun Kt Kf ht hf=>?_;simp (disch:=omega) [go_sem, *];try (refine⟨fun hc=>?_,fun hc=>?_⟩ <;> try (exfalso;omega))))
    exact zR
   | false=>
    rw[he,if_neg (by simp)] at hc
    replace hc:zC _:=hc
    repeat' (first|(refine zF fun K hK=>?_)|(refine zB fun K hK=>?_;simp (disch:=omega) [go_sem, *,zN,zQ,zP])|(apply zC.out hK;clear hK K;try with_reducible dsimp only[zD])|(apply zC.out ht;clear ht hf Kt Kf)|(apply zC.out hf;clear ht hf Kt Kf)|(refine zJ ?_)|(refine zK ?_;simp only[zD,zO])|(refine zH fun Kt Kf ht hf=>?_;simp (disch:=omega) [go_sem, *];try (refine⟨fun hc=>?_,fun hc=>?_⟩ <;> try (exfalso;omega))))
    exact zV (by simp (disch:=omega) [go_sem]) (Sub.refl _) ⟨i + 1,_,by omega,by omega,hc.out,rfl⟩ (by simp[zf,go_sem];omega)
  ·rw[List.drop_eq_nil_of_le (by omega),Qu] at hc
   subst hc
   repeat' (first|(refine zF fun K hK=>?_)|(refine zB fun K hK=>?_;simp (disch:=omega) [go_sem, *,zW])|(apply zC.out hK;clear hK K;try with_reducible dsimp only[zD])|(apply zC.out hf;clear ht hf Kt Kf)|(clear hK K;apply zC.out hK;clear hK K;try with_reducible dsimp only[zD])|(refine zU ?_;simp only[zD,zO,if_true])|(refine zH fun Kt Kf ht hf=>?_;simp (disch:=omega) [go_sem, *];try (refine⟨fun hc=>?_,fun hc=>?_⟩ <;> try (exfalso;omega))))
   exact zR
theorem contains84 (nl fu:Bool) (l:List ByteArray) (w:ByteArray) (hl:l.length≤100000):zL Tryz.prog 52 [.fslc nl fu 1 (l.map sv),sv w] (bv (inS w l)):=by
 intro h n
 have k1:=index139 nl fu l w hl
 have e:=idxS_in w l 0
 refine zS.pure (zS.entry (by kernel_rfl) fun hb _=>zX Tryz.func52 rfl (by kernel_rfl) (by simp[Tryz.ntmps52]) ?_)
 rw[←e]
 clear e
 generalize Qu w l 0=j at *
 repeat' (first|(refine zF fun K hK=>?_)|(refine zB fun K hK=>?_;simp (disch:=omega) [go_sem, *,Tryz.ntmps52])|(apply zC.out hK;clear hK K;try with_reducible dsimp only[zD])|(with_reducible refine zL.gcall (k1) ?_;try simp (disch:=omega) [go_sem, *]))
 exact zR
end Go.AM
