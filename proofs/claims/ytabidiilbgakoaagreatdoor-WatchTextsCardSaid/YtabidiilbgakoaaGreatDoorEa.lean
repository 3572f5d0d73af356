/- Letters, digits, words. Conditions: as each theorem says. -/
import Derived.Test.YtabidiilbgakoaaGreatDoorTa
namespace Go.AM
open Go.Proofs Cw
set_option maxRecDepth 10000
set_option maxHeartbeats 4000000
def JM (u:Nat):Bool:=decide (97≤u) && decide (u≤122)
def jk (u:Nat):Bool:=decide (48≤u) && decide (u≤57)
def js (u:Nat):Bool:=JM u || jk u
theorem letter135 (u:Nat):zK Tryz.prog 141 [iv .u8 u] (bv (JM u)):=by
 intro h n
 refine zQ.pure (zQ.entry (by kernel_rfl) fun hb _=>za Tryz.func141 rfl (by kernel_rfl) (by simp[Tryz.ntmps141]) ?_)
 by_cases h1:97≤u <;> by_cases h2:u≤122
 ·have:JM u=true:=by simp[JM,h1,h2]
  rw[this];clear this
  repeat' (first|(refine zF fun K hK=>?_)|(refine zA fun K hK=>?_;simp (disch:=omega) [go_sem, *,zP,Tryz.ntmps141])|(apply zC.out hK;clear hK K;try with_reducible dsimp only[zG]))
  exact zR
 ·have:JM u=false:=by simp[JM,h1,h2]
  rw[this];clear this
  repeat' (first|(refine zF fun K hK=>?_)|(refine zA fun K hK=>?_;simp (disch:=omega) [go_sem, *,zP,zg,Tryz.ntmps141])|(apply zC.out hK;clear hK K;try with_reducible dsimp only[zG]))
  exact zR
 ·have:JM u=false:=by simp[JM,h1,h2]
  rw[this];clear this
  repeat' (first|(refine zF fun K hK=>?_)|(refine zA fun K hK=>?_;simp (disch:=omega) [go_sem, *,zg,Tryz.ntmps141])|(apply zC.out hK;clear hK K;try with_reducible dsimp only[zG]))
  exact zR
 ·have:JM u=false:=by simp[JM,h1,h2]
  rw[this];clear this
  repeat' (first|(refine zF fun K hK=>?_)|(refine zA fun K hK=>?_;simp (disch:=omega) [go_sem, *,zP,Tryz.ntmps141])|(apply zC.out hK;clear hK K;try with_reducible dsimp only[zG]))
  exact zR
theorem digit158 (u:Nat):zK Tryz.prog 174 [iv .u8 u] (bv (jk u)):=by
 intro h n
 refine zQ.pure (zQ.entry (by kernel_rfl) fun hb _=>za Tryz.func174 rfl (by kernel_rfl) (by simp[Tryz.ntmps174]) ?_)
 by_cases h1:48≤u <;> by_cases h2:u≤57
 ·have:jk u=true:=by simp[jk,h1,h2]
  rw[this];clear this
  repeat' (first|(refine zF fun K hK=>?_)|(refine zA fun K hK=>?_;simp (disch:=omega) [go_sem, *,zP,Tryz.ntmps174])|(apply zC.out hK;clear hK K;try with_reducible dsimp only[zG]))
  exact zR
 ·have:jk u=false:=by simp[jk,h1,h2]
  rw[this];clear this
  repeat' (first|(refine zF fun K hK=>?_)|(refine zA fun K hK=>?_;simp (disch:=omega) [go_sem, *,zP,zg,Tryz.ntmps174])|(apply zC.out hK;clear hK K;try with_reducible dsimp only[zG]))
  exact zR
 ·have:jk u=false:=by simp[jk,h1,h2]
  rw[this];clear this
  repeat' (first|(refine zF fun K hK=>?_)|(refine zA fun K hK=>?_;simp (disch:=omega) [go_sem, *,zg,Tryz.ntmps174])|(apply zC.out hK;clear hK K;try with_reducible dsimp only[zG]))
  exact zR
 ·have:jk u=false:=by simp[jk,h1,h2]
  rw[this];clear this
  repeat' (first|(refine zF fun K hK=>?_)|(refine zA fun K hK=>?_;simp (disch:=omega) [go_sem, *,zP,Tryz.ntmps174])|(apply zC.out hK;clear hK K;try with_reducible dsimp only[zG]))
  exact zR
theorem plain137 (u:Nat):zK Tryz.prog 143 [iv .u8 u] (bv (js u)):=by
 intro h n
 have k1:=letter135 u
 have k2:=digit158 u
 refine zQ.pure (zQ.entry (by kernel_rfl) fun hb _=>za Tryz.func143 rfl (by kernel_rfl) (by simp[Tryz.ntmps143]) ?_)
 unfold js
 generalize JM u=x at *
 generalize jk u=y at *
 cases x <;> cases y
 all_goals simp only[Bool.or_true,Bool.or_false]
 all_goals repeat' (first|(refine zF fun K hK=>?_)|(refine zA fun K hK=>?_;simp (disch:=omega) [go_sem, *,Tryz.ntmps143])|(apply zC.out hK;clear hK K;try with_reducible dsimp only[zG])|(with_reducible refine zK.gcall (k1) ?_;try simp (disch:=omega) [go_sem, *])|(with_reducible refine zK.gcall (k2) ?_;try simp (disch:=omega) [go_sem, *]))
 all_goals exact zR
end Go.AM
namespace Go.AM
open Go.Proofs Cw
set_option maxRecDepth 10000
set_option maxHeartbeats 4000000
def runE (s:ByteArray):Nat:=(s.data.toList.takeWhile fun u=>js u.toNat).length
theorem qp {α:Type} (p:α→Bool):∀(l:List α) (i:Nat),i≤l.length→(∀j x,j < i→l[j]? = some x→p x=true)→(∀x,l[i]? = some x→p x=false)→(l.takeWhile p).length=i
 | [],i,h,_,_=>by simp at h;subst h;rfl
 | y :: r,0,_,_,h2=>by
  have:=h2 y (by simp)
  simp[List.takeWhile,this]
 | y :: r,i + 1,h,h1,h2=>by
  have:=h1 0 y (by omega) (by simp)
  simp only[List.takeWhile,this,List.length_cons]
  rw[qp p r i (by simpa using h) (fun j x hj hx=>h1 (j + 1) x (by omega) (by simpa using hx)) (fun x hx=>h2 x (by simpa using hx))]
theorem run136 (s:ByteArray) (hl:s.size≤1000000):zK Tryz.prog 142 [sv s,iv .i64 0,.func (.func 143) [] []] (iv .i64 (runE s)):=by
 intro h n
 refine zQ.pure (zQ.entry (by kernel_rfl) fun hb _=>za Tryz.func142 rfl (by kernel_rfl) (by simp[Tryz.ntmps142]) ?_)
 obtain⟨T,hT⟩:∃T,zC (T=runE s):=⟨_,rfl⟩
 rw[←hT.out]
 repeat' (first|(refine zF fun K hK=>?_)|(refine zA fun K hK=>?_;simp (disch:=omega) [go_sem, *,Tryz.ntmps142])|(apply zC.out hK;clear hK K;try with_reducible dsimp only[zG])|(refine zJ ?_))
 refine z8 (fun s'=>∃(i:Nat) (n':Nat),n≤n'∧i≤s.size∧(∀j (x:UInt8),j < i→s.data.toList[j]? = some x→js x.toNat=true)∧s'=⟨21,[(0,sv s),(1,iv .i64 i),(2,.func (.func 143) [] [])],h,n'⟩)
   (fun s'=>s.size - (ZL s' 1).toNat) ?_ ?_
 ·exact zS (by simp[go_sem, *]) (Sub.refl _) ⟨0,_,by omega,by omega,fun j x hj=>by omega,rfl⟩
 ·rintro s' ⟨i,n',hn',hi,hall,rfl⟩
  replace hall:zC _:=hall
  by_cases hlt:i < s.size
  ·obtain⟨x,hx⟩:∃x,s[i]=x:=⟨_,rfl⟩
   have hxl:s.data.toList[i]? = some x:=by
    have hz:i < s.data.toList.length:=by rw[Array.length_toList];exact hlt
    rw[List.getElem?_eq_getElem hz,←hx];rfl
   have k1:=plain137 x.toNat
   cases hp:js x.toNat with
   | true=>
    rw[hp] at k1
    replace hp:zC _:=hp
    replace hxl:zC _:=hxl
    repeat' (first|(refine zF fun K hK=>?_)|(refine zA fun K hK=>?_;simp (disch:=omega) [go_sem, *,zM,zO,zP])|(apply zC.out hK;clear hK K;try with_reducible dsimp only[zG])|(apply zC.out ht;clear ht hf Kt Kf)|(with_reducible refine zK.gcall (k1) ?_;try simp (disch:=omega) [go_sem, *])|(refine zJ ?_)|(refine zL ?_;simp only[zG])|(refine zH fun Kt Kf ht hf=>?_;simp (disch:=omega) [go_sem, *];try (refine⟨fun hc=>?_,fun hc=>?_⟩ <;> try (exfalso;omega))))
    exact zl (by simp (disch:=omega) [go_sem]) (Sub.refl _) ⟨i + 1,_,by omega,by omega,fun j y hj hy=>by
     rcases Nat.lt_or_ge j i with h1 | h1
     ·exact hall.out j y h1 hy
     ·have:j=i:=by omega
      subst this
      rw[hxl.out] at hy;cases hy;exact hp.out,rfl⟩ (by simp[ZL,go_sem];omega)
   | false=>
    rw[hp] at k1
    have hTi:T=i:=by
     rw[hT.out]
     exact qp _ _ i (by rw[Array.length_toList];exact hi) hall.out fun y hy=>by rw[hxl] at hy;cases hy;exact hp
    subst hTi
    replace hp:zC _:=hp
    replace hxl:zC _:=hxl
    repeat' (first|(refine zF fun K hK=>?_)|(refine zA fun K hK=>?_;simp (disch:=omega) [go_sem, *,zO,zP])|(apply zC.out hK;clear hK K;try with_reducible dsimp only[zG])|(apply zC.out hf;clear ht hf Kt Kf)|(clear hK K;apply zC.out hK;clear hK K;try with_reducible dsimp only[zG])|(with_reducible refine zK.gcall (k1) ?_;try simp (disch:=omega) [go_sem, *])|(refine zk ?_;simp only[zG,zN,if_true])|(refine zH fun Kt Kf ht hf=>?_;simp (disch:=omega) [go_sem, *];try (refine⟨fun hc=>?_,fun hc=>?_⟩ <;> try (exfalso;omega))))
    exact zR
  ·have hii:i=s.size:=by omega
   have hTi:T=i:=by
    rw[hT.out]
    exact qp _ _ i (by rw[Array.length_toList];exact hi) hall.out fun y hy=>by
     rw[List.getElem?_eq_none (by rw[Array.length_toList];show s.size≤i;omega)] at hy;cases hy
   subst hTi
   repeat' (first|(refine zF fun K hK=>?_)|(refine zA fun K hK=>?_;simp (disch:=omega) [go_sem, *])|(apply zC.out hK;clear hK K;try with_reducible dsimp only[zG])|(apply zC.out hf;clear ht hf Kt Kf)|(clear hK K;apply zC.out hK;clear hK K;try with_reducible dsimp only[zG])|(refine zk ?_;simp only[zG,zN,if_true])|(refine zH fun Kt Kf ht hf=>?_;simp (disch:=omega) [go_sem, *];try (refine⟨fun hc=>?_,fun hc=>?_⟩ <;> try (exfalso;omega))))
   exact zR
end Go.AM
namespace Go.AM
open Go.Proofs Cw
set_option maxRecDepth 10000
set_option maxHeartbeats 4000000
def jV (w:ByteArray):List ByteArray→Nat→Int
 | [],_=>-1
 | x :: r,i=>if (w.toList == x.toList)=true then i else jV w r (i + 1)
def inS (w:ByteArray) (l:List ByteArray):Bool:=l.any fun x=>w.toList == x.toList
theorem idxS_iff (w:ByteArray):∀(l:List ByteArray) (i:Nat),0≤jV w l i↔inS w l=true
 | [],_=>by simp[jV,inS]
 | x :: r,i=>by
  have ih:=idxS_iff w r (i + 1)
  have e:inS w (x :: r)=((w.toList == x.toList) || inS w r):=rfl
  rw[e]
  by_cases hx:(w.toList == x.toList)=true
  ·have e1:jV w (x :: r) i=i:=by rw[jV,if_pos hx]
   rw[e1,hx];simp
  ·have e1:jV w (x :: r) i=jV w r (i + 1):=by rw[jV,if_neg hx]
   rw[e1,ih];simp only[Bool.not_eq_true] at hx;rw[hx];simp
theorem idxS_in (w:ByteArray) (l:List ByteArray) (i:Nat):decide (jV w l i ≥ 0)=inS w l:=by
 rw[Bool.eq_iff_iff,decide_eq_true_eq];exact idxS_iff w l i
theorem index139 (nl fu:Bool) (l:List ByteArray) (w:ByteArray) (hl:l.length≤100000):zK Tryz.prog 154 [.fslc nl fu 1 (l.map sv),sv w] (iv .i64 (jV w l 0)):=by
 intro h n
 refine zQ.pure (zQ.entry (by kernel_rfl) fun hb _=>za Tryz.func154 rfl (by kernel_rfl) (by simp[Tryz.ntmps154]) ?_)
 obtain⟨T,hT⟩:∃T,zC (T=jV w l 0):=⟨_,rfl⟩
 rw[←hT.out]
 repeat' (first|(refine zF fun K hK=>?_)|(refine zA fun K hK=>?_;simp (disch:=omega) [go_sem, *,Tryz.ntmps154])|(apply zC.out hK;clear hK K;try with_reducible dsimp only[zG])|(refine zJ ?_))
 refine z8 (fun s'=>∃(i:Nat) (n':Nat),n≤n'∧i≤l.length∧jV w (l.drop i) i=T∧s'=⟨19,[(0,.fslc nl fu 1 (l.map sv)),(1,sv w),(7,iv .i64 l.length),(8,iv .i64 i)],h,n'⟩)
   (fun s'=>l.length - (ZL s' 8).toNat) ?_ ?_
 ·exact zS (by simp[go_sem, *]) (Sub.refl _) ⟨0,_,by omega,by omega,by rw[hT.out];rfl,rfl⟩
 ·rintro s' ⟨i,n',hn',hi,hc,rfl⟩
  by_cases hlt:i < l.length
  ·obtain⟨x,hx⟩:∃x,l[i]=x:=⟨_,rfl⟩
   have hdr:l.drop i=x :: l.drop (i + 1):=by rw[List.drop_eq_getElem_cons hlt,hx]
   rw[hdr,jV] at hc
   clear hdr
   cases he:(w.toList == x.toList) with
   | true=>
    rw[he,if_pos rfl] at hc
    subst hc
    repeat' (first|(refine zF fun K hK=>?_)|(refine zA fun K hK=>?_;simp (disch:=omega) [go_sem, *,zO,zP])|(apply zC.out hK;clear hK K;try with_reducible dsimp only[zG])|(apply zC.out ht;clear ht hf Kt Kf)|(refine zJ ?_)|(refine zL ?_;simp only[zG])|(refine zH fun Kt Kf ht hf=>?_;simp (disch:=omega) [go_sem, *];try (refine⟨fun hc=>?_,fun hc=>?_⟩ <;> try (exfalso;omega))))
    exact zR
   | false=>
    rw[he,if_neg (by simp)] at hc
    replace hc:zC _:=hc
    repeat' (first|(refine zF fun K hK=>?_)|(refine zA fun K hK=>?_;simp (disch:=omega) [go_sem, *,zM,zO,zP])|(apply zC.out hK;clear hK K;try with_reducible dsimp only[zG])|(apply zC.out ht;clear ht hf Kt Kf)|(apply zC.out hf;clear ht hf Kt Kf)|(refine zJ ?_)|(refine zL ?_;simp only[zG,zN])|(refine zH fun Kt Kf ht hf=>?_;simp (disch:=omega) [go_sem, *];try (refine⟨fun hc=>?_,fun hc=>?_⟩ <;> try (exfalso;omega))))
    exact zl (by simp (disch:=omega) [go_sem]) (Sub.refl _) ⟨i + 1,_,by omega,by omega,hc.out,rfl⟩ (by simp[ZL,go_sem];omega)
  ·rw[List.drop_eq_nil_of_le (by omega),jV] at hc
   subst hc
   repeat' (first|(refine zF fun K hK=>?_)|(refine zA fun K hK=>?_;simp (disch:=omega) [go_sem, *,zT])|(apply zC.out hK;clear hK K;try with_reducible dsimp only[zG])|(apply zC.out hf;clear ht hf Kt Kf)|(clear hK K;apply zC.out hK;clear hK K;try with_reducible dsimp only[zG])|(refine zk ?_;simp only[zG,zN,if_true])|(refine zH fun Kt Kf ht hf=>?_;simp (disch:=omega) [go_sem, *];try (refine⟨fun hc=>?_,fun hc=>?_⟩ <;> try (exfalso;omega))))
   exact zR
theorem contains84 (nl fu:Bool) (l:List ByteArray) (w:ByteArray) (hl:l.length≤100000):zK Tryz.prog 82 [.fslc nl fu 1 (l.map sv),sv w] (bv (inS w l)):=by
 intro h n
 have k1:=index139 nl fu l w hl
 have e:=idxS_in w l 0
 refine zQ.pure (zQ.entry (by kernel_rfl) fun hb _=>za Tryz.func82 rfl (by kernel_rfl) (by simp[Tryz.ntmps82]) ?_)
 rw[←e]
 clear e
 generalize jV w l 0=j at *
 repeat' (first|(refine zF fun K hK=>?_)|(refine zA fun K hK=>?_;simp (disch:=omega) [go_sem, *,Tryz.ntmps82])|(apply zC.out hK;clear hK K;try with_reducible dsimp only[zG])|(with_reducible refine zK.gcall (k1) ?_;try simp (disch:=omega) [go_sem, *]))
 exact zR
end Go.AM
