/- The tokens of a source, by the program's iterator. Conditions: as each theorem says. -/
import Derived.Test.YtabidiilbgakoaaGreatDoorLb
namespace Go.AM
open Go.Proofs Cw Du
set_option maxRecDepth 10000
set_option maxHeartbeats 8000000
@[go_sem] theorem errE (x:Operand):q9 Tryz.prog .eql 133 (isC x (.const .nilIface)) (.c .nilIface) (.c .nilIface)=some (bv true):=by
 have:je Tryz.prog 133=some true:=by kernel_rfl
 cases x <;> simp[q9,isC,this]
@[go_sem] theorem errI (cn:Bool) (t:TypeId) (v:AV):q9 Tryz.prog .eql 133 cn (.iface t v) (.c .nilIface)=some (bv false):=by
 have:je Tryz.prog 133=some true:=by kernel_rfl
 simp[q9,this]
def mkB:ByteArray:=⟨#[59,44,40,41,61]⟩
theorem fi_in (x:UInt8) (h:x.toNat=59∨x.toNat=44∨x.toNat=40∨x.toNat=41∨x.toNat=61):0≤firstIdx mkB x:=by
 rcases h with h | h | h | h | h
 ·rw[show x=59 from UInt8.toNat_inj.1 h];decide
 ·rw[show x=44 from UInt8.toNat_inj.1 h];decide
 ·rw[show x=40 from UInt8.toNat_inj.1 h];decide
 ·rw[show x=41 from UInt8.toNat_inj.1 h];decide
 ·rw[show x=61 from UInt8.toNat_inj.1 h];decide
theorem fi_out (x:UInt8) (h:¬(x.toNat=59∨x.toNat=44∨x.toNat=40∨x.toNat=41∨x.toNat=61)):¬0≤firstIdx mkB x:=by
 have h1:∀c:UInt8,c.toNat=59∨c.toNat=44∨c.toNat=40∨c.toNat=41∨c.toNat=61→(c == x)=false:=fun c hc=>by
  rw[beq_eq_false_iff_ne]
  intro e
  subst e
  exact h hc
 have:(List.range mkB.size).find? (fun i=>mkB[i]! == x)=none:=by
  rw[List.find?_eq_none]
  intro i hi
  have hlt:i < 5:=List.mem_range.1 hi
  have:mkB[i]!.toNat=59∨mkB[i]!.toNat=44∨mkB[i]!.toNat=40∨mkB[i]!.toNat=41∨mkB[i]!.toNat=61:=by
   match i,hlt with
   | 0,_=>exact .inl rfl
   | 1,_=>exact .inr (.inl rfl)
   | 2,_=>exact .inr (.inr (.inl rfl))
   | 3,_=>exact .inr (.inr (.inr (.inl rfl)))
   | 4,_=>exact .inr (.inr (.inr (.inr rfl)))
  simp[h1 _ this]
 unfold firstIdx
 rw[this]
 decide
def tkA (k:Int) (t:ByteArray) (p:Nat):AV:=.agg [iv .i64 k,sv t,iv .i64 p]
theorem tokens_spec (s:ByteArray):zK Tryz.prog 106 [sv s] (.func (.func 172) [] [.fptr [sv s]]):=by
 intro h n
 refine zQ.pure (zQ.entry (by kernel_rfl) fun hb hbel=>za Tryz.func106 rfl (by kernel_rfl) (by simp[Tryz.ntmps106]) ?_)
 refine zF fun K hK=>?_
 refine zA fun K2 hK2=>?_
 simp (disch:=omega) [go_sem,Tryz.ntmps106]
 refine hK2.out _ ?_
 clear hK2 K2
 dsimp only[zG]
 refine hK.out _ ?_
 clear hK K
 refine ac_fzbox (t:=1) (m:=n) (c:=[sv s]) (by simp (disch:=omega) only[zD]) (by simp[go_sem]) ?_
 repeat' (first|(refine zF fun K hK=>?_)|(refine zA fun K hK=>?_;simp (disch:=omega) [go_sem, *])|(apply zC.out hK;clear hK K;try with_reducible dsimp only[zG]))
 refine zb ?_
 try dsimp only[zG,zN]
 refine⟨by simp,_,(by first | rfl|(simp (disch:=omega) [go_sem,zB] <;> rfl)),?_⟩
 show Zg _ _ (.func (.func 172) [] [.fptr [sv s]]) _ _
 refine zY ⟨fun x hx=>?_,?_,rfl,rfl,rfl⟩
 ·simp (disch:=omega) only[zB]
 ·simp[below,belowL]
theorem nl_spec (u:Nat):zK Tryz.prog 173 [iv .u8 u] (bv (nlf u)):=by
 intro h n
 refine zQ.pure (zQ.entry (by kernel_rfl) fun hb _=>za Tryz.func173 rfl (by kernel_rfl) (by simp[Tryz.ntmps173]) ?_)
 by_cases h10:u=10
 ·subst h10
  have:nlf 10=false:=rfl
  rw[this];clear this
  repeat' (first|(refine zF fun K hK=>?_)|(refine zA fun K hK=>?_;simp (disch:=omega) [go_sem, *,Tryz.ntmps173])|(apply zC.out hK;clear hK K;try with_reducible dsimp only[zG]))
  exact zR
 ·have:nlf u=true:=by simp[nlf,h10]
  rw[this];clear this
  have m1:((u:Int) == 10)=false:=by simp only[beq_eq_false_iff_ne];omega
  have m2:((u:Int) != 10)=true:=by simpa using (show (u:Int)≠10 by omega)
  repeat' (first|(refine zF fun K hK=>?_)|(refine zA fun K hK=>?_;simp (disch:=omega) [go_sem, *,Tryz.ntmps173])|(apply zC.out hK;clear hK K;try with_reducible dsimp only[zG]))
  exact zR
theorem toks_iter (s:ByteArray) (hl:s.size≤1000000) (m:Nat) (I:Nat→List Tk→zI→Nat→Prop) (J:zI→Nat→Prop) (h:zI) (n:Nat) (K:AV→zI→Nat→Prop)
  (hI0:I 0 [] h n) (hIn:∀i a h' n',I i a h' n'→n≤n') (mono:∀i a h' p q,I i a h' p→p≤q→I i a h' q)
  (step:∀i a h' n' h2 n2 (x:UInt8) k v j,I i a h' n'→n'≤n2→(∀y,y < n'→h2 y=h' y)→s.data.toList[i]? = some x→Ze s i x.toNat=.tok k v j→YieldsA Tryz.prog m [tkA k (s.extract i j) i] (I j (a ++ [⟨k,s.extract i j,v,i⟩])) (fun _ _=>False) h2 n2)
  (bad:∀i a h' n' h2 n2 (x:UInt8) t j,I i a h' n'→n'≤n2→(∀y,y < n'→h2 y=h' y)→s.data.toList[i]? = some x→Ze s i x.toNat=.bad j→YieldsA Tryz.prog m [tkA 0 t j] (fun _ _=>False) J h2 n2)
  (skip:∀i a h' n' h2 n2 (x:UInt8) j,I i a h' n'→n'≤n2→(∀y,y < n'→h2 y=h' y)→s.data.toList[i]? = some x→Ze s i x.toNat=.skip j→I j a h2 n2)
  (hI:∀a h' n',I s.size a h' n'→K (.tup []) h' n') (hJ:∀h' n',J h' n'→K (.tup []) h' n') :
  zQ Tryz.prog 172 [.yld m,.fptr [sv s]] h n K:=by
 refine zQ.entry (by kernel_rfl) fun hb _=>za Tryz.func172 rfl (by kernel_rfl) (by simp[Tryz.ntmps172]) ?_
 replace hI0:zC _:=hI0
 replace hIn:zC _:=hIn
 replace mono:zC _:=mono
 replace step:zC _:=step
 replace bad:zC _:=bad
 replace skip:zC _:=skip
 replace hI:zC _:=hI
 replace hJ:zC _:=hJ
 repeat' (first|(refine zF fun K hK=>?_)|(refine zA fun K hK=>?_;simp (disch:=omega) [go_sem, *,Tryz.ntmps172])|(apply zC.out hK;clear hK K;try with_reducible dsimp only[zG])|(refine zJ ?_))
 refine z8 (fun s'=>∃(i n':Nat) (a:List Tk) (h':zI),i≤s.size∧I i a h' n'∧s'=⟨156,[(0,.yld m),(1,.fptr [sv s]),(3,iv .i64 i)],h',n'⟩)
   (fun s'=>s.size - (ZL s' 3).toNat) ?_ ?_
 ·refine zS (by simp[go_sem]) (Sub.refl _) ⟨0,_,[],h,by omega,mono.out _ _ _ _ _ hI0.out ?_,rfl⟩
  omega
 ·rintro s' ⟨i,n',a,h',hi,hIi,rfl⟩
  replace hIi:zC _:=hIi
  by_cases hlt:i < s.size
  ·obtain⟨x,hx⟩:∃x,s[i]=x:=⟨_,rfl⟩
   have hxl:s.data.toList[i]? = some x:=by
    have hz:i < s.data.toList.length:=by rw[Array.length_toList];exact hlt
    rw[List.getElem?_eq_getElem hz,←hx];rfl
   have hst:=fun h2 n2 k v j=>step.out i a h' n' h2 n2 x k v j hIi.out
   have hbd:=fun h2 n2 t j=>bad.out i a h' n' h2 n2 x t j hIi.out
   have hsk:=fun h2 n2 j=>skip.out i a h' n' h2 n2 x j hIi.out
   replace hst:zC _:=hst
   replace hbd:zC _:=hbd
   replace hsk:zC _:=hsk
   replace hxl:zC _:=hxl
   iterate 22 (first|(refine zF fun K hK=>?_)|(refine zA fun K hK=>?_;simp (disch:=omega) [go_sem, *,zM,zO,zP])|(apply zC.out hK;clear hK K;try with_reducible dsimp only[zG])|(apply zC.out ht;clear ht hf Kt Kf)|(refine zJ ?_)|(refine zL ?_;simp only[zG])|(refine zH fun Kt Kf ht hf=>?_;simp (disch:=omega) [go_sem, *];try (refine⟨fun hc=>?_,fun hc=>?_⟩ <;> try (exfalso;omega))))
   refine zF fun K hK=>?_
   refine J2 (fun s'=>∃(n2 q e p:Nat) (k:Int) (t0:ByteArray) (h2:zI),n'≤q∧q < n2∧i≤e∧e≤s.size∧(∀y,y < n'→h2 y=h' y)∧h2 q=some (.cells [iv .i64 k,sv t0,iv .i64 p])∧
    ((k≠0∧p=i∧∃v,Ze s i x.toNat=.tok k v e)∨(k=0∧Ze s i x.toNat=.bad p))∧
    s'=⟨156,[(0,.yld m),(1,.fptr [sv s]),(3,iv .i64 i),(5,.ptr q 0),(6,iv .i64 e)],h2,n2⟩) ?_ ?_
   ·rintro s' ⟨n2,q,e,p,k,t0,h2,c1,c2,c3,c4,c5,c6,c7,rfl⟩
    refine hK.out _ ?_
    clear hK K
    refine zF fun K hK=>?_
    refine zA fun K2 hK2=>?_
    simp (disch:=omega) [go_sem,c3,c4,c6]
    refine hK2.out _ ?_
    clear hK2 K2
    try with_reducible dsimp only[zG]
    refine hK.out _ ?_
    clear hK K
    refine ac_fzbox (t:=5) (m:=q) (c:=[iv .i64 k,sv (s.extract i e),iv .i64 p]) (by simp (disch:=omega) only[zD]) (by simp[go_sem]) ?_
    have hfr:∀H:zI,H=(h2.upd q (some (.cells [iv .i64 k,sv (s.extract i e),iv .i64 p]))).upd q none→∀y,y < n'→H y=h' y:=fun H eH y hy=>by rw[eH,zB _ _ _ _ (by omega),zB _ _ _ _ (by omega)];exact c5 y hy
    replace hfr:zC _:=hfr
    clear c5
    rcases c7 with ⟨hk0,rfl,v,hlex⟩ | ⟨rfl,hlex⟩
    ·have hkb:(k == 0)=false:=by simpa using hk0
     replace hlex:zC _:=hlex
     repeat' (first|(refine zF fun K hK=>?_)|(refine zA fun K hK=>?_;simp (disch:=omega) [go_sem, *]))
     refine hst.out _ _ k v e (by omega) (hfr.out _ rfl) hxl.out hlex.out _ (fun h3 n3 hI3=>?_) (fun h3 n3 hJ3=>hJ3.elim)
     replace hI3:zC _:=hI3
     obtain⟨j1,j2⟩:=QJ hxl.out hlex.out
     simp (disch:=omega) [go_sem]
     repeat' (first|(refine zA fun K hK=>?_;simp (disch:=omega) [go_sem, *])|(apply zC.out hK;clear hK K;try with_reducible dsimp only[zG])|(apply zC.out hf;clear ht hf Kt Kf)|(refine zL ?_;simp only[zG])|(refine zH fun Kt Kf ht hf=>?_;simp (disch:=omega) [go_sem, *];try (refine⟨fun hc=>?_,fun hc=>?_⟩ <;> try (exfalso;omega))))
     try dsimp only[zG,zN]
     exact zl (by simp (disch:=omega) [go_sem]) (Sub.refl _) ⟨e,_,_,h3,c4,mono.out _ _ _ _ _ hI3.out (by omega),rfl⟩ (by simp[ZL,go_sem];omega)
    ·replace hlex:zC _:=hlex
     repeat' (first|(refine zF fun K hK=>?_)|(refine zA fun K hK=>?_;simp (disch:=omega) [go_sem, *]))
     refine hbd.out _ _ (s.extract i e) p (by omega) (hfr.out _ rfl) hxl.out hlex.out _ (fun h3 n3 hI3=>hI3.elim) (fun h3 n3 hJ3=>?_)
     replace hJ3:zC _:=hJ3
     simp (disch:=omega) [go_sem]
     repeat' (first|(apply zC.out hK;clear hK K;try with_reducible dsimp only[zG])|(apply zC.out ht;clear ht hf Kt Kf)|(refine zH fun Kt Kf ht hf=>?_;simp (disch:=omega) [go_sem, *];try (refine⟨fun hc=>?_,fun hc=>?_⟩ <;> try (exfalso;omega))))
     refine zb ?_
     try dsimp only[zG,zN]
     exact⟨by simp,_,rfl,zY (hJ.out _ _ hJ3.out)⟩
   ·have hxu:x.toNat < 256:=x.toNat_lt
    have kl:=letter135 x.toNat
    have kd:=digit158 x.toNat
    have kr:=fun p hp=>run_gen p hp
    clear kr hx
    obtain⟨u,hu⟩:∃u,x.toNat=u:=⟨_,rfl⟩
    have hlxs:∀S,Ze s i u=S→Ze s i x.toNat=S:=fun S e=>by rw[hu];exact e
    replace hlxs:zC _:=hlxs
    have hrl:=fun (e:JM u=true)=>runF_gt (p:=js) hxl.out (by rw[hu];simp[js,e])
    have hrn:=fun (e:u=35)=>runF_gt (p:=nlf) hxl.out (by rw[hu,e];rfl)
    have hrd:=fun (e:jk u=true)=>numE_le hxl.out (by rw[hu];exact e)
    rw[hu] at kl kd hrd hxu ⊢
    replace hrl:zC _:=hrl
    replace hrn:zC _:=hrn
    replace hrd:zC _:=hrd
    replace hu:zC _:=hu
    rcases Decidable.em (u=32) with rfl | h32
    ·have hS:Ze s i 32=.skip (i + 1):=rfl
     repeat' (first|(refine zF fun K hK=>?_)|(refine zA fun K hK=>?_;simp (disch:=omega) [go_sem, *,zM])|(apply zC.out hK;clear hK K;try with_reducible dsimp only[zG])|(apply zC.out ht;clear ht hf Kt Kf)|(refine zJ ?_)|(refine zk ?_;simp only[zG,zN,if_true,if_false,Nat.reduceEqDiff])|(refine zH fun Kt Kf ht hf=>?_;simp (disch:=omega) [go_sem, *];try (refine⟨fun hc=>?_,fun hc=>?_⟩ <;> try (exfalso;omega))))
     exact zl (by simp (disch:=omega) [go_sem]) (Sub.refl _) ⟨i + 1,_,a,_,by omega,hsk.out _ _ _ (by (try simp only);omega) (fun y hy=>by simp (disch:=omega) only[zB]) hxl.out (hlxs.out _ hS),rfl⟩ (by simp[ZL,go_sem];omega)
    rcases Decidable.em (u=9) with rfl | h9
    ·have hS:Ze s i 9=.skip (i + 1):=rfl
     repeat' (first|(refine zF fun K hK=>?_)|(refine zA fun K hK=>?_;simp (disch:=omega) [go_sem, *,zM])|(apply zC.out hK;clear hK K;try with_reducible dsimp only[zG])|(apply zC.out ht;clear ht hf Kt Kf)|(refine zJ ?_)|(refine zk ?_;simp only[zG,zN,if_true,if_false,Nat.reduceEqDiff])|(refine zH fun Kt Kf ht hf=>?_;simp (disch:=omega) [go_sem, *];try (refine⟨fun hc=>?_,fun hc=>?_⟩ <;> try (exfalso;omega))))
     exact zl (by simp (disch:=omega) [go_sem]) (Sub.refl _) ⟨i + 1,_,a,_,by omega,hsk.out _ _ _ (by (try simp only);omega) (fun y hy=>by simp (disch:=omega) only[zB]) hxl.out (hlxs.out _ hS),rfl⟩ (by simp[ZL,go_sem];omega)
    rcases Decidable.em (u=10) with rfl | h10
    ·have hS:Ze s i 10=.skip (i + 1):=rfl
     repeat' (first|(refine zF fun K hK=>?_)|(refine zA fun K hK=>?_;simp (disch:=omega) [go_sem, *,zM])|(apply zC.out hK;clear hK K;try with_reducible dsimp only[zG])|(apply zC.out ht;clear ht hf Kt Kf)|(refine zJ ?_)|(refine zk ?_;simp only[zG,zN,if_true,if_false,Nat.reduceEqDiff])|(refine zH fun Kt Kf ht hf=>?_;simp (disch:=omega) [go_sem, *];try (refine⟨fun hc=>?_,fun hc=>?_⟩ <;> try (exfalso;omega))))
     exact zl (by simp (disch:=omega) [go_sem]) (Sub.refl _) ⟨i + 1,_,a,_,by omega,hsk.out _ _ _ (by (try simp only);omega) (fun y hy=>by simp (disch:=omega) only[zB]) hxl.out (hlxs.out _ hS),rfl⟩ (by simp[ZL,go_sem];omega)
    rcases Decidable.em (u=35) with rfl | h35
    ·have hS:Ze s i 35=.skip (JU nlf s i):=rfl
     have k1:=run_gen 173 nlf nl_spec s hl i (by omega)
     have r1:=hrn.out rfl
     have r2:=(runF_le (p:=nlf) (s:=s) (i:=i) (by omega)).2
     repeat' (first|(refine zF fun K hK=>?_)|(refine zA fun K hK=>?_;simp (disch:=omega) [go_sem, *])|(apply zC.out hK;clear hK K;try with_reducible dsimp only[zG])|(apply zC.out ht;clear ht hf Kt Kf)|(apply zC.out hf;clear ht hf Kt Kf)|(with_reducible refine zK.gcall (k1) ?_;try simp (disch:=omega) [go_sem, *])|(refine zJ ?_)|(refine zk ?_;simp only[zG,zN,if_true,if_false,Nat.reduceEqDiff])|(refine zH fun Kt Kf ht hf=>?_;simp (disch:=omega) [go_sem, *];try (refine⟨fun hc=>?_,fun hc=>?_⟩ <;> try (exfalso;omega))))
     exact zl (by simp (disch:=omega) [go_sem]) (Sub.refl _) ⟨JU nlf s i,_,a,_,r2,hsk.out _ _ _ (by (try simp only);omega) (fun y hy=>by simp (disch:=omega) only[zB]) hxl.out (hlxs.out _ hS),rfl⟩ (by simp[ZL,go_sem];omega)
    have m32:((u:Int) == 32)=false:=by simp only[beq_eq_false_iff_ne];omega
    have m9:((u:Int) == 9)=false:=by simp only[beq_eq_false_iff_ne];omega
    have m10:((u:Int) == 10)=false:=by simp only[beq_eq_false_iff_ne];omega
    have m35:((u:Int) == 35)=false:=by simp only[beq_eq_false_iff_ne];omega
    have hS0:Ze s i u=if JM u=true then (if 24 < JU js s i - i then .bad i else .tok (if inS (s.extract i (JU js s i)) resl then 3 else 1) 0 (JU js s i))
      else if jk u=true then (if 10000 < numV s i u then .bad i else if nxt s (qi s i u) (fun w=>js w || uppr w)=true then .bad (qi s i u) else .tok 2 (numV s i u) (qi s i u))
      else if mkL s i u=0 then .bad i else .tok 3 0 (i + mkL s i u):=by
     unfold Ze
     rw[if_neg (by omega),if_neg h35]
    cases hlw:JM u with
    | true=>
     rw[hlw] at kl
     have k1:=run_gen 143 js plain137 s hl i (by omega)
     have r1:=hrl.out hlw
     have r2:=(runF_le (p:=js) (s:=s) (i:=i) (by omega)).2
     have hS1:=hS0
     rw[if_pos hlw] at hS1
     clear hS0 hrd hrl hrn kd
     generalize JU js s i=e at *
     have sz:(s.extract i e).size=e - i:=by rw[ByteArray.size_extract];omega
     have k2:=word138 (s.extract i e)
     rw[sz] at k2
     clear sz
     by_cases h24:24 < e - i
     ·rw[if_pos h24] at hS1 k2
      replace hS1:zC _:=hS1
      repeat' (first|(refine zF fun K hK=>?_)|(refine zA fun K hK=>?_;simp (disch:=omega) [go_sem, *,zP])|(apply zC.out hK;clear hK K;try with_reducible dsimp only[zG])|(apply zC.out ht;clear ht hf Kt Kf)|(apply zC.out hf;clear ht hf Kt Kf)|(with_reducible refine zK.gcall (kl) ?_;try simp (disch:=omega) [go_sem, *])|(with_reducible refine zK.gcall (k1) ?_;try simp (disch:=omega) [go_sem, *])|(with_reducible refine zK.gcall (k2) ?_;try simp (disch:=omega) [go_sem, *])|(refine zJ ?_)|(refine zH fun Kt Kf ht hf=>?_;simp (disch:=omega) [go_sem, *];try (refine⟨fun hc=>?_,fun hc=>?_⟩ <;> try (exfalso;omega))))
      exact zS (by simp[go_sem]) (Sub.refl _) ⟨_,n' + 4 + 4 + 2,e,i,0,⟨#[]⟩,_,by omega,by (try simp only);omega,by omega,by omega,fun y hy=>by simp (disch:=omega) only[zB],zD _ _ _,(.inr ⟨rfl,hS1.out⟩),rfl⟩
     ·rw[if_neg h24] at hS1 k2
      cases hin:inS (s.extract i e) resl with
      | true=>
       rw[hin,if_pos rfl] at hS1 k2
       clear hin
       replace hS1:zC _:=hS1
       repeat' (first|(refine zF fun K hK=>?_)|(refine zA fun K hK=>?_;simp (disch:=omega) [go_sem, *,zP])|(apply zC.out hK;clear hK K;try with_reducible dsimp only[zG])|(apply zC.out ht;clear ht hf Kt Kf)|(apply zC.out hf;clear ht hf Kt Kf)|(with_reducible refine zK.gcall (kl) ?_;try simp (disch:=omega) [go_sem, *])|(with_reducible refine zK.gcall (k1) ?_;try simp (disch:=omega) [go_sem, *])|(with_reducible refine zK.gcall (k2) ?_;try simp (disch:=omega) [go_sem, *])|(refine zJ ?_)|(refine zH fun Kt Kf ht hf=>?_;simp (disch:=omega) [go_sem, *];try (refine⟨fun hc=>?_,fun hc=>?_⟩ <;> try (exfalso;omega))))
       exact zS (by simp[go_sem]) (Sub.refl _) ⟨_,n' + 4 + 4 + 2,e,i,3,⟨#[]⟩,_,by omega,by (try simp only);omega,by omega,by omega,fun y hy=>by simp (disch:=omega) only[zB],zD _ _ _,(.inl ⟨by decide,rfl,0,hS1.out⟩),rfl⟩
      | false=>
       rw[hin,if_neg (by simp)] at hS1 k2
       clear hin
       replace hS1:zC _:=hS1
       repeat' (first|(refine zF fun K hK=>?_)|(refine zA fun K hK=>?_;simp (disch:=omega) [go_sem, *,zP])|(apply zC.out hK;clear hK K;try with_reducible dsimp only[zG])|(apply zC.out ht;clear ht hf Kt Kf)|(apply zC.out hf;clear ht hf Kt Kf)|(with_reducible refine zK.gcall (kl) ?_;try simp (disch:=omega) [go_sem, *])|(with_reducible refine zK.gcall (k1) ?_;try simp (disch:=omega) [go_sem, *])|(with_reducible refine zK.gcall (k2) ?_;try simp (disch:=omega) [go_sem, *])|(refine zJ ?_)|(refine zH fun Kt Kf ht hf=>?_;simp (disch:=omega) [go_sem, *];try (refine⟨fun hc=>?_,fun hc=>?_⟩ <;> try (exfalso;omega))))
       exact zS (by simp[go_sem]) (Sub.refl _) ⟨_,n' + 4 + 4 + 2,e,i,1,⟨#[]⟩,_,by omega,by (try simp only);omega,by omega,by omega,fun y hy=>by simp (disch:=omega) only[zB],zD _ _ _,(.inl ⟨by decide,rfl,0,hS1.out⟩),rfl⟩
    | false=>
     rw[hlw] at kl
     cases hdg:jk u with
     | true=>
      rw[hdg] at kd
      have hS1:=hS0
      rw[if_neg (by rw[hlw];simp),if_pos hdg] at hS1
      obtain⟨d1,d2⟩:=hrd.out hdg
      clear hS0 hrd hrl hrn
      obtain⟨e,he⟩:∃e,qi s i u=e:=⟨_,rfl⟩
      rw[he] at hS1 d1 d2
      have hnv:numV s i u=valN (s.extract i e).data.toList:=by rw[numV,he]
      rw[hnv] at hS1
      clear hnv
      replace hS1:zC _:=hS1
      replace he:zC _:=he
      have hdgs:dgts (s.extract i e).data.toList:=by rw[←he.out,←hu.out];exact num_dgts hxl.out (by rw[hu.out];exact hdg)
      have hne:(s.extract i e).data.toList≠[]:=fun e0=>by
       have:=congrArg List.length e0
       rw[ZT,ByteArray.size_extract] at this
       simp at this;omega
      have at0:=atoi_dig hne hdgs
      have sat0:=sat_dig hne hdgs
      have hwz:(s.extract i e).size≤1000000:=by rw[ByteArray.size_extract];omega
      replace hdgs:zC _:=hdgs
      replace hne:zC _:=hne
      replace at0:zC _:=at0
      replace sat0:zC _:=sat0
      iterate 28 (first|(refine zF fun K hK=>?_)|(refine zA fun K hK=>?_;simp (disch:=omega) [go_sem, *])|(apply zC.out hK;clear hK K;try with_reducible dsimp only[zG])|(apply zC.out ht;clear ht hf Kt Kf)|(apply zC.out hf;clear ht hf Kt Kf)|(with_reducible refine zK.gcall (kl) ?_;try simp (disch:=omega) [go_sem, *])|(with_reducible refine zK.gcall (kd) ?_;try simp (disch:=omega) [go_sem, *])|(refine zJ ?_)|(refine zH fun Kt Kf ht hf=>?_;simp (disch:=omega) [go_sem, *];try (refine⟨fun hc=>?_,fun hc=>?_⟩ <;> try (exfalso;omega))))
      refine J2 (fun s'=>∃n3,n' + 15≤n3∧s'=⟨156,[(0,.yld m),(1,.fptr [sv s]),(3,iv .i64 i),(5,.ptr (n' + 4 + 4 + 2) 0),(6,iv .i64 e)],(h'.upd (n' + 4 + 4 + 2) (some (.cells [iv .i64 0,sv ByteArray.empty,iv .i64 0]))).upd (n' + 4 + 4 + 2) (some (.cells [iv .i64 0,sv ByteArray.empty,iv .i64 i])),n3⟩) ?_ ?_
      ·rintro s' ⟨n3,hn3,rfl⟩
       refine hK.out _ ?_
       clear hK K kl kd he
       by_cases h10k:10000 < valN (s.extract i e).data.toList
       ·have hS2:=hS1.out
        rw[if_pos h10k] at hS2
        clear hS1
        replace hS2:zC _:=hS2
        by_cases hmx:valN (s.extract i e).data.toList≤9223372036854775807
        ·have k3:=atoi_ok (s.extract i e) hwz _ (at0.out.trans (if_pos hmx))
         generalize valN (s.extract i e).data.toList=V at *
         have hv:¬((V:Int)≤10000):=by omega
         repeat' (first|(refine zF fun K hK=>?_)|(refine zA fun K hK=>?_;simp (disch:=omega) [go_sem, *,zP])|(apply zC.out hK;clear hK K;try with_reducible dsimp only[zG])|(apply zC.out hf;clear ht hf Kt Kf)|(with_reducible refine zK.gcall (k3) ?_;try simp (disch:=omega) [go_sem, *])|(refine zL ?_;simp only[zG,zN])|(refine zH fun Kt Kf ht hf=>?_;simp (disch:=omega) [go_sem, *];try (refine⟨fun hc=>?_,fun hc=>?_⟩ <;> try (exfalso;omega))))
         exact zS (by simp[go_sem]) (Sub.refl _) ⟨_,n' + 4 + 4 + 2,e,i,0,⟨#[]⟩,_,by omega,by (try simp only);omega,by omega,by omega,fun y hy=>by simp (disch:=omega) only[zB],(by first | exact zD _ _ _|(simp (disch:=omega) only[zB,zD] <;> rfl)),(.inr ⟨rfl,hS2.out⟩),rfl⟩
        ·have k3:=atoi_range (s.extract i e) hwz (at0.out.trans (if_neg hmx))
         rw[sat0.out] at k3
         generalize valN (s.extract i e).data.toList=V at *
         repeat' (first|(refine zF fun K hK=>?_)|(refine zA fun K hK=>?_;simp (disch:=omega) [go_sem, *,zP])|(apply zC.out hK;clear hK K;try with_reducible dsimp only[zG])|(apply zC.out hf;clear ht hf Kt Kf)|(with_reducible refine zK.gcall (k3) ?_;try simp (disch:=omega) [go_sem, *])|(refine zL ?_;simp only[zG,zN])|(refine zH fun Kt Kf ht hf=>?_;simp (disch:=omega) [go_sem, *];try (refine⟨fun hc=>?_,fun hc=>?_⟩ <;> try (exfalso;omega))))
         exact zS (by simp[go_sem]) (Sub.refl _) ⟨_,n' + 4 + 4 + 2,e,i,0,⟨#[]⟩,_,by omega,by (try simp only);omega,by omega,by omega,fun y hy=>by simp (disch:=omega) only[zB],(by first | exact zD _ _ _|(simp (disch:=omega) only[zB,zD] <;> rfl)),(.inr ⟨rfl,hS2.out⟩),rfl⟩
       ·have hS2:=hS1.out
        rw[if_neg h10k] at hS2
        clear hS1
        have k3:=atoi_ok (s.extract i e) hwz _ (at0.out.trans (if_pos (by omega)))
        generalize valN (s.extract i e).data.toList=V at *
        have hv:(V:Int)≤10000:=by omega
        by_cases hes:e < s.size
        ·obtain⟨y,hy⟩:∃y,s[e]=y:=⟨_,rfl⟩
         have hyl:s.data.toList[e]? = some y:=by
          have hz:e < s.data.toList.length:=by rw[Array.length_toList];exact hes
          rw[List.getElem?_eq_getElem hz,←hy];rfl
         have k5:=plain137 y.toNat
         have hyu:y.toNat < 256:=y.toNat_lt
         obtain⟨z,hz⟩:∃z,y.toNat=z:=⟨_,rfl⟩
         have hn1:nxt s e (fun w=>js w || uppr w)=(js z || uppr z):=by rw[nxt,hyl,←hz]
         rw[hn1] at hS2
         rw[hz] at k5 hyu
         clear hyl hn1
         cases hpl:js z with
         | true=>
          rw[hpl] at k5
          have hS3:Ze s i u=.bad e:=by rw[hS2,hpl];rfl
          clear hS2
          replace hS3:zC _:=hS3
          repeat' (first|(refine zF fun K hK=>?_)|(refine zA fun K hK=>?_;simp (disch:=omega) [go_sem, *,zO,zP])|(apply zC.out hK;clear hK K;try with_reducible dsimp only[zG])|(apply zC.out ht;clear ht hf Kt Kf)|(with_reducible refine zK.gcall (k3) ?_;try simp (disch:=omega) [go_sem, *])|(with_reducible refine zK.gcall (k5) ?_;try simp (disch:=omega) [go_sem, *])|(refine zH fun Kt Kf ht hf=>?_;simp (disch:=omega) [go_sem, *];try (refine⟨fun hc=>?_,fun hc=>?_⟩ <;> try (exfalso;omega))))
          exact zS (by simp[go_sem]) (Sub.refl _) ⟨_,n' + 4 + 4 + 2,e,e,0,⟨#[]⟩,_,by omega,by (try simp only);omega,by omega,by omega,fun y hy=>by simp (disch:=omega) only[zB],(by first | exact zD _ _ _|(simp (disch:=omega) only[zB,zD] <;> rfl)),(.inr ⟨rfl,hS3.out⟩),rfl⟩
         | false=>
          rw[hpl] at k5
          by_cases h65:65≤z
          ·by_cases h90:z≤90
           ·have hS3:Ze s i u=.bad e:=by
             have:uppr z=true:=by simp[uppr,h65,h90]
             rw[hS2,hpl,this];rfl
            clear hS2
            replace hS3:zC _:=hS3
            have hi1:(65:Int)≤z:=by omega
            have hi2:(z:Int)≤90:=by omega
            repeat' (first|(refine zF fun K hK=>?_)|(refine zA fun K hK=>?_;simp (disch:=omega) [go_sem, *,zO,zP])|(apply zC.out hK;clear hK K;try with_reducible dsimp only[zG])|(apply zC.out ht;clear ht hf Kt Kf)|(with_reducible refine zK.gcall (k3) ?_;try simp (disch:=omega) [go_sem, *])|(with_reducible refine zK.gcall (k5) ?_;try simp (disch:=omega) [go_sem, *,zP])|(refine zH fun Kt Kf ht hf=>?_;simp (disch:=omega) [go_sem, *];try (refine⟨fun hc=>?_,fun hc=>?_⟩ <;> try (exfalso;omega))))
            exact zS (by simp[go_sem]) (Sub.refl _) ⟨_,n' + 4 + 4 + 2,e,e,0,⟨#[]⟩,_,by omega,by (try simp only);omega,by omega,by omega,fun y hy=>by simp (disch:=omega) only[zB],(by first | exact zD _ _ _|(simp (disch:=omega) only[zB,zD] <;> rfl)),(.inr ⟨rfl,hS3.out⟩),rfl⟩
           ·have hS3:Ze s i u=.tok 2 V e:=by
             have:uppr z=false:=by simp[uppr,h90]
             rw[hS2,hpl,this];rfl
            clear hS2
            replace hS3:zC _:=hS3
            have hi1:(65:Int)≤z:=by omega
            have hi2:¬(z:Int)≤90:=by omega
            repeat' (first|(refine zF fun K hK=>?_)|(refine zA fun K hK=>?_;simp (disch:=omega) [go_sem, *,zO,zP])|(apply zC.out hK;clear hK K;try with_reducible dsimp only[zG])|(apply zC.out ht;clear ht hf Kt Kf)|(apply zC.out hf;clear ht hf Kt Kf)|(with_reducible refine zK.gcall (k3) ?_;try simp (disch:=omega) [go_sem, *])|(with_reducible refine zK.gcall (k5) ?_;try simp (disch:=omega) [go_sem, *,zP])|(refine zL ?_;simp only[zG,zN])|(refine zH fun Kt Kf ht hf=>?_;simp (disch:=omega) [go_sem, *];try (refine⟨fun hc=>?_,fun hc=>?_⟩ <;> try (exfalso;omega))))
            exact zS (by simp[go_sem]) (Sub.refl _) ⟨_,n' + 4 + 4 + 2,e,i,2,⟨#[]⟩,_,by omega,by (try simp only);omega,by omega,by omega,fun y hy=>by simp (disch:=omega) only[zB],(by first | exact zD _ _ _|(simp (disch:=omega) only[zB,zD] <;> rfl)),(.inl ⟨by decide,rfl,V,hS3.out⟩),rfl⟩
          ·have hS3:Ze s i u=.tok 2 V e:=by
            have:uppr z=false:=by simp[uppr,h65]
            rw[hS2,hpl,this];rfl
           clear hS2
           replace hS3:zC _:=hS3
           have hi1:¬(65:Int)≤z:=by omega
           repeat' (first|(refine zF fun K hK=>?_)|(refine zA fun K hK=>?_;simp (disch:=omega) [go_sem, *,zO,zP])|(apply zC.out hK;clear hK K;try with_reducible dsimp only[zG])|(apply zC.out ht;clear ht hf Kt Kf)|(apply zC.out hf;clear ht hf Kt Kf)|(with_reducible refine zK.gcall (k3) ?_;try simp (disch:=omega) [go_sem, *])|(with_reducible refine zK.gcall (k5) ?_;try simp (disch:=omega) [go_sem, *,zP])|(refine zL ?_;simp only[zG,zN])|(refine zH fun Kt Kf ht hf=>?_;simp (disch:=omega) [go_sem, *];try (refine⟨fun hc=>?_,fun hc=>?_⟩ <;> try (exfalso;omega))))
           exact zS (by simp[go_sem]) (Sub.refl _) ⟨_,n' + 4 + 4 + 2,e,i,2,⟨#[]⟩,_,by omega,by (try simp only);omega,by omega,by omega,fun y hy=>by simp (disch:=omega) only[zB],(by first | exact zD _ _ _|(simp (disch:=omega) only[zB,zD] <;> rfl)),(.inl ⟨by decide,rfl,V,hS3.out⟩),rfl⟩
        ·have hn0:nxt s e (fun w=>js w || uppr w)=false:=by
          unfold nxt
          rw[List.getElem?_eq_none (by rw[ZT];omega)]
         rw[hn0,if_neg (by simp)] at hS2
         clear hn0
         replace hS2:zC _:=hS2
         repeat' (first|(refine zF fun K hK=>?_)|(refine zA fun K hK=>?_;simp (disch:=omega) [go_sem, *,zT,zP])|(apply zC.out hK;clear hK K;try with_reducible dsimp only[zG])|(apply zC.out ht;clear ht hf Kt Kf)|(apply zC.out hf;clear ht hf Kt Kf)|(with_reducible refine zK.gcall (k3) ?_;try simp (disch:=omega) [go_sem, *])|(refine zL ?_;simp only[zG,zN])|(refine zH fun Kt Kf ht hf=>?_;simp (disch:=omega) [go_sem, *];try (refine⟨fun hc=>?_,fun hc=>?_⟩ <;> try (exfalso;omega))))
         exact zS (by simp[go_sem]) (Sub.refl _) ⟨_,n' + 4 + 4 + 2,e,i,2,⟨#[]⟩,_,by omega,by (try simp only);omega,by omega,by omega,fun y hy=>by simp (disch:=omega) only[zB],(by first | exact zD _ _ _|(simp (disch:=omega) only[zB,zD] <;> rfl)),(.inl ⟨by decide,rfl,V,hS2.out⟩),rfl⟩
      ·by_cases h48:u=48
       ·have hee:e=i + 1:=by rw[←he.out,qi,if_pos h48]
        subst hee
        have m48:((u:Int) == 48)=true:=by simp only[beq_iff_eq];omega
        have m48':((u:Int) != 48)=false:=by rw[bne,m48];rfl
        clear hS1 at0 sat0
        repeat' (first|(refine zF fun K hK=>?_)|(refine zA fun K hK=>?_;simp (disch:=omega) [go_sem, *])|(apply zC.out hK;clear hK K;try with_reducible dsimp only[zG])|(apply zC.out hf;clear ht hf Kt Kf)|(refine zL ?_;simp only[zG])|(refine zH fun Kt Kf ht hf=>?_;simp (disch:=omega) [go_sem, *];try (refine⟨fun hc=>?_,fun hc=>?_⟩ <;> try (exfalso;omega))))
        exact zS (by simp[go_sem]) (Sub.refl _) ⟨_,by (try simp only);omega,rfl⟩
       ·have hee:e=JU jk s i:=by rw[←he.out,qi,if_neg h48]
        have k1:=run_gen 174 jk digit158 s hl i (by omega)
        rw[←hee] at k1
        have m48:((u:Int) == 48)=false:=by simp only[beq_eq_false_iff_ne];omega
        have m48':((u:Int) != 48)=true:=by rw[bne,m48];rfl
        clear hS1 at0 sat0 hee
        repeat' (first|(refine zF fun K hK=>?_)|(refine zA fun K hK=>?_;simp (disch:=omega) [go_sem, *])|(apply zC.out hK;clear hK K;try with_reducible dsimp only[zG])|(apply zC.out ht;clear ht hf Kt Kf)|(with_reducible refine zK.gcall (k1) ?_;try simp (disch:=omega) [go_sem, *])|(refine zH fun Kt Kf ht hf=>?_;simp (disch:=omega) [go_sem, *];try (refine⟨fun hc=>?_,fun hc=>?_⟩ <;> try (exfalso;omega))))
        exact zS (by simp[go_sem]) (Sub.refl _) ⟨_,by (try simp only);omega,rfl⟩
     | false=>
      rw[hdg] at kd
      have hS1:=hS0
      rw[if_neg (by rw[hlw];simp),if_neg (by rw[hdg];simp)] at hS1
      clear hS0 hrd hrl hrn
      have k6:=idxByte mkB x
      rw[hu.out] at k6
      have hFi:(u=59∨u=44∨u=40∨u=41∨u=61)→0≤firstIdx mkB x:=fun h=>fi_in x (by rw[hu.out];exact h)
      have hFo:¬(u=59∨u=44∨u=40∨u=41∨u=61)→¬0≤firstIdx mkB x:=fun h=>fi_out x (by rw[hu.out];exact h)
      generalize firstIdx mkB x=F at *
      unfold mkB at k6
      by_cases h5:u=59∨u=44∨u=40∨u=41∨u=61
      ·have hF:=hFi h5
       have hS3:Ze s i u=.tok 3 0 (i + 1):=by
        have:mkL s i u=1:=by rw[mkL,if_pos h5]
        rw[hS1,this];rfl
       clear hFi hFo hS1 h5
       replace hS3:zC _:=hS3
       repeat' (first|(refine zF fun K hK=>?_)|(refine zA fun K hK=>?_;simp (disch:=omega) [go_sem, *])|(apply zC.out hK;clear hK K;try with_reducible dsimp only[zG])|(apply zC.out ht;clear ht hf Kt Kf)|(apply zC.out hf;clear ht hf Kt Kf)|(with_reducible refine zK.gcall (kl) ?_;try simp (disch:=omega) [go_sem, *])|(with_reducible refine zK.gcall (kd) ?_;try simp (disch:=omega) [go_sem, *])|(with_reducible refine zK.gcall (k6) ?_;try simp (disch:=omega) [go_sem, *])|(refine zJ ?_)|(refine zH fun Kt Kf ht hf=>?_;simp (disch:=omega) [go_sem, *];try (refine⟨fun hc=>?_,fun hc=>?_⟩ <;> try (exfalso;omega))))
       exact zS (by simp[go_sem]) (Sub.refl _) ⟨_,n' + 4 + 4 + 2,i + 1,i,3,⟨#[]⟩,_,by omega,by (try simp only);omega,by omega,by omega,fun y hy=>by simp (disch:=omega) only[zB],(by first | exact zD _ _ _|(simp (disch:=omega) only[zB,zD] <;> rfl)),(.inl ⟨by decide,rfl,0,hS3.out⟩),rfl⟩
      ·have hF:=hFo h5
       clear hFi hFo
       by_cases h60:u=60
       ·have m60:((u:Int) == 60)=true:=by simp only[beq_iff_eq];omega
        replace h60:zC _:=h60
        by_cases hn:i + 1 < s.size
        ·obtain⟨y,hy⟩:∃y,s[i + 1]=y:=⟨_,rfl⟩
         have hyl:s.data.toList[i + 1]? = some y:=by
          have hz:i + 1 < s.data.toList.length:=by rw[Array.length_toList];exact hn
          rw[List.getElem?_eq_getElem hz,←hy];rfl
         by_cases h61:y=61
         ·subst h61
          have hS3:Ze s i u=.tok 3 0 (i + 2):=by
           have:mkL s i u=2:=by rw[h60.out,mkL,hyl];rfl
           rw[hS1,this];rfl
          clear hS1 hyl h5
          replace hS3:zC _:=hS3
          repeat' (first|(refine zF fun K hK=>?_)|(refine zA fun K hK=>?_;simp (disch:=omega) [go_sem, *,zM,zO,zP])|(apply zC.out hK;clear hK K;try with_reducible dsimp only[zG])|(apply zC.out ht;clear ht hf Kt Kf)|(apply zC.out hf;clear ht hf Kt Kf)|(with_reducible refine zK.gcall (kl) ?_;try simp (disch:=omega) [go_sem, *])|(with_reducible refine zK.gcall (kd) ?_;try simp (disch:=omega) [go_sem, *])|(with_reducible refine zK.gcall (k6) ?_;try simp (disch:=omega) [go_sem, *])|(refine zJ ?_)|(refine zH fun Kt Kf ht hf=>?_;simp (disch:=omega) [go_sem, *];try (refine⟨fun hc=>?_,fun hc=>?_⟩ <;> try (exfalso;omega))))
          exact zS (by simp[go_sem];omega) (Sub.refl _) ⟨_,n' + 4 + 4 + 2,i + 2,i,3,⟨#[]⟩,_,by omega,by (try simp only);omega,by omega,by omega,fun y hy=>by simp (disch:=omega) only[zB],(by first | exact zD _ _ _|(simp (disch:=omega) only[zB,zD] <;> rfl)),(.inl ⟨by decide,rfl,0,hS3.out⟩),rfl⟩
         ·have hS3:Ze s i u=.tok 3 0 (i + 1):=by
           have:mkL s i u=1:=by rw[h60.out,mkL,hyl];simp[h61]
           rw[hS1,this];rfl
          have hyu:y.toNat≠61:=fun e=>h61 (UInt8.toNat_inj.1 e)
          have hyb:((y.toNat:Int) == 61)=false:=by simp only[beq_eq_false_iff_ne];omega
          clear hS1 hyl h5 h61
          replace hS3:zC _:=hS3
          repeat' (first|(refine zF fun K hK=>?_)|(refine zA fun K hK=>?_;simp (disch:=omega) [go_sem, *,zO,zP])|(apply zC.out hK;clear hK K;try with_reducible dsimp only[zG])|(apply zC.out ht;clear ht hf Kt Kf)|(apply zC.out hf;clear ht hf Kt Kf)|(with_reducible refine zK.gcall (kl) ?_;try simp (disch:=omega) [go_sem, *])|(with_reducible refine zK.gcall (kd) ?_;try simp (disch:=omega) [go_sem, *])|(with_reducible refine zK.gcall (k6) ?_;try simp (disch:=omega) [go_sem, *])|(refine zJ ?_)|(refine zL ?_;simp only[zG,zN])|(refine zH fun Kt Kf ht hf=>?_;simp (disch:=omega) [go_sem, *];try (refine⟨fun hc=>?_,fun hc=>?_⟩ <;> try (exfalso;omega))))
          exact zS (by simp[go_sem]) (Sub.refl _) ⟨_,n' + 4 + 4 + 2,i + 1,i,3,⟨#[]⟩,_,by omega,by (try simp only);omega,by omega,by omega,fun y hy=>by simp (disch:=omega) only[zB],(by first | exact zD _ _ _|(simp (disch:=omega) only[zB,zD] <;> rfl)),(.inl ⟨by decide,rfl,0,hS3.out⟩),rfl⟩
        ·have hyl:s.data.toList[i + 1]? = none:=List.getElem?_eq_none (by rw[ZT];omega)
         have hS3:Ze s i u=.tok 3 0 (i + 1):=by
          have:mkL s i u=1:=by rw[h60.out,mkL,hyl];rfl
          rw[hS1,this];rfl
         clear hS1 hyl h5
         replace hS3:zC _:=hS3
         repeat' (first|(refine zF fun K hK=>?_)|(refine zA fun K hK=>?_;simp (disch:=omega) [go_sem, *,zT])|(apply zC.out hK;clear hK K;try with_reducible dsimp only[zG])|(apply zC.out ht;clear ht hf Kt Kf)|(apply zC.out hf;clear ht hf Kt Kf)|(with_reducible refine zK.gcall (kl) ?_;try simp (disch:=omega) [go_sem, *])|(with_reducible refine zK.gcall (kd) ?_;try simp (disch:=omega) [go_sem, *])|(with_reducible refine zK.gcall (k6) ?_;try simp (disch:=omega) [go_sem, *])|(refine zJ ?_)|(refine zL ?_;simp only[zG,zN])|(refine zH fun Kt Kf ht hf=>?_;simp (disch:=omega) [go_sem, *];try (refine⟨fun hc=>?_,fun hc=>?_⟩ <;> try (exfalso;omega))))
         exact zS (by simp[go_sem]) (Sub.refl _) ⟨_,n' + 4 + 4 + 2,i + 1,i,3,⟨#[]⟩,_,by omega,by (try simp only);omega,by omega,by omega,fun y hy=>by simp (disch:=omega) only[zB],(by first | exact zD _ _ _|(simp (disch:=omega) only[zB,zD] <;> rfl)),(.inl ⟨by decide,rfl,0,hS3.out⟩),rfl⟩
       by_cases h62:u=62
       ·have m60:((u:Int) == 60)=false:=by simp only[beq_eq_false_iff_ne];omega
        have m62:((u:Int) == 62)=true:=by simp only[beq_iff_eq];omega
        replace h62:zC _:=h62
        by_cases hn:i + 1 < s.size
        ·obtain⟨y,hy⟩:∃y,s[i + 1]=y:=⟨_,rfl⟩
         have hyl:s.data.toList[i + 1]? = some y:=by
          have hz:i + 1 < s.data.toList.length:=by rw[Array.length_toList];exact hn
          rw[List.getElem?_eq_getElem hz,←hy];rfl
         by_cases h61:y=61
         ·subst h61
          have hS3:Ze s i u=.tok 3 0 (i + 2):=by
           have:mkL s i u=2:=by rw[h62.out,mkL,hyl];rfl
           rw[hS1,this];rfl
          clear hS1 hyl h5
          replace hS3:zC _:=hS3
          repeat' (first|(refine zF fun K hK=>?_)|(refine zA fun K hK=>?_;simp (disch:=omega) [go_sem, *,zM,zO,zP])|(apply zC.out hK;clear hK K;try with_reducible dsimp only[zG])|(apply zC.out ht;clear ht hf Kt Kf)|(apply zC.out hf;clear ht hf Kt Kf)|(with_reducible refine zK.gcall (kl) ?_;try simp (disch:=omega) [go_sem, *])|(with_reducible refine zK.gcall (kd) ?_;try simp (disch:=omega) [go_sem, *])|(with_reducible refine zK.gcall (k6) ?_;try simp (disch:=omega) [go_sem, *])|(refine zJ ?_)|(refine zH fun Kt Kf ht hf=>?_;simp (disch:=omega) [go_sem, *];try (refine⟨fun hc=>?_,fun hc=>?_⟩ <;> try (exfalso;omega))))
          exact zS (by simp[go_sem];omega) (Sub.refl _) ⟨_,n' + 4 + 4 + 2,i + 2,i,3,⟨#[]⟩,_,by omega,by (try simp only);omega,by omega,by omega,fun y hy=>by simp (disch:=omega) only[zB],(by first | exact zD _ _ _|(simp (disch:=omega) only[zB,zD] <;> rfl)),(.inl ⟨by decide,rfl,0,hS3.out⟩),rfl⟩
         ·have hS3:Ze s i u=.tok 3 0 (i + 1):=by
           have:mkL s i u=1:=by rw[h62.out,mkL,hyl];simp[h61]
           rw[hS1,this];rfl
          have hyu:y.toNat≠61:=fun e=>h61 (UInt8.toNat_inj.1 e)
          have hyb:((y.toNat:Int) == 61)=false:=by simp only[beq_eq_false_iff_ne];omega
          clear hS1 hyl h5 h61
          replace hS3:zC _:=hS3
          repeat' (first|(refine zF fun K hK=>?_)|(refine zA fun K hK=>?_;simp (disch:=omega) [go_sem, *,zO,zP])|(apply zC.out hK;clear hK K;try with_reducible dsimp only[zG])|(apply zC.out ht;clear ht hf Kt Kf)|(apply zC.out hf;clear ht hf Kt Kf)|(with_reducible refine zK.gcall (kl) ?_;try simp (disch:=omega) [go_sem, *])|(with_reducible refine zK.gcall (kd) ?_;try simp (disch:=omega) [go_sem, *])|(with_reducible refine zK.gcall (k6) ?_;try simp (disch:=omega) [go_sem, *])|(refine zJ ?_)|(refine zL ?_;simp only[zG,zN])|(refine zH fun Kt Kf ht hf=>?_;simp (disch:=omega) [go_sem, *];try (refine⟨fun hc=>?_,fun hc=>?_⟩ <;> try (exfalso;omega))))
          exact zS (by simp[go_sem]) (Sub.refl _) ⟨_,n' + 4 + 4 + 2,i + 1,i,3,⟨#[]⟩,_,by omega,by (try simp only);omega,by omega,by omega,fun y hy=>by simp (disch:=omega) only[zB],(by first | exact zD _ _ _|(simp (disch:=omega) only[zB,zD] <;> rfl)),(.inl ⟨by decide,rfl,0,hS3.out⟩),rfl⟩
        ·have hyl:s.data.toList[i + 1]? = none:=List.getElem?_eq_none (by rw[ZT];omega)
         have hS3:Ze s i u=.tok 3 0 (i + 1):=by
          have:mkL s i u=1:=by rw[h62.out,mkL,hyl];rfl
          rw[hS1,this];rfl
         clear hS1 hyl h5
         replace hS3:zC _:=hS3
         repeat' (first|(refine zF fun K hK=>?_)|(refine zA fun K hK=>?_;simp (disch:=omega) [go_sem, *,zT])|(apply zC.out hK;clear hK K;try with_reducible dsimp only[zG])|(apply zC.out ht;clear ht hf Kt Kf)|(apply zC.out hf;clear ht hf Kt Kf)|(with_reducible refine zK.gcall (kl) ?_;try simp (disch:=omega) [go_sem, *])|(with_reducible refine zK.gcall (kd) ?_;try simp (disch:=omega) [go_sem, *])|(with_reducible refine zK.gcall (k6) ?_;try simp (disch:=omega) [go_sem, *])|(refine zJ ?_)|(refine zL ?_;simp only[zG,zN])|(refine zH fun Kt Kf ht hf=>?_;simp (disch:=omega) [go_sem, *];try (refine⟨fun hc=>?_,fun hc=>?_⟩ <;> try (exfalso;omega))))
         exact zS (by simp[go_sem]) (Sub.refl _) ⟨_,n' + 4 + 4 + 2,i + 1,i,3,⟨#[]⟩,_,by omega,by (try simp only);omega,by omega,by omega,fun y hy=>by simp (disch:=omega) only[zB],(by first | exact zD _ _ _|(simp (disch:=omega) only[zB,zD] <;> rfl)),(.inl ⟨by decide,rfl,0,hS3.out⟩),rfl⟩
       by_cases h33:u=33
       ·have m60:((u:Int) == 60)=false:=by simp only[beq_eq_false_iff_ne];omega
        have m62:((u:Int) == 62)=false:=by simp only[beq_eq_false_iff_ne];omega
        have m33:((u:Int) == 33)=true:=by simp only[beq_iff_eq];omega
        replace h33:zC _:=h33
        by_cases hn:i + 1 < s.size
        ·obtain⟨y,hy⟩:∃y,s[i + 1]=y:=⟨_,rfl⟩
         have hyl:s.data.toList[i + 1]? = some y:=by
          have hz:i + 1 < s.data.toList.length:=by rw[Array.length_toList];exact hn
          rw[List.getElem?_eq_getElem hz,←hy];rfl
         by_cases h61:y=61
         ·subst h61
          have hS3:Ze s i u=.tok 3 0 (i + 2):=by
           have:mkL s i u=2:=by rw[h33.out,mkL,hyl];rfl
           rw[hS1,this];rfl
          clear hS1 hyl h5
          replace hS3:zC _:=hS3
          repeat' (first|(refine zF fun K hK=>?_)|(refine zA fun K hK=>?_;simp (disch:=omega) [go_sem, *,zM,zO,zP])|(apply zC.out hK;clear hK K;try with_reducible dsimp only[zG])|(apply zC.out ht;clear ht hf Kt Kf)|(apply zC.out hf;clear ht hf Kt Kf)|(with_reducible refine zK.gcall (kl) ?_;try simp (disch:=omega) [go_sem, *])|(with_reducible refine zK.gcall (kd) ?_;try simp (disch:=omega) [go_sem, *])|(with_reducible refine zK.gcall (k6) ?_;try simp (disch:=omega) [go_sem, *])|(refine zJ ?_)|(refine zH fun Kt Kf ht hf=>?_;simp (disch:=omega) [go_sem, *];try (refine⟨fun hc=>?_,fun hc=>?_⟩ <;> try (exfalso;omega))))
          exact zS (by simp[go_sem];omega) (Sub.refl _) ⟨_,n' + 4 + 4 + 2,i + 2,i,3,⟨#[]⟩,_,by omega,by (try simp only);omega,by omega,by omega,fun y hy=>by simp (disch:=omega) only[zB],(by first | exact zD _ _ _|(simp (disch:=omega) only[zB,zD] <;> rfl)),(.inl ⟨by decide,rfl,0,hS3.out⟩),rfl⟩
         ·have hS3:Ze s i u=.bad i:=by
           have:mkL s i u=0:=by rw[h33.out,mkL,hyl];simp[h61]
           rw[hS1,this];rfl
          have hyu:y.toNat≠61:=fun e=>h61 (UInt8.toNat_inj.1 e)
          have hyb:((y.toNat:Int) == 61)=false:=by simp only[beq_eq_false_iff_ne];omega
          clear hS1 hyl h5 h61
          replace hS3:zC _:=hS3
          repeat' (first|(refine zF fun K hK=>?_)|(refine zA fun K hK=>?_;simp (disch:=omega) [go_sem, *,zO,zP])|(apply zC.out hK;clear hK K;try with_reducible dsimp only[zG])|(apply zC.out hf;clear ht hf Kt Kf)|(with_reducible refine zK.gcall (kl) ?_;try simp (disch:=omega) [go_sem, *])|(with_reducible refine zK.gcall (kd) ?_;try simp (disch:=omega) [go_sem, *])|(with_reducible refine zK.gcall (k6) ?_;try simp (disch:=omega) [go_sem, *])|(refine zJ ?_)|(refine zL ?_;simp only[zG,zN])|(refine zH fun Kt Kf ht hf=>?_;simp (disch:=omega) [go_sem, *];try (refine⟨fun hc=>?_,fun hc=>?_⟩ <;> try (exfalso;omega))))
          exact zS (by simp[go_sem]) (Sub.refl _) ⟨_,n' + 4 + 4 + 2,i + 1,i,0,⟨#[]⟩,_,by omega,by (try simp only);omega,by omega,by omega,fun y hy=>by simp (disch:=omega) only[zB],(by first | exact zD _ _ _|(simp (disch:=omega) only[zB,zD] <;> rfl)),(.inr ⟨rfl,hS3.out⟩),rfl⟩
        ·have hyl:s.data.toList[i + 1]? = none:=List.getElem?_eq_none (by rw[ZT];omega)
         have hS3:Ze s i u=.bad i:=by
          have:mkL s i u=0:=by rw[h33.out,mkL,hyl];rfl
          rw[hS1,this];rfl
         clear hS1 hyl h5
         replace hS3:zC _:=hS3
         repeat' (first|(refine zF fun K hK=>?_)|(refine zA fun K hK=>?_;simp (disch:=omega) [go_sem, *,zT])|(apply zC.out hK;clear hK K;try with_reducible dsimp only[zG])|(apply zC.out hf;clear ht hf Kt Kf)|(with_reducible refine zK.gcall (kl) ?_;try simp (disch:=omega) [go_sem, *])|(with_reducible refine zK.gcall (kd) ?_;try simp (disch:=omega) [go_sem, *])|(with_reducible refine zK.gcall (k6) ?_;try simp (disch:=omega) [go_sem, *])|(refine zJ ?_)|(refine zL ?_;simp only[zG,zN])|(refine zH fun Kt Kf ht hf=>?_;simp (disch:=omega) [go_sem, *];try (refine⟨fun hc=>?_,fun hc=>?_⟩ <;> try (exfalso;omega))))
         exact zS (by simp[go_sem]) (Sub.refl _) ⟨_,n' + 4 + 4 + 2,i + 1,i,0,⟨#[]⟩,_,by omega,by (try simp only);omega,by omega,by omega,fun y hy=>by simp (disch:=omega) only[zB],(by first | exact zD _ _ _|(simp (disch:=omega) only[zB,zD] <;> rfl)),(.inr ⟨rfl,hS3.out⟩),rfl⟩
       have hS3:Ze s i u=.bad i:=by
        have:mkL s i u=0:=by rw[mkL,if_neg h5,if_neg (by omega),if_neg (by omega)]
        rw[hS1,this];rfl
       have m60:((u:Int) == 60)=false:=by simp only[beq_eq_false_iff_ne];omega
       have m62:((u:Int) == 62)=false:=by simp only[beq_eq_false_iff_ne];omega
       have m33:((u:Int) == 33)=false:=by simp only[beq_eq_false_iff_ne];omega
       clear hS1 h5
       replace hS3:zC _:=hS3
       repeat' (first|(refine zF fun K hK=>?_)|(refine zA fun K hK=>?_;simp (disch:=omega) [go_sem, *])|(apply zC.out hK;clear hK K;try with_reducible dsimp only[zG])|(apply zC.out hf;clear ht hf Kt Kf)|(with_reducible refine zK.gcall (kl) ?_;try simp (disch:=omega) [go_sem, *])|(with_reducible refine zK.gcall (kd) ?_;try simp (disch:=omega) [go_sem, *])|(with_reducible refine zK.gcall (k6) ?_;try simp (disch:=omega) [go_sem, *])|(refine zJ ?_)|(refine zL ?_;simp only[zG,zN])|(refine zH fun Kt Kf ht hf=>?_;simp (disch:=omega) [go_sem, *];try (refine⟨fun hc=>?_,fun hc=>?_⟩ <;> try (exfalso;omega))))
       exact zS (by simp[go_sem]) (Sub.refl _) ⟨_,n' + 4 + 4 + 2,i + 1,i,0,⟨#[]⟩,_,by omega,by (try simp only);omega,by omega,by omega,fun y hy=>by simp (disch:=omega) only[zB],(by first | exact zD _ _ _|(simp (disch:=omega) only[zB,zD] <;> rfl)),(.inr ⟨rfl,hS3.out⟩),rfl⟩
  ·have hii:i=s.size:=by omega
   subst hii
   repeat' (first|(refine zF fun K hK=>?_)|(refine zA fun K hK=>?_;simp (disch:=omega) [go_sem, *])|(apply zC.out hK;clear hK K;try with_reducible dsimp only[zG])|(apply zC.out hf;clear ht hf Kt Kf)|(refine zk ?_;simp only[zG,zN,if_true])|(refine zH fun Kt Kf ht hf=>?_;simp (disch:=omega) [go_sem, *];try (refine⟨fun hc=>?_,fun hc=>?_⟩ <;> try (exfalso;omega))))
   refine⟨.inl trivial,_,rfl,zY (hI.out a _ _ (mono.out _ _ _ _ _ hIi.out ?_))⟩
   omega
end Go.AM
