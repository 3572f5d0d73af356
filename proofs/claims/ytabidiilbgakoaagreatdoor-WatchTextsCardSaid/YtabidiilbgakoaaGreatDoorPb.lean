/- A condition printed. Conditions: as each theorem says. -/
import Derived.Test.YtabidiilbgakoaaGreatDoorPa
import Derived.Test.YtabidiilbgakoaaGreatDoorCb
namespace Go.AM
open Go.Proofs Cw Du
set_option maxRecDepth 10000
set_option maxHeartbeats 4000000
theorem level_spec (c:Cnd):zK Tryz.prog 187 [zn c] (iv .i64 (lvl c)):=by
 obtain⟨k,f,o,nn,nl,fu,s,ks⟩:=c
 intro h n
 refine zQ.pure (zQ.entry (by kernel_rfl) fun hb _=>za Tryz.func187 rfl (by kernel_rfl) (by simp[Tryz.ntmps187]) ?_)
 simp only[zn,lvl]
 generalize ZE ks=EL
 by_cases h4:k=4
 ·subst h4
  rw[if_pos rfl]
  repeat' (first|(refine zF fun K hK=>?_)|(refine zA fun K hK=>?_;simp (disch:=omega) [go_sem, *])|(apply zC.out hK;clear hK K;try with_reducible dsimp only[zG])|(apply zC.out ht;clear ht hf Kt Kf)|(refine zJ ?_)|(refine zH fun Kt Kf ht hf=>?_;simp (disch:=omega) [go_sem, *];try (refine⟨fun hc=>?_,fun hc=>?_⟩ <;> try (exfalso;omega))))
  exact zR
 ·rw[if_neg h4]
  by_cases h3:k=3
  ·subst h3
   rw[if_pos rfl]
   repeat' (first|(refine zF fun K hK=>?_)|(refine zA fun K hK=>?_;simp (disch:=omega) [go_sem, *])|(apply zC.out hK;clear hK K;try with_reducible dsimp only[zG])|(apply zC.out ht;clear ht hf Kt Kf)|(apply zC.out hf;clear ht hf Kt Kf)|(refine zJ ?_)|(refine zH fun Kt Kf ht hf=>?_;simp (disch:=omega) [go_sem, *];try (refine⟨fun hc=>?_,fun hc=>?_⟩ <;> try (exfalso;omega))))
   exact zR
  ·rw[if_neg h3]
   repeat' (first|(refine zF fun K hK=>?_)|(refine zA fun K hK=>?_;simp (disch:=omega) [go_sem, *])|(apply zC.out hK;clear hK K;try with_reducible dsimp only[zG])|(apply zC.out hf;clear ht hf Kt Kf)|(refine zJ ?_)|(refine zL ?_;simp only[zG,zN])|(refine zH fun Kt Kf ht hf=>?_;simp (disch:=omega) [go_sem, *];try (refine⟨fun hc=>?_,fun hc=>?_⟩ <;> try (exfalso;omega))))
   exact zR
theorem place_of {c:Cnd} {a:Int} {N:Nat} [hz:Sz (shC c) N] (hN:N≤100000) (hs:zK Tryz.prog 69 [zn c] (sv (shC c))):zK Tryz.prog 135 [zn c,iv .i64 a] (sv (plc (lvl c,shC c) a)):=by
 have kl:=level_spec c
 obtain⟨k,f,o,nn,nl,fu,s,ks⟩:=c
 intro h n
 refine zQ.pure (zQ.entry (by kernel_rfl) fun hb _=>za Tryz.func135 rfl (by kernel_rfl) (by simp[Tryz.ntmps135]) ?_)
 simp only[zn,plc] at *
 generalize lvl (.mk k f o nn nl fu s ks)=lv at *
 generalize shC (.mk k f o nn nl fu s ks)=S at *
 generalize ZE ks=EL at *
 by_cases hlt:lv < a
 ·rw[if_pos hlt]
  repeat' (first|(refine zF fun K hK=>?_)|(refine zA fun K hK=>?_;simp (disch:=omega) [go_sem, *])|(apply zC.out hK;clear hK K;try with_reducible dsimp only[zG])|(apply zC.out ht;clear ht hf Kt Kf)|(with_reducible refine zK.gcall (kl) ?_;try simp (disch:=omega) [go_sem, *])|(with_reducible refine zK.gcall (hs) ?_;try simp (disch:=omega) [go_sem, *])|(refine zH fun Kt Kf ht hf=>?_;simp (disch:=omega) [go_sem, *];try (refine⟨fun hc=>?_,fun hc=>?_⟩ <;> try (exfalso;omega))))
  exact zR
 ·rw[if_neg hlt]
  repeat' (first|(refine zF fun K hK=>?_)|(refine zA fun K hK=>?_;simp (disch:=omega) [go_sem, *])|(apply zC.out hK;clear hK K;try with_reducible dsimp only[zG])|(apply zC.out hf;clear ht hf Kt Kf)|(with_reducible refine zK.gcall (kl) ?_;try simp (disch:=omega) [go_sem, *])|(with_reducible refine zK.gcall (hs) ?_;try simp (disch:=omega) [go_sem, *])|(refine zL ?_;simp only[zG])|(refine zH fun Kt Kf ht hf=>?_;simp (disch:=omega) [go_sem, *];try (refine⟨fun hc=>?_,fun hc=>?_⟩ <;> try (exfalso;omega))))
  exact zR
end Go.AM
namespace Go.AM
open Go.Proofs Cw Du
set_option maxRecDepth 10000
set_option maxHeartbeats 4000000
def factA:List AV:=[sv ⟨#[99,101,108,108]⟩,sv ⟨#[115,101,101,110]⟩,sv ⟨#[97,103,101]⟩,sv ⟨#[104,111,117,114]⟩,sv ⟨#[102,114,101,101]⟩]
def opA:List AV:=[sv ⟨#[]⟩,sv ⟨#[61]⟩,sv ⟨#[33,61]⟩,sv ⟨#[60]⟩,sv ⟨#[60,61]⟩,sv ⟨#[62]⟩,sv ⟨#[62,61]⟩]
theorem facts_spec:zK Tryz.prog 136 [] (.fslc false false 1 factA):=by
 intro h n
 refine zQ.pure (zQ.entry (by kernel_rfl) fun hb _=>za Tryz.func136 rfl (by kernel_rfl) (by simp[Tryz.ntmps136]) ?_)
 unfold factA
 repeat' (first|(refine zF fun K hK=>?_)|(refine zA fun K hK=>?_;simp (disch:=omega) [go_sem, *])|(apply zC.out hK;clear hK K;try with_reducible dsimp only[zG]))
 (refine zb ?_;try dsimp only[zG,zN];refine⟨by simp,_,(by first | rfl|(simp (disch:=omega) [go_sem,zB] <;> rfl)),?_⟩;refine zY ⟨fun k hk=>(by first | rfl|(repeat rw[zB _ _ _ _ (by omega)])),(by simp[go_sem,below,belowL]),(by simp[go_sem] <;> omega),by simp,by simp⟩)
theorem ops_spec:zK Tryz.prog 137 [] (.fslc false false 1 opA):=by
 intro h n
 refine zQ.pure (zQ.entry (by kernel_rfl) fun hb _=>za Tryz.func137 rfl (by kernel_rfl) (by simp[Tryz.ntmps137]) ?_)
 unfold opA
 repeat' (first|(refine zF fun K hK=>?_)|(refine zA fun K hK=>?_;simp (disch:=omega) [go_sem, *])|(apply zC.out hK;clear hK K;try with_reducible dsimp only[zG]))
 (refine zb ?_;try dsimp only[zG,zN];refine⟨by simp,_,(by first | rfl|(simp (disch:=omega) [go_sem,zB] <;> rfl)),?_⟩;refine zY ⟨fun k hk=>(by first | rfl|(repeat rw[zB _ _ _ _ (by omega)])),(by simp[go_sem,below,belowL]),(by simp[go_sem] <;> omega),by simp,by simp⟩)
theorem factA_at {f:Int} (h0:0≤f) (h1:f≤4) (hi:f.toNat < factA.length):factA[f.toNat]=sv (Q2 f):=by
 obtain⟨i,rfl⟩:∃i:Nat,f=i:=⟨f.toNat,by omega⟩
 have:i≤4:=by omega
 match i,this with
 | 0,_=>rfl
 | 1,_=>rfl
 | 2,_=>rfl
 | 3,_=>rfl
 | 4,_=>rfl
theorem opA_at {f:Int} (h0:1≤f) (h1:f≤6) (hi:f.toNat < opA.length):opA[f.toNat]=sv (opT f):=by
 obtain⟨i,rfl⟩:∃i:Nat,f=i:=⟨f.toNat,by omega⟩
 have h2:i≤6:=by omega
 have h3:1≤i:=by omega
 match i,h2,h3 with
 | 1,_,_=>rfl
 | 2,_,_=>rfl
 | 3,_,_=>rfl
 | 4,_,_=>rfl
 | 5,_,_=>rfl
 | 6,_,_=>rfl
theorem one_kid {ks:List Cnd} (h:ks.length=1):∃x,ks=[x]:=by
 match ks,h with
 | [x],_=>exact⟨x,rfl⟩
theorem two_kids {ks:List Cnd} (h:ks.length=2):∃x y,ks=[x,y]:=by
 match ks,h with
 | [x,y],_=>exact⟨x,y,rfl⟩
theorem show_spec:∀(N:Nat) (c:Cnd),tot c≤N→N≤1000→wf c→ok c=true→zK Tryz.prog 69 [zn c] (sv (shC c))
 | 0,c,h,_,_,_=>by have:=Ja c;omega
 | N + 1,.mk k f o nn nl fu s ks,hN,h1000,hw,hok=>by
  intro h n
  simp only[tot] at hN
  simp only[ok,Bool.and_eq_true] at hok
  obtain⟨hnode,hokL⟩:=hok
  obtain⟨hnl,hwk⟩:=hw
  have hkid:∀x a,ks=[x]∨(∃y,ks=[x,y])∨(∃y,ks=[y,x])→zK Tryz.prog 135 [zn x,iv .i64 a] (sv (plc (lvl x,shC x) a))∧Sz (plc (lvl x,shC x) a) 40002:=by
   intro x a hx
   have h1:tot x≤totL ks∧wf x∧ok x=true:=by
    rcases hx with rfl | ⟨y,rfl⟩ | ⟨y,rfl⟩
    ·simp only[totL,okL,Bool.and_eq_true,wfL] at *;exact⟨by omega,hwk.1,hokL.1⟩
    ·simp only[totL,okL,Bool.and_eq_true,wfL] at *;exact⟨by omega,hwk.1,hokL.1⟩
    ·simp only[totL,okL,Bool.and_eq_true,wfL] at *;exact⟨by omega,hwk.2.1,hokL.2.1⟩
   have hz:(shC x).size≤40000:=Nat.le_trans (qO x h1.2.2) (by omega)
   have hp:=qX (lvl x,shC x) a
   simp only at hp
   exact⟨place_of (N:=40000) (hz:=⟨hz⟩) (by omega) (show_spec N x (by omega) (by omega) h1.2.1 h1.2.2),⟨by omega⟩⟩
  refine zQ.pure (zQ.entry (by kernel_rfl) fun hb _=>za Tryz.func69 rfl (by kernel_rfl) (by simp[Tryz.ntmps69]) ?_)
  simp only[zn,shC]
  unfold shN
  unfold zw at hnode
  by_cases h1:k=1
  ·subst h1
   rw[if_pos rfl] at hnode
   rw[if_pos rfl]
   simp only[Bool.and_eq_true,wi,decide_eq_true_eq] at hnode
   obtain⟨⟨⟨⟨f0,f1⟩,o0,o1⟩,n0,n1⟩,hl⟩:=hnode
   have k1:=facts_spec
   have k2:=ops_spec
   have k3:=Jg (n:=nn) (by omega) (by omega)
   have fi:f.toNat < factA.length:=by simp only[factA,List.length_cons,List.length_nil];omega
   have fe:=factA_at f0 f1 fi
   have oi:o.toNat < opA.length:=by simp only[opA,List.length_cons,List.length_nil];omega
   have oe:=opA_at o0 o1 oi
   have fl:factA.length=5:=rfl
   have ol:opA.length=7:=rfl
   haveI z1:Sz (Q2 f) 4:=⟨facT_size f⟩
   haveI z2:Sz (opT o) 2:=⟨opT_size o⟩
   haveI z3:Sz (dec nn) 21:=⟨Zd n0 (by omega)⟩
   generalize dec nn=D at *
   generalize Q2 f=FT at *
   generalize opT o=OT at *
   generalize factA=FA at *
   generalize opA=OA at *
   generalize ZE ks=EL at *
   unfold spT
   clear hkid hokL hnl hwk hN hl
   repeat' (first|(refine zF fun K hK=>?_)|(refine zA fun K hK=>?_;simp (disch:=omega) [go_sem, *])|(refine zm mixed (by kernel_rfl) fun K hK=>?_;simp (disch:=omega) [go_sem, *])|(refine Z4 (by simp[go_sem]) (by simp (disch:=omega) [go_sem, *,zP];first | exact rfl | exact⟨rfl,rfl,rfl⟩ | exact (k1).gcall ⟨rfl,rfl,rfl⟩ | exact (k2).gcall ⟨rfl,rfl,rfl⟩ | exact (k3).gcall ⟨rfl,rfl,rfl⟩) ?_;try simp only[zU])|(refine ZH ?_)|(apply zC.out hK;clear hK K;try with_reducible dsimp only[zG])|(apply zC.out hf;clear ht hf Kt Kf)|(refine zJ ?_)|(refine zL ?_;simp only[zG,zN])|(refine zH fun Kt Kf ht hf=>?_;simp (disch:=omega) [go_sem, *];try (refine⟨fun hc=>?_,fun hc=>?_⟩ <;> try (exfalso;omega))))
   exact zR
  ·rw[if_neg h1] at hnode
   rw[if_neg h1]
   simp only[Bool.and_eq_true,Bool.or_eq_true,decide_eq_true_eq] at hnode
   obtain⟨⟨⟨hk,rfl⟩,rfl⟩,rfl⟩:=hnode
   by_cases h2:k=2
   ·subst h2
    rw[if_pos rfl]
    obtain⟨x,rfl⟩:=one_kid (show ks.length=1 by rcases hk with h | h <;> omega)
    obtain⟨rfl,rfl⟩:=hnl.resolve_left (by simp)
    obtain⟨kx,zx⟩:=hkid x 2 (.inl rfl)
    simp only[shL,List.getD_cons_zero]
    generalize plc (lvl x,shC x) 2=P at *
    clear hkid hokL hwk hN hk hnl
    obtain⟨x1,x2,x3,x4,x5,x6,x7,x8⟩:=x
    simp only[ZE,zn] at *
    generalize ZE x8=XL at *
    repeat' (first|(refine zF fun K hK=>?_)|(refine zA fun K hK=>?_;simp (disch:=omega) [go_sem, *])|(apply zC.out hK;clear hK K;try with_reducible dsimp only[zG])|(apply zC.out ht;clear ht hf Kt Kf)|(with_reducible refine zK.gcall (kx) ?_;try simp (disch:=omega) [go_sem, *])|(refine zJ ?_)|(refine zH fun Kt Kf ht hf=>?_;simp (disch:=omega) [go_sem, *];try (refine⟨fun hc=>?_,fun hc=>?_⟩ <;> try (exfalso;omega))))
    exact zR
   ·rw[if_neg h2]
    by_cases h3:k=3
    ·subst h3
     rw[if_pos rfl]
     obtain⟨x,y,rfl⟩:=two_kids (show ks.length=2 by rcases hk with h | h <;> omega)
     obtain⟨rfl,rfl⟩:=hnl.resolve_left (by simp)
     obtain⟨kx,zx⟩:=hkid x 1 (.inr (.inl ⟨_,rfl⟩))
     obtain⟨ky,zy⟩:=hkid y 2 (.inr (.inr ⟨_,rfl⟩))
     simp only[shL,List.getD_cons_zero,List.getD_cons_succ]
     generalize plc (lvl x,shC x) 1=P at *
     generalize plc (lvl y,shC y) 2=Q at *
     clear hkid hokL hwk hN hk hnl
     obtain⟨x1,x2,x3,x4,x5,x6,x7,x8⟩:=x
     obtain⟨y1,y2,y3,y4,y5,y6,y7,y8⟩:=y
     simp only[ZE,zn] at *
     generalize ZE x8=XL at *
     generalize ZE y8=YL at *
     repeat' (first|(refine zF fun K hK=>?_)|(refine zA fun K hK=>?_;simp (disch:=omega) [go_sem, *])|(refine zm mixed (by kernel_rfl) fun K hK=>?_;simp (disch:=omega) [go_sem, *])|(refine Z4 (by simp[go_sem]) (by simp (disch:=omega) [go_sem, *,zP];first | exact rfl | exact⟨rfl,rfl,rfl⟩ | exact (kx).gcall ⟨rfl,rfl,rfl⟩ | exact (ky).gcall ⟨rfl,rfl,rfl⟩) ?_;try simp only[zU])|(refine ZH ?_)|(apply zC.out hK;clear hK K;try with_reducible dsimp only[zG])|(apply zC.out ht;clear ht hf Kt Kf)|(apply zC.out hf;clear ht hf Kt Kf)|(refine zJ ?_)|(refine zH fun Kt Kf ht hf=>?_;simp (disch:=omega) [go_sem, *];try (refine⟨fun hc=>?_,fun hc=>?_⟩ <;> try (exfalso;omega))))
     exact zR
    ·rw[if_neg h3]
     have h4:k=4:=by rcases hk with h | h <;> omega
     subst h4
     obtain⟨x,y,rfl⟩:=two_kids (show ks.length=2 by rcases hk with h | h <;> omega)
     obtain⟨rfl,rfl⟩:=hnl.resolve_left (by simp)
     obtain⟨kx,zx⟩:=hkid x 0 (.inr (.inl ⟨_,rfl⟩))
     obtain⟨ky,zy⟩:=hkid y 1 (.inr (.inr ⟨_,rfl⟩))
     simp only[shL,List.getD_cons_zero,List.getD_cons_succ]
     generalize plc (lvl x,shC x) 0=P at *
     generalize plc (lvl y,shC y) 1=Q at *
     clear hkid hokL hwk hN hk hnl
     obtain⟨x1,x2,x3,x4,x5,x6,x7,x8⟩:=x
     obtain⟨y1,y2,y3,y4,y5,y6,y7,y8⟩:=y
     simp only[ZE,zn] at *
     generalize ZE x8=XL at *
     generalize ZE y8=YL at *
     repeat' (first|(refine zF fun K hK=>?_)|(refine zA fun K hK=>?_;simp (disch:=omega) [go_sem, *])|(refine zm mixed (by kernel_rfl) fun K hK=>?_;simp (disch:=omega) [go_sem, *])|(refine Z4 (by simp[go_sem]) (by simp (disch:=omega) [go_sem, *,zP];first | exact rfl | exact⟨rfl,rfl,rfl⟩ | exact (kx).gcall ⟨rfl,rfl,rfl⟩ | exact (ky).gcall ⟨rfl,rfl,rfl⟩) ?_;try simp only[zU])|(refine ZH ?_)|(apply zC.out hK;clear hK K;try with_reducible dsimp only[zG])|(apply zC.out ht;clear ht hf Kt Kf)|(apply zC.out hf;clear ht hf Kt Kf)|(refine zJ ?_)|(refine zH fun Kt Kf ht hf=>?_;simp (disch:=omega) [go_sem, *];try (refine⟨fun hc=>?_,fun hc=>?_⟩ <;> try (exfalso;omega))))
     exact zR
termination_by N => N
end Go.AM
namespace Go.AM
open Go.Proofs Cw Du
set_option maxRecDepth 10000
set_option maxHeartbeats 4000000
end Go.AM
