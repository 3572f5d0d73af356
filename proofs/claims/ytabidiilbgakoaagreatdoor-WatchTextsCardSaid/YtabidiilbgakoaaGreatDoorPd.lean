/- A line printed, by the program; strings.Builder: text written to it and read from it. Conditions: as each theorem says. -/
import Derived.Test.YtabidiilbgakoaaGreatDoorLb
namespace Go.AM
open Go.Proofs Cw Du
set_option maxRecDepth 10000
set_option maxHeartbeats 4000000
end Go.AM
namespace Go.AM
open Go.Proofs Cw Du
set_option maxRecDepth 10000
set_option maxHeartbeats 4000000
theorem totL_len:∀l:List Cnd,l.length≤totL l
 | []=>by simp[totL]
 | c :: r=>by
  have:=totL_len r
  have:=Ja c
  simp only[totL,List.length_cons];omega
theorem tot_memL:∀{l:List Cnd} {c:Cnd},c ∈ l→tot c≤totL l
 | [],_,h=>by simp at h
 | d :: r,c,h=>by
  rcases List.mem_cons.1 h with rfl | h
  ·simp only[totL];omega
  ·have:=tot_memL h
   simp only[totL];omega
end Go.AM
namespace Go.AM
open Go.Proofs Cw Du
set_option maxRecDepth 10000
set_option maxHeartbeats 4000000
theorem showLine_spec (l:Lin) (hw:QA l) (hp:PrOk l):zK Tryz.prog 67 [zX l] (sv (qQ l)):=by
 intro h n
 refine zQ.pure (zQ.entry (by kernel_rfl) fun hb _=>za Tryz.func67 rfl (by kernel_rfl) (by simp[Tryz.ntmps67]) ?_)
 obtain⟨kd,tw,pe,ot,fr,to,ev,nl,fu,s,exc⟩:=l
 have hp0:=hp
 obtain⟨hk,t1,t2,t3,⟨f0,f1⟩,⟨o0,o1⟩,⟨e0,e1⟩,hl,hx⟩:=hp
 simp only[QA] at *
 haveI z1:Sz tw 1000000:=⟨t1⟩
 haveI z2:Sz pe 1000000:=⟨t2⟩
 haveI z3:Sz ot 1000000:=⟨t3⟩
 have k1:=Jg (n:=fr) (by omega) (by omega)
 have k2:=Jg (n:=to) (by omega) (by omega)
 have k3:=Jg (n:=ev) (by omega) (by omega)
 haveI y1:Sz (dec fr) 21:=⟨Zd f0 (by omega)⟩
 haveI y2:Sz (dec to) 21:=⟨Zd o0 (by omega)⟩
 haveI y3:Sz (dec ev) 21:=⟨Zd e0 (by omega)⟩
 obtain⟨A,hA⟩:∃A,hdT ⟨kd,tw,pe,ot,fr,to,ev,nl,fu,s,exc⟩=A:=⟨_,rfl⟩
 obtain⟨B,hB⟩:∃B,hdT ⟨kd,tw,pe,ot,fr,to,ev,nl,fu,s,exc⟩ ++ frT ⟨kd,tw,pe,ot,fr,to,ev,nl,fu,s,exc⟩ ++ Js ⟨kd,tw,pe,ot,fr,to,ev,nl,fu,s,exc⟩=B:=⟨_,rfl⟩
 have hR:qQ ⟨kd,tw,pe,ot,fr,to,ev,nl,fu,s,exc⟩=B ++ exT exc exc.length ++ ⟨#[59,10]⟩:=by
  simp only[qQ,dayT,←hB,endT,Zi]
 have hz:B.size≤3001000:=by rw[←hB];exact base_size hp0
 haveI z4:Sz B 3001000:=⟨hz⟩
 rw[hR]
 have hzA:A.size≤3001000:=by
  have e:=congrArg ByteArray.size hB
  simp only[ByteArray.size_append,hA] at e
  omega
 rw[hA] at hB
 haveI z5:Sz A 3001000:=⟨hzA⟩
 simp only[frT,Js] at hB
 simp only[hdT,spT] at hA
 clear hzA
 simp only[zX]
 clear hz hp0 hR
 have kd0:∀d,d ∈ exc→zK Tryz.prog 68 [iv .i64 d] (sv (dec d))∧Sz (dec d) 21:=fun d hd=>⟨Jg (by have:=(hx d hd).1;omega) (by have:=(hx d hd).2;omega),⟨Zd (hx d hd).1 (by have:=(hx d hd).2;omega)⟩⟩
 have hex:∀i,i≤exc.length→Sz (exT exc i) 29000:=fun i hi=>⟨by have:=exT_size hx i;omega⟩
 replace kd0:zC _:=kd0
 replace hex:zC _:=hex
 replace hx:zC _:=trivial
 replace hw:zC _:=hw
 iterate 9 (first|(refine zF fun K hK=>?_)|(refine zA fun K hK=>?_;simp (disch:=omega) [go_sem, *,Tryz.ntmps67])|(apply zC.out hK;clear hK K;try with_reducible dsimp only[zG]))
 refine J2 (fun s'=>∃n',n < n'∧s'=⟨92,[(1,.ptr n 0),(3,sv A)],h.upd n (some (.cells [iv .i64 kd,sv tw,sv pe,sv ot,iv .i64 fr,iv .i64 to,iv .i64 ev,.fslc nl fu s (exc.map (iv .i64))])),n'⟩) ?_ ?_
 ·rintro s' ⟨n',hn',rfl⟩
  clear hA
  refine hK.out _ ?_
  clear hK K
  refine zF fun K hK=>?_
  refine J2 (fun s'=>∃n',n < n'∧s'=⟨92,[(1,.ptr n 0),(3,sv B)],h.upd n (some (.cells [iv .i64 kd,sv tw,sv pe,sv ot,iv .i64 fr,iv .i64 to,iv .i64 ev,.fslc nl fu s (exc.map (iv .i64))])),n'⟩) ?_ ?_
  ·rintro s' ⟨n2,hn2,rfl⟩
   clear hB k1 k2 k3
   refine hK.out _ ?_
   clear hK K
   repeat' (first|(refine zF fun K hK=>?_)|(refine zA fun K hK=>?_;simp (disch:=omega) [go_sem, *])|(apply zC.out hK;clear hK K;try with_reducible dsimp only[zG])|(refine zJ ?_))
   refine z8 (fun s2=>∃(i n':Nat) (H:zI),n≤n'∧i≤exc.length∧(∀x,x < n→H x=h x)∧s2=⟨92,[(3,sv (B ++ exT exc i)),(73,.fslc nl fu s (exc.map (iv .i64))),(74,iv .i64 exc.length),(75,iv .i64 i)],H,n'⟩) (fun s2=>exc.length - (ZL s2 75).toNat) ?_ ?_
   ·exact zS (by simp[go_sem,exT,app_nil]) (Sub.refl _) ⟨0,_,_,by (try simp only);omega,by omega,fun x hx=>by simp (disch:=omega) only[zB],rfl⟩
   ·rintro s2 ⟨i,n',H,hn',hi,g2,rfl⟩
    replace g2:zC _:=g2
    by_cases hlt:i < exc.length
    ·obtain⟨kx,zx⟩:=kd0.out _ (List.getElem_mem hlt)
     haveI zi:=hex.out i hi
     have hne:exc≠[]:=fun e=>by rw[e] at hlt;simp at hlt
     obtain⟨rfl,rfl⟩:=hw.out.resolve_left hne
     clear hne
     have hstep:exT exc i ++ (sepT i ++ dec exc[i])=exT exc (i + 1):=by rw[exT,List.getD_eq_getElem?_getD,List.getElem?_eq_getElem hlt];rfl
     replace kd0:zC _:=trivial
     replace hex:zC _:=trivial
     have hxl:exc.length≤1000:=hl
     by_cases hi0:i=0
     ·subst hi0
      rw[sepT,if_pos rfl] at hstep
      replace hstep:zC _:=hstep
      repeat' (first|(refine zF fun K hK=>?_)|(refine zA fun K hK=>?_;simp (disch:=omega) [go_sem, *,zM])|(refine zm mixed (by kernel_rfl) fun K hK=>?_;simp (disch:=omega) [go_sem, *])|(refine Z4 (by simp[go_sem]) (by simp (disch:=omega) [go_sem, *,zT];first | exact rfl | exact⟨rfl,rfl,rfl⟩ | exact (kx).gcall ⟨rfl,rfl,rfl⟩) ?_;try simp only[zU])|(refine ZH ?_)|(apply zC.out hK;clear hK K;try with_reducible dsimp only[zG])|(apply zC.out ht;clear ht hf Kt Kf)|(refine zJ ?_)|(refine zL ?_;simp only[zG])|(refine zH fun Kt Kf ht hf=>?_;simp (disch:=omega) [go_sem, *];try (refine⟨fun hc=>?_,fun hc=>?_⟩ <;> try (exfalso;omega))))
      rw[Zi,hstep.out]
      exact zl (by simp (disch:=omega) [go_sem]) (Sub.refl _) ⟨0 + 1,_,_,by (try simp only);omega,by omega,g2.out,rfl⟩ (by simp[ZL,go_sem];omega)
     ·rw[sepT,if_neg hi0] at hstep
      replace hstep:zC _:=hstep
      have hlt1:(1:Int) < i∨(i:Int)=1:=by omega
      have hmin:¬((i:Int) < 1):=by omega
      have hmin2:(if (1:Int) < i then (1:Int) else i)=1:=by split <;> omega
      repeat' (first|(refine zF fun K hK=>?_)|(refine zA fun K hK=>?_;simp (disch:=omega) [go_sem, *,zM,zO,zP])|(refine zm mixed (by kernel_rfl) fun K hK=>?_;simp (disch:=omega) [go_sem, *])|(refine Z4 (by simp[go_sem]) (by simp (disch:=omega) [go_sem, *];first | exact rfl | exact⟨rfl,rfl,rfl⟩ | exact (kx).gcall ⟨rfl,rfl,rfl⟩) ?_;try simp only[zU])|(refine ZH ?_)|(apply zC.out hK;clear hK K;try with_reducible dsimp only[zG])|(apply zC.out ht;clear ht hf Kt Kf)|(refine zJ ?_)|(refine zL ?_;simp only[zG])|(refine zH fun Kt Kf ht hf=>?_;simp (disch:=omega) [go_sem, *];try (refine⟨fun hc=>?_,fun hc=>?_⟩ <;> try (exfalso;omega))))
      rw[Zi,hstep.out]
      exact zl (by simp (disch:=omega) [go_sem]) (Sub.refl _) ⟨i + 1,_,_,by (try simp only);omega,by omega,g2.out,rfl⟩ (by simp[ZL,go_sem];omega)
    ·have hii:i=exc.length:=by omega
     subst hii
     haveI zi:=hex.out _ (Nat.le_refl exc.length)
     repeat' (first|(refine zF fun K hK=>?_)|(refine zA fun K hK=>?_;simp (disch:=omega) [go_sem, *])|(apply zC.out hK;clear hK K;try with_reducible dsimp only[zG])|(apply zC.out hf;clear ht hf Kt Kf)|(clear hK K;apply zC.out hK;clear hK K;try with_reducible dsimp only[zG])|(refine zk ?_;simp only[zG,zN,if_true])|(refine zH fun Kt Kf ht hf=>?_;simp (disch:=omega) [go_sem, *];try (refine⟨fun hc=>?_,fun hc=>?_⟩ <;> try (exfalso;omega))))
     refine zb ?_
     try dsimp only[zG,zN]
     refine⟨by simp,_,(by first | rfl|(simp (disch:=omega) [go_sem,zB] <;> rfl)),?_⟩
     exact zY ⟨fun x hx=>g2.out x hx,by simp[go_sem,below,zr],by first | rfl | simp[go_sem],by simp,by simp⟩
  ·clear kd0 hex hw
   by_cases hev:ev=1
   ·subst hev
    rw[if_pos rfl,app_nil] at hB
    by_cases heq:fr=to
    ·subst heq
     rw[if_pos ⟨rfl,rfl⟩] at hB
     try simp only[←Zi] at hB
     generalize dec fr=DF at *
     try generalize dec to=DT at *
     try generalize dec ev=DE at *
     replace hB:zC _:=hB
     repeat' (first|(refine zF fun K hK=>?_)|(refine zA fun K hK=>?_;simp (disch:=omega) [go_sem, *])|(apply zC.out hK;clear hK K;try with_reducible dsimp only[zG])|(apply zC.out ht;clear ht hf Kt Kf)|(with_reducible refine zK.gcall (k1) ?_;try simp (disch:=omega) [go_sem, *])|(refine zH fun Kt Kf ht hf=>?_;simp (disch:=omega) [go_sem, *];try (refine⟨fun hc=>?_,fun hc=>?_⟩ <;> try (exfalso;omega))))
     simp only[←Zi]
     rw[hB.out]
     exact zS (by simp[go_sem]) (Sub.refl _) ⟨_,by omega,rfl⟩
    ·have hb1:(fr == to)=false:=by simpa using heq
     rw[if_neg (fun e=>heq e.1)] at hB
     try simp only[←Zi] at hB
     generalize dec fr=DF at *
     try generalize dec to=DT at *
     try generalize dec ev=DE at *
     replace hB:zC _:=hB
     repeat' (first|(refine zF fun K hK=>?_)|(refine zA fun K hK=>?_;simp (disch:=omega) [go_sem, *])|(refine zm mixed (by kernel_rfl) fun K hK=>?_;simp (disch:=omega) [go_sem, *])|(refine Z4 (by simp[go_sem]) (by simp (disch:=omega) [go_sem, *];first | exact rfl | exact⟨rfl,rfl,rfl⟩ | exact (k1).gcall ⟨rfl,rfl,rfl⟩ | exact (k2).gcall ⟨rfl,rfl,rfl⟩ | exact (k3).gcall ⟨rfl,rfl,rfl⟩) ?_;try simp only[zU])|(refine ZH ?_)|(apply zC.out hK;clear hK K;try with_reducible dsimp only[zG])|(apply zC.out hf;clear ht hf Kt Kf)|(refine zL ?_;simp only[zG])|(refine zH fun Kt Kf ht hf=>?_;simp (disch:=omega) [go_sem, *];try (refine⟨fun hc=>?_,fun hc=>?_⟩ <;> try (exfalso;omega))))
     simp only[←Zi]
     rw[hB.out]
     exact zS (by simp[go_sem]) (Sub.refl _) ⟨_,by omega,rfl⟩
   ·have hb2:(ev == 1)=false:=by simpa using hev
    have hb3:(ev != 1)=true:=by simpa using hev
    rw[if_neg hev,if_neg (fun e=>hev e.2)] at hB
    by_cases heq:fr=to
    ·subst heq
     try simp only[←Zi] at hB
     generalize dec fr=DF at *
     try generalize dec to=DT at *
     try generalize dec ev=DE at *
     replace hB:zC _:=hB
     repeat' (first|(refine zF fun K hK=>?_)|(refine zA fun K hK=>?_;simp (disch:=omega) [go_sem, *])|(refine zm mixed (by kernel_rfl) fun K hK=>?_;simp (disch:=omega) [go_sem, *])|(refine Z4 (by simp[go_sem]) (by simp (disch:=omega) [go_sem, *];first | exact rfl | exact⟨rfl,rfl,rfl⟩ | exact (k1).gcall ⟨rfl,rfl,rfl⟩ | exact (k2).gcall ⟨rfl,rfl,rfl⟩ | exact (k3).gcall ⟨rfl,rfl,rfl⟩) ?_;try simp only[zU])|(refine ZH ?_)|(apply zC.out hK;clear hK K;try with_reducible dsimp only[zG])|(apply zC.out ht;clear ht hf Kt Kf)|(apply zC.out hf;clear ht hf Kt Kf)|(with_reducible refine zK.gcall (k3) ?_;try simp (disch:=omega) [go_sem, *])|(refine zH fun Kt Kf ht hf=>?_;simp (disch:=omega) [go_sem, *];try (refine⟨fun hc=>?_,fun hc=>?_⟩ <;> try (exfalso;omega))))
     simp only[←Zi]
     rw[hB.out]
     exact zS (by simp[go_sem]) (Sub.refl _) ⟨_,by omega,rfl⟩
    ·have hb1:(fr == to)=false:=by simpa using heq
     try simp only[←Zi] at hB
     generalize dec fr=DF at *
     try generalize dec to=DT at *
     try generalize dec ev=DE at *
     replace hB:zC _:=hB
     repeat' (first|(refine zF fun K hK=>?_)|(refine zA fun K hK=>?_;simp (disch:=omega) [go_sem, *])|(refine zm mixed (by kernel_rfl) fun K hK=>?_;simp (disch:=omega) [go_sem, *])|(refine Z4 (by simp[go_sem]) (by simp (disch:=omega) [go_sem, *];first | exact rfl | exact⟨rfl,rfl,rfl⟩ | exact (k1).gcall ⟨rfl,rfl,rfl⟩ | exact (k2).gcall ⟨rfl,rfl,rfl⟩ | exact (k3).gcall ⟨rfl,rfl,rfl⟩) ?_;try simp only[zU])|(refine ZH ?_)|(apply zC.out hK;clear hK K;try with_reducible dsimp only[zG])|(apply zC.out ht;clear ht hf Kt Kf)|(apply zC.out hf;clear ht hf Kt Kf)|(with_reducible refine zK.gcall (k3) ?_;try simp (disch:=omega) [go_sem, *])|(refine zH fun Kt Kf ht hf=>?_;simp (disch:=omega) [go_sem, *];try (refine⟨fun hc=>?_,fun hc=>?_⟩ <;> try (exfalso;omega))))
     simp only[←Zi]
     rw[hB.out]
     exact zS (by simp[go_sem]) (Sub.refl _) ⟨_,by omega,rfl⟩
 ·clear hB k1 k2 k3 kd0 hex hw
  rcases hk with rfl | rfl | rfl | rfl
  ·simp only[if_true,if_false,Int.reduceEq] at hA
   replace hA:zC _:=hA
   repeat' (first|(refine zF fun K hK=>?_)|(refine zA fun K hK=>?_;simp (disch:=omega) [go_sem, *])|(apply zC.out hK;clear hK K;try with_reducible dsimp only[zG])|(apply zC.out ht;clear ht hf Kt Kf)|(refine zJ ?_)|(refine zH fun Kt Kf ht hf=>?_;simp (disch:=omega) [go_sem, *];try (refine⟨fun hc=>?_,fun hc=>?_⟩ <;> try (exfalso;omega))))
   rw[hA.out]
   exact zS (by simp[go_sem]) (Sub.refl _) ⟨_,by omega,rfl⟩
  ·simp only[if_true,if_false,Int.reduceEq] at hA
   replace hA:zC _:=hA
   repeat' (first|(refine zF fun K hK=>?_)|(refine zA fun K hK=>?_;simp (disch:=omega) [go_sem, *])|(apply zC.out hK;clear hK K;try with_reducible dsimp only[zG])|(apply zC.out ht;clear ht hf Kt Kf)|(apply zC.out hf;clear ht hf Kt Kf)|(refine zJ ?_)|(refine zH fun Kt Kf ht hf=>?_;simp (disch:=omega) [go_sem, *];try (refine⟨fun hc=>?_,fun hc=>?_⟩ <;> try (exfalso;omega))))
   rw[hA.out]
   exact zS (by simp[go_sem]) (Sub.refl _) ⟨_,by omega,rfl⟩
  ·simp only[if_true,if_false,Int.reduceEq] at hA
   replace hA:zC _:=hA
   repeat' (first|(refine zF fun K hK=>?_)|(refine zA fun K hK=>?_;simp (disch:=omega) [go_sem, *])|(apply zC.out hK;clear hK K;try with_reducible dsimp only[zG])|(apply zC.out ht;clear ht hf Kt Kf)|(apply zC.out hf;clear ht hf Kt Kf)|(refine zJ ?_)|(refine zH fun Kt Kf ht hf=>?_;simp (disch:=omega) [go_sem, *];try (refine⟨fun hc=>?_,fun hc=>?_⟩ <;> try (exfalso;omega))))
   rw[hA.out]
   exact zS (by simp[go_sem]) (Sub.refl _) ⟨_,by omega,rfl⟩
  ·simp only[if_false,Int.reduceEq] at hA
   replace hA:zC _:=hA
   repeat' (first|(refine zF fun K hK=>?_)|(refine zA fun K hK=>?_;simp (disch:=omega) [go_sem, *])|(apply zC.out hK;clear hK K;try with_reducible dsimp only[zG])|(apply zC.out ht;clear ht hf Kt Kf)|(apply zC.out hf;clear ht hf Kt Kf)|(refine zJ ?_)|(refine zH fun Kt Kf ht hf=>?_;simp (disch:=omega) [go_sem, *];try (refine⟨fun hc=>?_,fun hc=>?_⟩ <;> try (exfalso;omega))))
   rw[hA.out]
   exact zS (by simp[go_sem]) (Sub.refl _) ⟨_,by omega,rfl⟩
end Go.AM
namespace Go.AM
open Go.Proofs Cw Du
set_option maxRecDepth 10000
set_option maxHeartbeats 4000000
@[go_sem] theorem lay131:lay Tryz.prog 131=some (2,true):=by kernel_rfl
@[go_sem] theorem szOf131:zo Tryz.prog 131=some 2:=by kernel_rfl
@[go_sem] theorem zerOf131:zd Tryz.prog 131=some (.agg [.c (.pointer none),.fslc true true 0 []]):=by kernel_rfl
@[go_sem] theorem fldOf131_0:zt Tryz.prog 131 0=some (0,1):=by kernel_rfl
@[go_sem] theorem fldOf131_1:zt Tryz.prog 131 1=some (1,1):=by kernel_rfl
@[go_sem] theorem sizesOk131:ZO Tryz.prog 131=true:=by kernel_rfl
@[go_sem] theorem typed131:(@Vars.typed Go.Proofs.SAN.vars).contains 131=true:=by kernel_rfl
@[go_sem] theorem nt131:131 ∈ (@Vars.typed Go.Proofs.SAN.vars):=by decide
@[go_sem] theorem lay128:lay Tryz.prog 128=some (1,false):=by kernel_rfl
@[go_sem] theorem szOf128:zo Tryz.prog 128=some 1:=by kernel_rfl
@[go_sem] theorem zerOf128:zd Tryz.prog 128=some (.c (.pointer none)):=by kernel_rfl
@[go_sem] theorem kdOf128:ZM Tryz.prog 128=.ptr 131:=by kernel_rfl
@[go_sem] theorem typed128:(@Vars.typed Go.Proofs.SAN.vars).contains 128=false:=by kernel_rfl
@[go_sem] theorem nt128:¬(128 ∈ (@Vars.typed Go.Proofs.SAN.vars)):=by decide
@[go_sem] theorem lay239:lay Tryz.prog 239=some (1,false):=by kernel_rfl
@[go_sem] theorem szOf239:zo Tryz.prog 239=some 1:=by kernel_rfl
@[go_sem] theorem zerOf239:zd Tryz.prog 239=some (.c (.pointer none)):=by kernel_rfl
@[go_sem] theorem typed239:(@Vars.typed Go.Proofs.SAN.vars).contains 239=false:=by kernel_rfl
@[go_sem] theorem nt239:¬(239 ∈ (@Vars.typed Go.Proofs.SAN.vars)):=by decide
@[go_sem] theorem isUnsB1:isUns Tryz.prog 128 239=true:=by kernel_rfl
@[go_sem] theorem isUnsB2:isUns Tryz.prog 239 128=true:=by kernel_rfl
theorem bytesOf_bytesA (b:ByteArray):Z5 (ZP b)=some b.data.toList:=by
 unfold ZP
 induction b.data.toList with
 | nil=>rfl
 | cons x r ih=>
  have hx:x.toNat < 256:=x.toNat_lt
  simp only[List.map_cons,Z5,ih,byteOf,iv]
  rw[if_pos ⟨by omega,by omega⟩]
  simp
theorem bytesA_app (a b:ByteArray):ZP a ++ ZP b=ZP (a ++ b):=by simp[ZP]
theorem noEsc {x:AV} {h:zI} {n:Nat} {K:AV→zI→Nat→Prop} (hk:K x h n):GCalls Tryz.prog 185 [x] h n K:=
 .inr (evExt_ok SAN.xt_ok (g:=185) (k:=0) (by simp[SAN.xt]) (o:=(x,h,n)) rfl hk)
theorem uns1 {o:Nat} {a b:AV} {H:zI} (ho:H o=some (.tcells 131 (some 2) [a,b])):aUns Tryz.prog 128 239 (.ptr o 0) H=some (.ptr o 0):=by
 have u1:Tryz.prog.underlying 128=some (.pointer 131):=by kernel_rfl
 have u2:Tryz.prog.underlying 239=some .unsafePointer:=by kernel_rfl
 simp[aUns,ho,u1,u2,szOf131]
theorem uns2 {o:Nat} {a b:AV} {H:zI} (ho:H o=some (.tcells 131 (some 2) [a,b])):aUns Tryz.prog 239 128 (.ptr o 0) H=some (.ptr o 0):=by
 have u1:Tryz.prog.underlying 128=some (.pointer 131):=by kernel_rfl
 have u2:Tryz.prog.underlying 239=some .unsafePointer:=by kernel_rfl
 have u3:liesAt Tryz.prog Tryz.prog.depth 131 (2 / Tryz.prog.cellsOf 131) 0 131 1=true:=by kernel_rfl
 simp[aUns,ho,u1,u2,u3,szOf131]
theorem neqB (o:Nat) (cn:Bool):q9 Tryz.prog .neq 128 cn (.ptr o 0) (.ptr o 0)=some (bv false):=by
 have:ptrSz Tryz.prog 128=true:=by kernel_rfl
 simp[q9,this]
theorem copy_nil {o n:Nat} {X:AV} {H:zI} (ho:H o=some (.tcells 131 (some 2) [.c (.pointer none),X])) (_hon:o < n) :
  zQ Tryz.prog 133 [.ptr o 0] H n fun r h' n'=>n≤n'∧r=.tup []∧h'=H.upd o (some (.tcells 131 (some 2) [.ptr o 0,X])):=by
 refine zQ.entry (by kernel_rfl) fun hb _=>za Tryz.func133 rfl (by kernel_rfl) (by simp[Tryz.ntmps133]) ?_
 have k1:=uns1 ho
 have k2:=uns2 ho
 repeat' (first|(refine zF fun K hK=>?_)|(refine zA fun K hK=>?_;simp (disch:=omega) [go_sem, *,Tryz.ntmps133])|(apply zC.out hK;clear hK K;try with_reducible dsimp only[zG])|(apply zC.out ht;clear ht hf Kt Kf)|(refine zH fun Kt Kf ht hf=>?_;simp (disch:=omega) [go_sem, *];try (refine⟨fun hc=>?_,fun hc=>?_⟩ <;> try (exfalso;omega))))
 refine noEsc ?_
 repeat' (first|(apply zC.out hK;clear hK K;try with_reducible dsimp only[zG])|(with_reducible show nextK _ _ _ _ _ _ _;simp (disch:=omega) [go_sem, *]))
 exact⟨.inl rfl,_,rfl,zY ⟨by omega,rfl,rfl⟩⟩
theorem copy_self {o n:Nat} {X:AV} {H:zI} (ho:H o=some (.tcells 131 (some 2) [.ptr o 0,X])) (_hon:o < n) :
  zQ Tryz.prog 133 [.ptr o 0] H n fun r h' n'=>n≤n'∧r=.tup []∧h'=H:=by
 refine zQ.entry (by kernel_rfl) fun hb _=>za Tryz.func133 rfl (by kernel_rfl) (by simp[Tryz.ntmps133]) ?_
 repeat' (first|(refine zF fun K hK=>?_)|(refine zA fun K hK=>?_;simp (disch:=omega) [go_sem, *,Tryz.ntmps133,neqB])|(apply zC.out hK;clear hK K;try with_reducible dsimp only[zG])|(apply zC.out hf;clear ht hf Kt Kf)|(refine zL ?_;simp only)|(refine zH fun Kt Kf ht hf=>?_;simp (disch:=omega) [go_sem, *];try (refine⟨fun hc=>?_,fun hc=>?_⟩ <;> try (exfalso;omega))))
 exact⟨.inl trivial,_,rfl,zY ⟨by omega,rfl,rfl⟩⟩
theorem apS_nil {s:ByteArray} (hs:0 < s.size) (hz:s.size≤67108864) (nm:Nat) (H:zI):qh Tryz.prog nm 129 9 (.fslc true true 0 []) (sv s) H=some (.slc nm 0 s.size 1,H.upd nm (some (.tcells 5 none (ZP s)))):=by
 have hk:ZM Tryz.prog 9=.string:=by kernel_rfl
 have e26:(2:Nat) ^ 26=67108864:=by decide
 simp[qh,sv,eltOf129,szOf5,byOf5,zerOf5,cellsOf,AV.scalar,hk,hs,e26,hz,iv]
theorem apS_slc {B s:ByteArray} {m:Nat} {H:zI} (hm:H m=some (.tcells 5 none (ZP B))) (hs:0 < s.size) (hz:B.size + s.size≤67108864) (nm:Nat):qh Tryz.prog nm 129 9 (.slc m 0 B.size 1) (sv s) H=some (.slc nm 0 (B.size + s.size) 1,(H.upd m none).upd nm (some (.tcells 5 none (ZP (B ++ s))))):=by
 have hk:ZM Tryz.prog 9=.string:=by kernel_rfl
 have e26:(2:Nat) ^ 26=67108864:=by decide
 simp[qh,sv,eltOf129,szOf5,byOf5,zerOf5,cellsOf,AV.scalar,hk,hs,e26,hz,iv,hm,jZ,bytesA_app]
structure BufIs (N:Nat) (H:zI) (o n:Nat) (B:ByteArray):Prop where
 lo:N≤o
 hi:o < n
 st:(B.size=0∧H o=some (.tcells 131 (some 2) [.c (.pointer none),.fslc true true 0 []]))∨
  ∃m,N≤m∧m < n∧m≠o∧0 < B.size∧H o=some (.tcells 131 (some 2) [.ptr o 0,.slc m 0 B.size 1])∧H m=some (.tcells 5 none (ZP B))
theorem JG {N o n:Nat} {B s:ByteArray} {H:zI} (hB:BufIs N H o n B) (hs:0 < s.size) (hz:B.size + s.size≤67108864) :
  zQ Tryz.prog 66 [.ptr o 0,sv s] H n fun r h' n'=>n≤n'∧(∃z,r=.tup z)∧BufIs N h' o n' (B ++ s)∧∀x,x < N→h' x=H x:=by
 refine zQ.entry (by kernel_rfl) fun hb _=>za Tryz.func66 rfl (by kernel_rfl) (by simp[Tryz.ntmps66]) ?_
 obtain⟨h1,h2,⟨h3,h4⟩ | ⟨m,h3,h4,h5,h6,h7,h8⟩⟩:=hB
 ·have k:=copy_nil h4 (n:=n + 4) (by omega)
  repeat' (first|(refine zF fun K hK=>?_)|(refine zA fun K hK=>?_;simp (disch:=omega) [go_sem, *,Tryz.ntmps66])|(apply zC.out hK;clear hK K;try with_reducible dsimp only[zG]))
  refine .inl (k.mono fun r h' n' ⟨e1,e2,e3⟩=>?_)
  subst e2 e3
  clear k
  have ka:=apS_nil hs (by omega)
  repeat' (first|(refine zF fun K hK=>?_)|(refine zA fun K hK=>?_;simp (disch:=omega) [go_sem, *,zB])|(apply zC.out hK;clear hK K;try with_reducible dsimp only[zG]))
  clear ka
  refine zb ?_
  try dsimp only[zG,zN]
  refine⟨by simp,_,(by first | rfl|(simp (disch:=omega) [go_sem,zB] <;> rfl)),zY ⟨by omega,⟨_,rfl⟩,⟨h1,by omega,.inr ⟨n' + 6,by omega,by omega,by omega,by simp only[ByteArray.size_append];omega,?_,?_⟩⟩,fun x hx=>?_⟩⟩
  ·rw[zD,ByteArray.size_append,h3,Nat.zero_add]
  ·have hB0:B=⟨#[]⟩:=by apply ByteArray.ext;exact Array.eq_empty_of_size_eq_zero h3
   rw[zB _ _ _ _ (by omega),zD,hB0,nil_app]
  ·rw[zB _ _ _ _ (by omega),zB _ _ _ _ (by omega),zB _ _ _ _ (by omega)]
 ·have k:=copy_self h7 (n:=n + 4) (by omega)
  repeat' (first|(refine zF fun K hK=>?_)|(refine zA fun K hK=>?_;simp (disch:=omega) [go_sem, *,Tryz.ntmps66])|(apply zC.out hK;clear hK K;try with_reducible dsimp only[zG]))
  refine .inl (k.mono fun r h' n' ⟨e1,e2,e3⟩=>?_)
  subst e2 e3
  clear k
  have ka:=apS_slc h8 hs hz
  repeat' (first|(refine zF fun K hK=>?_)|(refine zA fun K hK=>?_;simp (disch:=omega) [go_sem, *,zB])|(apply zC.out hK;clear hK K;try with_reducible dsimp only[zG]))
  clear ka
  refine zb ?_
  try dsimp only[zG,zN]
  refine⟨by simp,_,(by first | rfl|(simp (disch:=omega) [go_sem,zB] <;> rfl)),zY ⟨by omega,⟨_,rfl⟩,⟨h1,by omega,.inr ⟨n' + 6,by omega,by omega,by omega,by simp only[ByteArray.size_append];omega,?_,?_⟩⟩,fun x hx=>?_⟩⟩
  ·rw[zD,ByteArray.size_append]
  ·rw[zB _ _ _ _ (by omega),zD]
  ·rw[zB _ _ _ _ (by omega),zB _ _ _ _ (by omega),zB _ _ _ _ (by omega)]
theorem unsS {B:ByteArray} {m:Nat} {H:zI} (hm:H m=some (.tcells 5 none (ZP B))) (h0:0 < B.size) (hz:B.size≤67108864):Qr Tryz.prog 208 (.ptr m 0) (iv .i64 B.size) H=some (sv B,H.upd m none):=by
 have u1:Tryz.prog.underlying 208=some (.pointer 5):=by kernel_rfl
 have u2:Tryz.prog.cellsOf 5=1:=by kernel_rfl
 have e26:(2:Int) ^ 26=67108864:=by decide
 have c:(List.take B.size (ZP B))=ZP B:=List.take_of_length_le (by rw[jZ];omega)
 have c2:(0:Int) < B.size:=by omega
 have c3:(B.size:Int)≤67108864:=by omega
 simp[Qr,u1,u2,iv,hm,e26,c,c3,h0,jZ,bytesOf_bytesA]
theorem string_spec {N o n:Nat} {B:ByteArray} {H:zI} (hB:BufIs N H o n B) (hz:B.size≤67108864) :
  zQ Tryz.prog 70 [.ptr o 0] H n fun r h' n'=>n≤n'∧r=sv B∧∀x,x < N→h' x=H x:=by
 refine zQ.entry (by kernel_rfl) fun hb _=>za Tryz.func70 rfl (by kernel_rfl) (by simp[Tryz.ntmps70]) ?_
 obtain⟨h1,h2,⟨h3,h4⟩ | ⟨m,h3,h4,h5,h6,h7,h8⟩⟩:=hB
 ·have hB0:B=ByteArray.empty:=by apply ByteArray.ext;apply Array.eq_empty_of_size_eq_zero;exact h3
  subst hB0
  repeat' (first|(refine zF fun K hK=>?_)|(refine zA fun K hK=>?_;simp (disch:=omega) [go_sem, *,Tryz.ntmps70])|(apply zC.out hK;clear hK K;try with_reducible dsimp only[zG]))
  refine ZU [10,11] (fun h'=>h' o=some (.tcells 131 (some 2) [.c (.pointer none),.fslc true true 0 []])) mixed (by kernel_rfl) (by simp (disch:=omega) [go_sem,h4]) fun K hK=>?_
  simp (disch:=omega) [go_sem, *]
  repeat' (first|(refine aC_c (by simp[go_sem]) (by decide) (fun h' hh=>by (try dsimp only at hh);(try simp (disch:=omega) [go_sem, *,Jj]);first | exact rfl | exact⟨rfl,rfl,rfl⟩) ?_;try simp only[zU])|(refine aC_x (by simp[go_sem]) (by decide) (by (try simp (disch:=omega) [go_sem, *,Qr]);first | exact rfl | exact⟨rfl,rfl⟩ | exact⟨rfl,rfl,rfl⟩) (by first | exact .inl rfl|(right;simp (disch:=omega) [go_sem,h4])) ?_;try simp only[zU])|(refine j3 ?_;apply zC.out hK;clear hK K;try with_reducible dsimp only[zG]))
  repeat' (first|(apply zC.out hK;clear hK K;try with_reducible dsimp only[zG]))
  refine zb ?_
  try dsimp only[zG,zN]
  exact⟨by simp,_,(by first | rfl|(simp (disch:=omega) [go_sem,zB] <;> rfl)),zY ⟨by omega,rfl,fun x hx=>rfl⟩⟩
 ·have k1:=unsS h8 h6 hz
  repeat' (first|(refine zF fun K hK=>?_)|(refine zA fun K hK=>?_;simp (disch:=omega) [go_sem, *,Tryz.ntmps70])|(apply zC.out hK;clear hK K;try with_reducible dsimp only[zG]))
  refine ZU [10,11] (fun h'=>h' o=some (.tcells 131 (some 2) [.ptr o 0,.slc m 0 B.size 1])) mixed (by kernel_rfl) (by simp (disch:=omega) [go_sem,h7]) fun K hK=>?_
  simp (disch:=omega) [go_sem, *]
  repeat' (first|(refine aC_c (by simp[go_sem]) (by decide) (fun h' hh=>by (try dsimp only at hh);(try simp (disch:=omega) [go_sem, *,Jj]);first | exact rfl | exact⟨rfl,rfl,rfl⟩) ?_;try simp only[zU])|(refine aC_x (by simp[go_sem]) (by decide) (by (try simp (disch:=omega) [go_sem, *]);first | exact rfl | exact⟨rfl,rfl⟩ | exact⟨rfl,rfl,rfl⟩) (by first | exact .inl rfl|(right;simp (disch:=omega) [go_sem,zB,h7])) ?_;try simp only[zU])|(refine j3 ?_;apply zC.out hK;clear hK K;try with_reducible dsimp only[zG]))
  repeat' (first|(apply zC.out hK;clear hK K;try with_reducible dsimp only[zG]))
  refine zb ?_
  try dsimp only[zG,zN]
  exact⟨by simp,_,(by first | rfl|(simp (disch:=omega) [go_sem,zB] <;> rfl)),zY ⟨by omega,rfl,fun x hx=>zB _ _ _ _ (by omega)⟩⟩
end Go.AM
