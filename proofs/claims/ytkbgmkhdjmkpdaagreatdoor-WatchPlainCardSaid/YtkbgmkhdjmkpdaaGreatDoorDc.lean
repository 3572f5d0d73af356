/- Duties of a day, by the program. Conditions: as each theorem says. -/
import Derived.Test.YtkbgmkhdjmkpdaaGreatDoorDb
import Derived.Test.YtkbgmkhdjmkpdaaGreatDoorCf
namespace Go.AM
open Go.Proofs Cw Du Go.RowKit
set_option maxRecDepth 10000
set_option maxHeartbeats 4000000
def lnOk (l:Lin):Prop:=j9 l∧numOk l∧Du.kindOk l
def doMap (md:Nat):List (Value × AV):=[(.int .i64 1,.func (.func 93) [.map md] []),(.int .i64 2,.func (.func 94) [.map md] []),(.int .i64 3,.func (.func 95) [.map md] []),(.int .i64 4,.func (.func 96) [.map md] [])]
theorem ac_hbD {P:Program} {fl:Nat} {c:Code} {Q:Exit→St→Prop} {st:St} (h:HB st.h st.n→zi P fl c Q st):zi P fl c Q st:=
 fun r w0 G a w hr S hf=>h (S.inv.HB S.fresh) r w0 G a w hr S hf
theorem QZ {h:zI} {n k:Nat} (hb:HB h n) (hk:n≤k):h k=none:=by
 cases hx:h k with
 | none=>rfl
 | some o=>have:=(hb _ _ hx).1;omega
theorem duty_len (d:Int) (p:Pr):(cellsOf (zY d p)).length=3:=rfl
theorem ap_duty {nm m:Nat} {d:Int} {V:List Pr} {p:Pr} {h:zI} {b c:Bool} (hm:h m=acO (V.map (zY d))) (hl:V.length≤2000000) :
  ZF Tryz.prog nm 28 (acV 3 m (V.map (zY d))) (.fslc b c 3 [zY d p]) h=some (acV 3 nm ((V ++ [p]).map (zY d)),(h.upd m none).upd nm (acO ((V ++ [p]).map (zY d)))):=by
 have:=ap_ac (P:=Tryz.prog) (T:=28) (e:=51) (s:=3) (by_:=40) (z:=.agg [iv .i64 0,sv ByteArray.empty,sv ByteArray.empty]) (by kernel_rfl) (by kernel_rfl) (by kernel_rfl) (by kernel_rfl) (by simp[cellsOf,AV.scalar]) (nm:=nm) (m:=m) (L:=V.map (zY d)) (X:=[zY d p]) (nl:=b) (full:=c) hm (fun y hy=>by obtain⟨o,_,rfl⟩:=List.mem_map.1 hy;exact duty_len d o) (by simp) (by simp;omega)
 rw[List.map_append];exact this
theorem found_spec (nl fu:Bool) (s:Nat) (ls:List Lin) (hnl:ls=[]∨nl=false∧s=8) (hl:ls.length≤1000000) (hk:∀l ∈ ls,lnOk l) (onl ofu:Bool) (os:Nat) (O:List AV) (d:Int) (h0:0≤d) (h4:d≤400) (H:zI) (n:Nat) :
  zS Tryz.prog 43 [.agg [.fslc nl fu s (ls.map zT),.fslc onl ofu os O],iv .i64 d] H n fun r h' n'=>∃m,n≤m∧m < n'∧r=acV 3 m ((ZC (dayD ls d)).map (zY d))∧h' m=acO ((ZC (dayD ls d)).map (zY d))∧∀x,x < n→h' x=H x:=by
 refine zS.entry (by kernel_rfl) fun hb _=>zX Tryz.func43 rfl (by kernel_rfl) (by simp[Tryz.ntmps43]) ?_
 obtain⟨S,hS⟩:∃S,zC (S=ZC (dayD ls d)):=⟨_,rfl⟩
 rw[←hS.out]
 replace hnl:zC _:=hnl
 replace hk:zC _:=hk
 repeat' (first|(refine zF fun K hK=>?_)|(refine zB fun K hK=>?_;simp (disch:=omega) [go_sem, *,zG,Tryz.ntmps43])|(apply zC.out hK;clear hK K;try with_reducible dsimp only[zD])|(refine zJ ?_))
 refine za (fun s'=>∃(i n':Nat) (H':zI) (E:List Pr) (clk:Nat) (bs:List Nat),n + 4 < n'∧i≤ls.length∧MapP H' (n + 2) E clk bs∧E.Perm ((ls.take i).foldl (JQ d) [])∧E.Nodup∧H' (n + 4)=some (.map 4 [0,1,2,3] (doMap (n + 2)))∧(∀x,x < n→H' x=H x)∧
   s'=⟨57,[(1,iv .i64 d),(5,.map (n + 2)),(6,.map (n + 4)),(23,.fslc nl fu s (ls.map zT)),(24,iv .i64 ls.length),(25,iv .i64 i)],H',n'⟩)
  (fun s'=>ls.length - (zf s' 25).toNat) ?_ ?_
 ·refine zb (by simp[go_sem]) (Sub.refl _) ⟨0,_,_,[],0,[],by omega,by omega,⟨?_,rfl,List.nodup_nil,fun b hb=>by simp at hb⟩,List.Perm.refl _,List.nodup_nil,zM _ _ _,fun x hx=>?_,rfl⟩
  ·simp (disch:=omega) only[zG,zM];rfl
  ·simp (disch:=omega) only[zG]
 ·rintro s' ⟨i,n',H',E,clk,bs,hn',hi,ME,hE,hEn,hdo,hfr,rfl⟩
  replace hfr:zC _:=hfr
  replace ME:zC _:=ME
  replace hE:zC _:=hE
  replace hEn:zC _:=hEn
  by_cases hlt:i < ls.length
  ·obtain⟨l,hx⟩:∃l,ls[i]=l:=⟨_,rfl⟩
   have hlk:=hk.out l (hx ▸ List.getElem_mem hlt)
   have hne:ls≠[]:=fun e=>by rw[e] at hlt;simp at hlt
   obtain⟨rfl,rfl⟩:=hnl.out.resolve_left hne
   have c1:=on_spec l hlk.1 hlk.2.1 d h0 h4
   have hst:(ls.take (i + 1)).foldl (JQ d) []=JQ d ((ls.take i).foldl (JQ d) []) l:=by
    rw[List.take_succ_eq_append_getElem hlt,List.foldl_append,hx];rfl
   have hex:zT ls[i]=.agg (zy l):=by rw[hx];rfl
   have hkd:=hlk.2.2
   have cw:=watch_spec l (n + 2)
   have cr:=rest_spec l (n + 2)
   have cc:=cancel_spec l (n + 2)
   have cs:=swap_spec l
   have hsd:Zy l=fun D=>if l.kind=1 then (if Zh D (l.tower,l.person) then D else D ++ [(l.tower,l.person)]) else if l.kind=2 then D.filter fun p=>!eqB p.2 l.person else if l.kind=3 then D.filter fun p=>!eqB p.1 l.tower else D.map (swP l.person l.other):=by funext D;rfl
   simp only[zT] at c1 cw cr cc cs
   simp only[zy] at hex
   replace hst:zC _:=hst
   replace hx:zC _:=hx
   replace cw:zC _:=cw
   replace cr:zC _:=cr
   replace cc:zC _:=cc
   replace cs:zC _:=cs
   replace hkd:zC _:=hkd
   replace hsd:zC _:=hsd
   clear hne hlk
   cases hon:onL l d with
   | false=>
    rw[hon] at c1
    have hst2:(ls.take (i + 1)).foldl (JQ d) []=(ls.take i).foldl (JQ d) []:=by rw[hst.out,JQ,hon];rfl
    replace hst2:zC _:=hst2
    repeat' (first|(refine zF fun K hK=>?_)|(refine zB fun K hK=>?_;simp (disch:=omega) [go_sem, *,zN,zQ,zP])|(apply zC.out hK;clear hK K;try with_reducible dsimp only[zD])|(apply zC.out ht;clear ht hf Kt Kf)|(apply zC.out hf;clear ht hf Kt Kf)|(with_reducible refine zL.gcall (c1) ?_;try simp (disch:=omega) [go_sem, *])|(refine zJ ?_)|(refine zK ?_;simp only[zD,zO])|(refine zH fun Kt Kf ht hf=>?_;simp (disch:=omega) [go_sem, *];try (refine⟨fun hc=>?_,fun hc=>?_⟩ <;> try (exfalso;omega))))
    refine zV (by simp (disch:=omega) [go_sem]) (Sub.refl _) ⟨i + 1,_,_,E,clk,bs,by omega,by omega,⟨?_,ME.out.len,ME.out.nd,ME.out.lt⟩,by rw[hst2.out];exact hE.out,hEn.out,?_,fun x hx=>?_,rfl⟩ (by simp[zf,go_sem];omega)
    ·simp (disch:=omega) only[zG];exact ME.out.at_
    ·simp (disch:=omega) only[zG];exact hdo
    ·simp (disch:=omega) only[zG];exact hfr.out x hx
   | true=>
    rw[hon] at c1
    have hst2:(ls.take (i + 1)).foldl (JQ d) []=Zy l ((ls.take i).foldl (JQ d) []):=by rw[hst.out,JQ,hon];rfl
    have hE2:(Zy l E).Perm ((ls.take (i + 1)).foldl (JQ d) []):=by rw[hst2];exact stepD_perm l hE.out
    have hE3:(Zy l E).Nodup:=qj l hkd.out hEn.out
    replace hst2:zC _:=trivial
    replace hE2:zC _:=hE2
    replace hE3:zC _:=hE3
    simp only[doMap] at hdo
    obtain⟨kd,tw,pe,ot,fr,to,ev,lnl,lfu,lls,exc⟩:=l
    rcases hkd.out with hq | hq | hq | ⟨hq,hne⟩
    ·simp only at hq;subst hq
     repeat' (first|(refine zF fun K hK=>?_)|(refine zB fun K hK=>?_;simp (disch:=omega) [go_sem, *,zG,zQ,zP])|(apply zC.out hK;clear hK K;try with_reducible dsimp only[zD])|(apply zC.out ht;clear ht hf Kt Kf)|(with_reducible refine zL.gcall (c1) ?_;try simp (disch:=omega) [go_sem, *])|(refine zJ ?_)|(refine zK ?_;simp only[zD])|(refine zH fun Kt Kf ht hf=>?_;simp (disch:=omega) [go_sem, *];try (refine⟨fun hc=>?_,fun hc=>?_⟩ <;> try (exfalso;omega))))
     refine .inl ((cw.out _ E _ clk bs ?_ ?_).mono fun r H7 n7 hp=>?_)
     ·exact⟨by simp (disch:=omega) only[zG];exact ME.out.at_,ME.out.len,ME.out.nd,ME.out.lt⟩
     ·omega
     ·obtain⟨hn7,rfl,hm7,hx7⟩:=hp
      have hm8:∃ck bt F,MapP H7 (n + 2) F ck bt∧F.Perm (Zy ⟨1,tw,pe,ot,fr,to,ev,lnl,lfu,lls,exc⟩ E):=by
       obtain⟨ck,bt,hm⟩:=hm7;exact⟨ck,bt,_,hm,by rw[hsd.out];simp⟩
      have hdo7:H7 (n + 4)=some (.map 4 [0,1,2,3] (doMap (n + 2))):=by
       rw[hx7 _ (by omega) (by omega)];simp (disch:=omega) only[zG];exact hdo
      have hfr7:∀x,x < n→H7 x=H x:=fun x hx=>by
       rw[hx7 _ (by omega) (by omega)];simp (disch:=omega) only[zG];exact hfr.out x hx
      obtain⟨ck,bt,F,MF,hF⟩:=hm8
      have hF2:=hF.trans hE2.out
      have hF3:F.Nodup:=hF.nodup_iff.2 hE3.out
      clear hx7 hm7 hF hE2 hE3 hdo hfr ME
      replace hF2:zC _:=hF2
      replace hF3:zC _:=hF3
      replace MF:zC _:=MF
      replace hdo7:zC _:=hdo7
      replace hfr7:zC _:=hfr7
      simp (disch:=omega) [go_sem]
      repeat' (first|(refine zB fun K hK=>?_;simp (disch:=omega) [go_sem, *,zN])|(apply zC.out hK;clear hK K;try with_reducible dsimp only[zD]))
      exact zV (by simp (disch:=omega) [go_sem]) (Sub.refl _) ⟨i + 1,_,H7,F,ck,bt,by omega,by omega,MF.out,hF2.out,hF3.out,hdo7.out,hfr7.out,rfl⟩ (by simp[zf,go_sem];omega)
    ·simp only at hq;subst hq
     repeat' (first|(refine zF fun K hK=>?_)|(refine zB fun K hK=>?_;simp (disch:=omega) [go_sem, *,zG,zQ,zP])|(apply zC.out hK;clear hK K;try with_reducible dsimp only[zD])|(apply zC.out ht;clear ht hf Kt Kf)|(with_reducible refine zL.gcall (c1) ?_;try simp (disch:=omega) [go_sem, *])|(refine zJ ?_)|(refine zK ?_;simp only[zD])|(refine zH fun Kt Kf ht hf=>?_;simp (disch:=omega) [go_sem, *];try (refine⟨fun hc=>?_,fun hc=>?_⟩ <;> try (exfalso;omega))))
     refine .inl ((cr.out _ E _ clk bs ?_ hEn.out ?_).mono fun r H7 n7 hp=>?_)
     ·exact⟨by simp (disch:=omega) only[zG];exact ME.out.at_,ME.out.len,ME.out.nd,ME.out.lt⟩
     ·omega
     ·obtain⟨hn7,rfl,hm7,hx7⟩:=hp
      have hm8:∃ck bt F,MapP H7 (n + 2) F ck bt∧F.Perm (Zy ⟨2,tw,pe,ot,fr,to,ev,lnl,lfu,lls,exc⟩ E):=by
       obtain⟨ck,bt,hm⟩:=hm7;exact⟨ck,bt,_,hm,by rw[hsd.out];simp⟩
      have hdo7:H7 (n + 4)=some (.map 4 [0,1,2,3] (doMap (n + 2))):=by
       rw[hx7 _ (by omega) (by omega)];simp (disch:=omega) only[zG];exact hdo
      have hfr7:∀x,x < n→H7 x=H x:=fun x hx=>by
       rw[hx7 _ (by omega) (by omega)];simp (disch:=omega) only[zG];exact hfr.out x hx
      obtain⟨ck,bt,F,MF,hF⟩:=hm8
      have hF2:=hF.trans hE2.out
      have hF3:F.Nodup:=hF.nodup_iff.2 hE3.out
      clear hx7 hm7 hF hE2 hE3 hdo hfr ME
      replace hF2:zC _:=hF2
      replace hF3:zC _:=hF3
      replace MF:zC _:=MF
      replace hdo7:zC _:=hdo7
      replace hfr7:zC _:=hfr7
      simp (disch:=omega) [go_sem]
      repeat' (first|(refine zB fun K hK=>?_;simp (disch:=omega) [go_sem, *,zN])|(apply zC.out hK;clear hK K;try with_reducible dsimp only[zD]))
      exact zV (by simp (disch:=omega) [go_sem]) (Sub.refl _) ⟨i + 1,_,H7,F,ck,bt,by omega,by omega,MF.out,hF2.out,hF3.out,hdo7.out,hfr7.out,rfl⟩ (by simp[zf,go_sem];omega)
    ·simp only at hq;subst hq
     repeat' (first|(refine zF fun K hK=>?_)|(refine zB fun K hK=>?_;simp (disch:=omega) [go_sem, *,zG,zQ,zP])|(apply zC.out hK;clear hK K;try with_reducible dsimp only[zD])|(apply zC.out ht;clear ht hf Kt Kf)|(with_reducible refine zL.gcall (c1) ?_;try simp (disch:=omega) [go_sem, *])|(refine zJ ?_)|(refine zK ?_;simp only[zD])|(refine zH fun Kt Kf ht hf=>?_;simp (disch:=omega) [go_sem, *];try (refine⟨fun hc=>?_,fun hc=>?_⟩ <;> try (exfalso;omega))))
     refine .inl ((cc.out _ E _ clk bs ?_ hEn.out ?_).mono fun r H7 n7 hp=>?_)
     ·exact⟨by simp (disch:=omega) only[zG];exact ME.out.at_,ME.out.len,ME.out.nd,ME.out.lt⟩
     ·omega
     ·obtain⟨hn7,rfl,hm7,hx7⟩:=hp
      have hm8:∃ck bt F,MapP H7 (n + 2) F ck bt∧F.Perm (Zy ⟨3,tw,pe,ot,fr,to,ev,lnl,lfu,lls,exc⟩ E):=by
       obtain⟨ck,bt,hm⟩:=hm7;exact⟨ck,bt,_,hm,by rw[hsd.out];simp⟩
      have hdo7:H7 (n + 4)=some (.map 4 [0,1,2,3] (doMap (n + 2))):=by
       rw[hx7 _ (by omega) (by omega)];simp (disch:=omega) only[zG];exact hdo
      have hfr7:∀x,x < n→H7 x=H x:=fun x hx=>by
       rw[hx7 _ (by omega) (by omega)];simp (disch:=omega) only[zG];exact hfr.out x hx
      obtain⟨ck,bt,F,MF,hF⟩:=hm8
      have hF2:=hF.trans hE2.out
      have hF3:F.Nodup:=hF.nodup_iff.2 hE3.out
      clear hx7 hm7 hF hE2 hE3 hdo hfr ME
      replace hF2:zC _:=hF2
      replace hF3:zC _:=hF3
      replace MF:zC _:=MF
      replace hdo7:zC _:=hdo7
      replace hfr7:zC _:=hfr7
      simp (disch:=omega) [go_sem]
      repeat' (first|(refine zB fun K hK=>?_;simp (disch:=omega) [go_sem, *,zN])|(apply zC.out hK;clear hK K;try with_reducible dsimp only[zD]))
      exact zV (by simp (disch:=omega) [go_sem]) (Sub.refl _) ⟨i + 1,_,H7,F,ck,bt,by omega,by omega,MF.out,hF2.out,hF3.out,hdo7.out,hfr7.out,rfl⟩ (by simp[zf,go_sem];omega)
    ·simp only at hq;subst hq
     repeat' (first|(refine zF fun K hK=>?_)|(refine zB fun K hK=>?_;simp (disch:=omega) [go_sem, *,zG,zQ,zP])|(apply zC.out hK;clear hK K;try with_reducible dsimp only[zD])|(apply zC.out ht;clear ht hf Kt Kf)|(with_reducible refine zL.gcall (c1) ?_;try simp (disch:=omega) [go_sem, *])|(refine zJ ?_)|(refine zK ?_;simp only[zD])|(refine zH fun Kt Kf ht hf=>?_;simp (disch:=omega) [go_sem, *];try (refine⟨fun hc=>?_,fun hc=>?_⟩ <;> try (exfalso;omega))))
     refine .inl ((cs.out hne (n + 2) _ E _ clk bs ?_ hEn.out ?_).mono fun r H7 n7 hp=>?_)
     ·exact⟨by simp (disch:=omega) only[zG];exact ME.out.at_,ME.out.len,ME.out.nd,ME.out.lt⟩
     ·omega
     ·obtain⟨hn7,rfl,hm7,hx7⟩:=hp
      have hm8:∃ck bt F,MapP H7 (n + 2) F ck bt∧F.Perm (Zy ⟨4,tw,pe,ot,fr,to,ev,lnl,lfu,lls,exc⟩ E):=by
       obtain⟨ck,bt,F,hm,hF⟩:=hm7;exact⟨ck,bt,F,hm,by rw[hsd.out];simpa using hF⟩
      have hdo7:H7 (n + 4)=some (.map 4 [0,1,2,3] (doMap (n + 2))):=by
       rw[hx7 _ (by omega) (by omega)];simp (disch:=omega) only[zG];exact hdo
      have hfr7:∀x,x < n→H7 x=H x:=fun x hx=>by
       rw[hx7 _ (by omega) (by omega)];simp (disch:=omega) only[zG];exact hfr.out x hx
      obtain⟨ck,bt,F,MF,hF⟩:=hm8
      have hF2:=hF.trans hE2.out
      have hF3:F.Nodup:=hF.nodup_iff.2 hE3.out
      clear hx7 hm7 hF hE2 hE3 hdo hfr ME
      replace hF2:zC _:=hF2
      replace hF3:zC _:=hF3
      replace MF:zC _:=MF
      replace hdo7:zC _:=hdo7
      replace hfr7:zC _:=hfr7
      simp (disch:=omega) [go_sem]
      repeat' (first|(refine zB fun K hK=>?_;simp (disch:=omega) [go_sem, *,zN])|(apply zC.out hK;clear hK K;try with_reducible dsimp only[zD]))
      exact zV (by simp (disch:=omega) [go_sem]) (Sub.refl _) ⟨i + 1,_,H7,F,ck,bt,by omega,by omega,MF.out,hF2.out,hF3.out,hdo7.out,hfr7.out,rfl⟩ (by simp[zf,go_sem];omega)
  ·have hii:i=ls.length:=by omega
   subst hii
   have hE2:E.Perm (dayD ls d):=by have:=hE.out;rw[List.take_length] at this;exact this
   obtain⟨Z,hZ1,hZ2⟩:=ME.out.z
   have hmz:jX H' (n + 2) clk Z:=by unfold jX;rw[hZ1,hZ2];exact ME.out.at_
   have hn0:(Z.map (·.1)).Nodup:=by rw[hZ1];exact ME.out.nd
   have hdz:(Z.map (·.2)).Nodup:=by rw[hZ2];exact hEn.out
   have hltz:∀z ∈ Z,z.1 < clk:=fun z hz=>ME.out.lt _ (by rw[←hZ1];exact List.mem_map.2 ⟨z,hz,rfl⟩)
   have hzl:Z.length≤ls.length:=by
    have e1:Z.length=E.length:=by rw[←hZ2,List.length_map]
    rw[e1,hE2.length_eq];exact dayD_len ls d
   have hrg:=fun nm=>range_pairP (nm:=nm) ME.out
   replace hE2:zC _:=hE2
   replace hmz:zC _:=hmz
   replace hn0:zC _:=hn0
   replace hdz:zC _:=hdz
   replace hltz:zC _:=hltz
   replace hZ1:zC _:=hZ1
   replace hZ2:zC _:=hZ2
   replace hrg:zC _:=hrg
   clear hE hdo
   repeat' (first|(refine zF fun K hK=>?_)|(refine zB fun K hK=>?_;simp (disch:=omega) [go_sem, *])|(apply zC.out hK;clear hK K;try with_reducible dsimp only[zD])|(apply zC.out hf;clear ht hf Kt Kf)|(clear hK K;apply zC.out hK;clear hK K;try with_reducible dsimp only[zD])|(refine zU ?_;simp only[zD,zO,if_true])|(refine zH fun Kt Kf ht hf=>?_;simp (disch:=omega) [go_sem, *];try (refine⟨fun hc=>?_,fun hc=>?_⟩ <;> try (exfalso;omega))))
   rw[hrg.out]
   clear hrg
   simp (disch:=omega) [go_sem]
   repeat' (first|(apply zC.out hK;clear hK K;try with_reducible dsimp only[zD])|(refine zJ ?_))
   refine ac_hbD fun hB=>?_
   obtain⟨it,hite⟩:∃it,it=n' + 1 + 1 + 1:=⟨_,rfl⟩
   have hit0:n' < it∧it < n' + 1 + 1 + 2:=by omega
   rw[←hite] at hB ⊢
   have hmo0:(H'.upd it (some (.iter (n + 2) clk clk []))) (n' + 1 + 1 + 2)=none:=QZ hB (Nat.le_refl _)
   replace hite:zC _:=hite
   clear hB
   refine za (fun s'=>∃(n2 mo:Nat) (seen:List Nat) (H2:zI) (V:List Pr),n' + 1 + 1 + 2≤n2∧n' + 1 + 1 + 2≤mo∧mo≤n2∧H2 it=some (.iter (n + 2) clk clk seen)∧jX H2 (n + 2) clk Z∧H2 mo=acO (V.map (zY d))∧V.Nodup∧(∀q,q ∈ V↔SeenZ Z seen q)∧V.length + Jq Z seen≤Z.length∧(∀x,x < n→H2 x=H x)∧
     s'=⟨57,[(1,iv .i64 d),(9,acV 3 mo (V.map (zY d))),(40,.ptr it 0)],H2,n2⟩)
    (fun s'=>Jq Z (ZG s'.h it)) ?_ ?_
   ·refine zb ?_ (Sub.refl _) ⟨_,n' + 1 + 1 + 2,[],_,[],Nat.le_refl _,Nat.le_refl _,Nat.le_refl _,zM _ _ _,?_,hmo0,List.nodup_nil,fun q=>⟨fun h=>by simp at h,fun h=>absurd h (SeenZ_nil _ _)⟩,?_,fun x hx=>?_,rfl⟩
    ·rw[show ([]:List Pr).map (zY d)=[] from rfl,jx];simp[go_sem]
    ·unfold jX;rw[zG _ _ _ _ (by omega)];exact hmz.out
    ·have:=List.length_filter_le (fun z:Nat × Pr=>decide (z.1 ∉ ([]:List Nat))) Z
     simp only[Jq,List.length_nil,Nat.zero_add];exact this
    ·rw[zG _ _ _ _ (by omega)];exact hfr.out x hx
   ·rintro s' ⟨n2,mo,seen,H2,V,hn2,hmo1,hmo2,hit,hmp,hV,hVn,hVm,hVl,hfr2,rfl⟩
    replace hfr2:zC _:=hfr2
    replace hVn:zC _:=hVn
    replace hVm:zC _:=hVm
    replace hV:zC _:=hV
    refine zF fun K hK=>?_
    refine QK (it:=.tmp 40) (n:=it) (m:=n + 2) (since:=clk) (last:=clk) (clk:=clk) (seen:=seen) rfl rfl rfl rfl (by simp[go_sem]) hit hmp ?_ (Nat.le_refl _) (fun hall K3 hK3=>?_) (fun j b k v hj hbj hns K3 hK3=>?_)
    ·intro b hb
     obtain⟨z,hz,rfl⟩:=List.mem_map.1 hb
     exact hltz.out z hz
    ·have hVE:V.Perm (dayD ls d):=by
      refine List.Perm.trans ?_ hE2.out
      rw[List.perm_ext_iff_of_nodup hVn.out hEn.out]
      intro q
      rw[hVm.out q,SeenZ_all hall q,hZ2.out]
     have hsrt:S=ZC V:=by rw[hS.out];exact (sortP_congr hVE hVn.out).symm
     subst hsrt
     replace hVE:zC _:=hVE
     clear hall hmp hit hVm
     simp (disch:=omega) [go_sem]
     refine hK3.out _ ?_
     clear hK3 K3
     dsimp only[zD]
     refine hK.out _ ?_
     clear hK K
     by_cases hV0:V=[]
     ·subst hV0
      have es:ZC []=[]:=by simp[ZC]
      rw[es]
      simp only[List.map_nil,jx]
      repeat' (first|(refine zF fun K hK=>?_)|(refine zB fun K hK=>?_;simp (disch:=omega) [go_sem, *])|(apply zC.out hf;clear ht hf Kt Kf)|(clear hK K;apply zC.out hK;clear hK K;try with_reducible dsimp only[zD])|(refine zU ?_;simp only[zD,zO,if_true])|(refine zH fun Kt Kf ht hf=>?_;simp (disch:=omega) [go_sem, *];try (refine⟨fun hc=>?_,fun hc=>?_⟩ <;> try (exfalso;omega))))
      refine .inl ((sortD0 _ _ _).mono fun r H3 n3 hp=>?_)
      obtain⟨rfl,rfl,rfl⟩:=hp
      simp (disch:=omega) [go_sem]
      repeat' (first|(refine zF fun K hK=>?_)|(refine zB fun K hK=>?_;simp (disch:=omega) [go_sem, *])|(apply zC.out hK;clear hK K;try with_reducible dsimp only[zD]))
      refine zg ?_
      try dsimp only[zD,zO]
      refine⟨by simp,_,(by first | rfl|(simp (disch:=omega) [go_sem,zG] <;> rfl)),?_⟩
      exact zc ⟨mo,by omega,by omega,by rw[es];rfl,by rw[es];exact hV.out,hfr2.out⟩
     ·have hV1:V.map (zY d)≠[]:=by simpa using hV0
      have ev:acV 3 mo (V.map (zY d))=.slc mo 0 V.length 3:=by rw[ZP hV1,List.length_map]
      have hm2:H2 mo=some (.cells (flat (V.map (zY d)))):=by rw[hV.out,Z2 hV1]
      have hls:(ZC V).length=V.length:=(Za V).length_eq
      have hS1:(ZC V).map (zY d)≠[]:=by
       intro e
       have:=congrArg List.length e
       rw[List.length_map,hls] at this
       exact hV0 (List.length_eq_zero_iff.1 this)
      have es:acV 3 mo ((ZC V).map (zY d))=.slc mo 0 V.length 3:=by rw[ZP hS1,List.length_map,hls]
      have eo:acO ((ZC V).map (zY d))=some (.cells (flat ((ZC V).map (zY d)))):=Z2 hS1
      have ksort:=fun k=>sortD d mo k V H2 hm2 (by omega)
      rw[ev]
      replace ksort:zC _:=ksort
      replace es:zC _:=es
      replace eo:zC _:=eo
      replace hls:zC _:=hls
      replace hS1:zC _:=trivial
      replace hV1:zC _:=trivial
      replace ev:zC _:=trivial
      clear hm2 hV0
      repeat' (first|(refine zF fun K hK=>?_)|(refine zB fun K hK=>?_;simp (disch:=omega) [go_sem, *])|(apply zC.out hf;clear ht hf Kt Kf)|(clear hK K;apply zC.out hK;clear hK K;try with_reducible dsimp only[zD])|(refine zU ?_;simp only[zD,zO,if_true])|(refine zH fun Kt Kf ht hf=>?_;simp (disch:=omega) [go_sem, *];try (refine⟨fun hc=>?_,fun hc=>?_⟩ <;> try (exfalso;omega))))
      refine .inl ((ksort.out _).mono fun r H3 n3 hp=>?_)
      obtain⟨rfl,rfl,rfl⟩:=hp
      simp (disch:=omega) [go_sem]
      repeat' (first|(refine zF fun K hK=>?_)|(refine zB fun K hK=>?_;simp (disch:=omega) [go_sem, *])|(apply zC.out hK;clear hK K;try with_reducible dsimp only[zD]))
      refine zg ?_
      try dsimp only[zD,zO]
      refine⟨by simp,_,(by first | rfl|(simp (disch:=omega) [go_sem,zG] <;> rfl)),?_⟩
      exact zc ⟨mo,by omega,by omega,es.out.symm,by rw[eo.out];exact zM _ _ _,fun x hx=>by
       show (H2.upd mo _) x=H x
       rw[zG _ _ _ _ (by omega)];exact hfr2.out x hx⟩
    ·obtain⟨p,hjz,rfl,rfl⟩:∃p,Z[j]? = some (b,p)∧k=Zm p∧v=bv true:=by
      rw[ents_get,List.getElem?_map] at hj
      rw[List.getElem?_map] at hbj
      cases hq:Z[j]? with
      | none=>rw[hq] at hj;cases hj
      | some z=>
       rw[hq] at hj hbj
       simp only[Option.map_some,Option.some.injEq,Prod.mk.injEq] at hj hbj
       exact⟨z.2,by rw[←hbj],hj.1.symm,hj.2.symm⟩
     have hzm:=List.mem_of_getElem? hjz
     have hmes:=leftZ_lt hzm hns
     simp only at hmes
     have hnew:p ∉ V:=fun h=>SeenZ_not hdz.out hzm hns ((hVm.out p).1 h)
     have hVn2:(V ++ [p]).Nodup:=by
      rw[List.nodup_append]
      refine⟨hVn.out,by simp,fun a ha c hc=>?_⟩
      rw[List.mem_singleton] at hc
      rintro rfl
      rw[hc] at ha;exact hnew ha
     have hVm2:∀q,q ∈ V ++ [p]↔SeenZ Z (seen ++ [b]) q:=fun q=>by
      rw[List.mem_append,List.mem_singleton,hVm.out q,qQ hn0.out hzm q]
     have hVl2:(V ++ [p]).length + Jq Z (seen ++ [b])≤Z.length:=by rw[List.length_append,List.length_singleton];omega
     have hit2:(H2.upd it (some (.iter (n + 2) clk clk (seen ++ [b])))) it=some (.iter (n + 2) clk clk (seen ++ [b])):=zM _ _ _
     have hmp2:jX (H2.upd it (some (.iter (n + 2) clk clk (seen ++ [b])))) (n + 2) clk Z:=by unfold jX;rw[zG _ _ _ _ (by omega)];exact hmp
     have hV2:(H2.upd it (some (.iter (n + 2) clk clk (seen ++ [b])))) mo=acO (V.map (zY d)):=by rw[zG _ _ _ _ (by omega)];exact hV.out
     have hfr3:∀x,x < n→(H2.upd it (some (.iter (n + 2) clk clk (seen ++ [b])))) x=H x:=fun x h1=>by rw[zG _ _ _ _ (by omega)];exact hfr2.out x h1
     have hent:=Qr hit2 hmp2 hn0.out hjz
     rw[JC]
     simp only
     have hmes2:Jq Z (seen ++ [b]) < Jq Z (ZG H2 it):=by
      have:ZG H2 it=seen:=by unfold ZG;rw[hit]
      rw[this];exact hmes
     have hVb:V.length≤2000000:=by omega
     obtain⟨H5,hH5⟩:∃H5,H5=H2.upd it (some (.iter (n + 2) clk clk (seen ++ [b]))):=⟨_,rfl⟩
     rw[←hH5] at hit2 hmp2 hV2 hfr3 hent ⊢
     replace hmes2:zC _:=hmes2
     replace hfr3:zC _:=hfr3
     replace hmp2:zC _:=hmp2
     replace hV2:zC _:=hV2
     replace hVn2:zC _:=hVn2
     replace hVm2:zC _:=hVm2
     clear hmp hj hbj hfr2 hVm hVn hV hns hmes hnew hzm hjz hit hH5
     obtain⟨p1,p2⟩:=p
     simp only[keyA] at hent ⊢
     simp (disch:=omega) [go_sem]
     refine hK3.out _ ?_
     clear hK3 K3
     dsimp only[zD]
     refine hK.out _ ?_
     clear hK K
     repeat' (first|(refine zF fun K hK=>?_)|(refine zB fun K hK=>?_;simp (disch:=omega) [go_sem, *])|(apply zC.out hK;clear hK K;try with_reducible dsimp only[zD])|(apply zC.out ht;clear ht hf Kt Kf)|(refine zJ ?_)|(refine zK ?_;simp only[zD])|(refine zH fun Kt Kf ht hf=>?_;simp (disch:=omega) [go_sem, *];try (refine⟨fun hc=>?_,fun hc=>?_⟩ <;> try (exfalso;omega))))
     obtain⟨H6,hH6⟩:∃H6,H6=(H5.upd (n2 + 2 + 2) (some (.cells [sv ByteArray.empty,sv ByteArray.empty]))).upd (n2 + 2 + 2) (some (.cells [sv p1,sv p2])):=⟨_,rfl⟩
     rw[←hH6]
     have hx6:∀x,x≠n2 + 2 + 2→H6 x=H5 x:=fun x hx=>by rw[hH6];simp only[zG _ _ _ _ hx]
     have hV6:H6 mo=acO (V.map (zY d)):=by rw[hx6 _ (by omega)];exact hV2.out
     have hap:=ap_duty (nm:=n2 + 2 + 4 + 8) (d:=d) (p:=(p1,p2)) (b:=false) (c:=false) hV6 hVb
     simp only[zY] at hap
     rw[hap]
     have hit7:((H6.upd mo none).upd (n2 + 2 + 4 + 8) (acO ((V ++ [(p1,p2)]).map (zY d)))) it=some (.iter (n + 2) clk clk (seen ++ [b])):=by rw[zG _ _ _ _ (by omega),zG _ _ _ _ (by omega),hx6 it (by omega)];exact hit2
     have hmp7:jX ((H6.upd mo none).upd (n2 + 2 + 4 + 8) (acO ((V ++ [(p1,p2)]).map (zY d)))) (n + 2) clk Z:=by unfold jX;rw[zG _ _ _ _ (by omega),zG _ _ _ _ (by omega),hx6 _ (by omega)];exact hmp2.out
     have hfr7:∀x,x < n→((H6.upd mo none).upd (n2 + 2 + 4 + 8) (acO ((V ++ [(p1,p2)]).map (zY d)))) x=H x:=fun x h1=>by rw[zG _ _ _ _ (by omega),zG _ _ _ _ (by omega),hx6 x (by omega)];exact hfr3.out x h1
     have hV7:=zM (H6.upd mo none) (n2 + 2 + 4 + 8) (acO ((V ++ [(p1,p2)]).map (zY d)))
     generalize (H6.upd mo none).upd (n2 + 2 + 4 + 8) (acO ((V ++ [(p1,p2)]).map (zY d)))=H7 at *
     replace hfr7:zC _:=hfr7
     replace hmp7:zC _:=hmp7
     replace hV7:zC _:=hV7
     clear hap hx6 hH6 hV6 hent hit2
     simp (disch:=omega) [go_sem]
     repeat' (first|(apply zC.out hK;clear hK K;try with_reducible dsimp only[zD]))
     refine zV (by simp[go_sem]) (Sub.refl _) ⟨_,n2 + 2 + 4 + 8,seen ++ [b],_,V ++ [(p1,p2)],by omega,by omega,by omega,hit7,hmp7.out,hV7.out,hVn2.out,hVm2.out,hVl2,hfr7.out,rfl⟩ ?_
     have e1:ZG H7 it=seen ++ [b]:=by unfold ZG;rw[hit7]
     simp only[e1];exact hmes2.out
end Go.AM
namespace Go.AM
open Go.Proofs Cw Du
set_option maxRecDepth 10000
def ZW (d:Int) (L:List Pr):AV:=if L=[] then .fslc true true 0 [] else .fslc false false 3 (L.map (zY d))
theorem elemsD (d:Int):∀D:List Pr,jS true 3 D.length (flat (D.map (zY d)))=D.map (zY d)
 | []=>rfl
 | p :: r=>by
  have ih:=elemsD d r
  have e:flat ((p :: r).map (zY d))=[iv .i64 d,sv p.1,sv p.2] ++ flat (r.map (zY d)):=by simp[flat,zY,cellsOf]
  rw[e]
  simp only[jS,List.length_cons,qY,List.map_cons] at ih ⊢
  have e1:List.drop 3 ([iv .i64 d,sv p.1,sv p.2] ++ flat (r.map (zY d)))=flat (r.map (zY d)):=rfl
  have e2:List.take 3 ([iv .i64 d,sv p.1,sv p.2] ++ flat (r.map (zY d)))=[iv .i64 d,sv p.1,sv p.2]:=rfl
  rw[e1,e2,ih];rfl
end Go.AM
