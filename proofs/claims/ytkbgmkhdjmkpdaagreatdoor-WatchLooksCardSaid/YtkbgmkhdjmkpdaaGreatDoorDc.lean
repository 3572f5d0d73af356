/- Duties of a day, by the program. Conditions: as each theorem says. -/
import Derived.Test.YtkbgmkhdjmkpdaaGreatDoorDb
import Derived.Test.YtkbgmkhdjmkpdaaGreatDoorCf
namespace Go.AM
open Go.Proofs Cw Du Go.RowKit
set_option maxRecDepth 10000
set_option maxHeartbeats 4000000
def lnOk (l:Lin):Prop:=Qe l∧numOk l∧Du.kindOk l
def doMap (md:Nat):List (Value × AV):=[(.int .i64 1,.func (.func 93) [.map md] []),(.int .i64 2,.func (.func 94) [.map md] []),(.int .i64 3,.func (.func 95) [.map md] []),(.int .i64 4,.func (.func 96) [.map md] [])]
theorem ac_hbD {P:Program} {fl:Nat} {c:Code} {Q:Exit→St→Prop} {st:St} (h:HB st.h st.n→zi P fl c Q st):zi P fl c Q st:=
 fun r w0 G a w hr S hf=>h (S.inv.HB S.fresh) r w0 G a w hr S hf
theorem HB_none {h:zH} {n k:Nat} (hb:HB h n) (hk:n≤k):h k=none:=by
 cases hx:h k with
 | none=>rfl
 | some o=>have:=(hb _ _ hx).1;omega
theorem duty_len (d:Int) (p:Pr):(cellsOf (dutyA d p)).length=3:=rfl
theorem ap_duty {nm m:Nat} {d:Int} {V:List Pr} {p:Pr} {h:zH} {b c:Bool} (hm:h m=acO (V.map (dutyA d))) (hl:V.length≤2000000) :
  zm Tryz.prog nm 28 (acV 3 m (V.map (dutyA d))) (.fslc b c 3 [dutyA d p]) h=some (acV 3 nm ((V ++ [p]).map (dutyA d)),(h.upd m none).upd nm (acO ((V ++ [p]).map (dutyA d)))):=by
 have:=ap_ac (P:=Tryz.prog) (T:=28) (e:=51) (s:=3) (by_:=40) (z:=.agg [iv .i64 0,sv ByteArray.empty,sv ByteArray.empty]) (by kernel_rfl) (by kernel_rfl) (by kernel_rfl) (by kernel_rfl) (by simp[cellsOf,AV.scalar]) (nm:=nm) (m:=m) (L:=V.map (dutyA d)) (X:=[dutyA d p]) (nl:=b) (full:=c) hm (fun y hy=>by obtain⟨o,_,rfl⟩:=List.mem_map.1 hy;exact duty_len d o) (by simp) (by simp;omega)
 rw[List.map_append];exact this
theorem found_spec (nl fu:Bool) (s:Nat) (ls:List Lin) (hnl:ls=[]∨nl=false∧s=8) (hl:ls.length≤1000000) (hk:∀l ∈ ls,lnOk l) (onl ofu:Bool) (os:Nat) (O:List AV) (d:Int) (h0:0≤d) (h4:d≤400) (H:zH) (n:Nat) :
  zQ Tryz.prog 43 [.agg [.fslc nl fu s (ls.map zg),.fslc onl ofu os O],iv .i64 d] H n fun r h' n'=>∃m,n≤m∧m < n'∧r=acV 3 m ((ZN (dayD ls d)).map (dutyA d))∧h' m=acO ((ZN (dayD ls d)).map (dutyA d))∧∀x,x < n→h' x=H x:=by
 refine zQ.entry (by kernel_rfl) fun hb _=>zV Tryz.func43 rfl (by kernel_rfl) (by simp[Tryz.ntmps43]) ?_
 obtain⟨S,hS⟩:∃S,zB (S=ZN (dayD ls d)):=⟨_,rfl⟩
 rw[←hS.out]
 replace hnl:zB _:=hnl
 replace hk:zB _:=hk
 repeat' (first|(refine zD fun K hK=>?_)|(refine zA fun K hK=>?_;simp (disch:=omega) [go_sem, *,zG,Tryz.ntmps43])|(apply zB.out hK;clear hK K;try with_reducible dsimp only[zC])|(refine zI ?_))
 refine zW (fun s'=>∃(i n':Nat) (H':zH) (E:List Pr) (clk:Nat) (bs:List Nat),n + 4 < n'∧i≤ls.length∧MapP H' (n + 2) E clk bs∧E.Perm ((ls.take i).foldl (Jf d) [])∧E.Nodup∧H' (n + 4)=some (.map 4 [0,1,2,3] (doMap (n + 2)))∧(∀x,x < n→H' x=H x)∧
   s'=⟨57,[(1,iv .i64 d),(5,.map (n + 2)),(6,.map (n + 4)),(23,.fslc nl fu s (ls.map zg)),(24,iv .i64 ls.length),(25,iv .i64 i)],H',n'⟩)
  (fun s'=>ls.length - (zY s' 25).toNat) ?_ ?_
 ·refine zX (by simp[go_sem]) (Sub.refl _) ⟨0,_,_,[],0,[],by omega,by omega,⟨?_,rfl,List.nodup_nil,fun b hb=>by simp at hb⟩,List.Perm.refl _,List.nodup_nil,zL _ _ _,fun x hx=>?_,rfl⟩
  ·simp (disch:=omega) only[zG,zL];rfl
  ·simp (disch:=omega) only[zG]
 ·rintro s' ⟨i,n',H',E,clk,bs,hn',hi,ME,hE,hEn,hdo,hfr,rfl⟩
  replace hfr:zB _:=hfr
  replace ME:zB _:=ME
  replace hE:zB _:=hE
  replace hEn:zB _:=hEn
  by_cases hlt:i < ls.length
  ·obtain⟨l,hx⟩:∃l,ls[i]=l:=⟨_,rfl⟩
   have hlk:=hk.out l (hx ▸ List.getElem_mem hlt)
   have hne:ls≠[]:=fun e=>by rw[e] at hlt;simp at hlt
   obtain⟨rfl,rfl⟩:=hnl.out.resolve_left hne
   have c1:=on_spec l hlk.1 hlk.2.1 d h0 h4
   have hst:(ls.take (i + 1)).foldl (Jf d) []=Jf d ((ls.take i).foldl (Jf d) []) l:=by
    rw[List.take_succ_eq_append_getElem hlt,List.foldl_append,hx];rfl
   have hex:zg ls[i]=.agg (zz l):=by rw[hx];rfl
   have hkd:=hlk.2.2
   have cw:=watch_spec l (n + 2)
   have cr:=rest_spec l (n + 2)
   have cc:=cancel_spec l (n + 2)
   have cs:=swap_spec l
   have hsd:Zf l=fun D=>if l.kind=1 then (if qC D (l.tower,l.person) then D else D ++ [(l.tower,l.person)]) else if l.kind=2 then D.filter fun p=>!eqB p.2 l.person else if l.kind=3 then D.filter fun p=>!eqB p.1 l.tower else D.map (swP l.person l.other):=by funext D;rfl
   simp only[zg] at c1 cw cr cc cs
   simp only[zz] at hex
   replace hst:zB _:=hst
   replace hx:zB _:=hx
   replace cw:zB _:=cw
   replace cr:zB _:=cr
   replace cc:zB _:=cc
   replace cs:zB _:=cs
   replace hkd:zB _:=hkd
   replace hsd:zB _:=hsd
   clear hne hlk
   cases hon:onL l d with
   | false=>
    rw[hon] at c1
    have hst2:(ls.take (i + 1)).foldl (Jf d) []=(ls.take i).foldl (Jf d) []:=by rw[hst.out,Jf,hon];rfl
    replace hst2:zB _:=hst2
    repeat' (first|(refine zD fun K hK=>?_)|(refine zA fun K hK=>?_;simp (disch:=omega) [go_sem, *,zM,zN,zO])|(apply zB.out hK;clear hK K;try with_reducible dsimp only[zC])|(apply zB.out ht;clear ht hf Kt Kf)|(apply zB.out hf;clear ht hf Kt Kf)|(with_reducible refine zJ.gcall (c1) ?_;try simp (disch:=omega) [go_sem, *])|(refine zI ?_)|(refine zK ?_;simp only[zC,zP])|(refine zF fun Kt Kf ht hf=>?_;simp (disch:=omega) [go_sem, *];try (refine⟨fun hc=>?_,fun hc=>?_⟩ <;> try (exfalso;omega))))
    refine zS (by simp (disch:=omega) [go_sem]) (Sub.refl _) ⟨i + 1,_,_,E,clk,bs,by omega,by omega,⟨?_,ME.out.len,ME.out.nd,ME.out.lt⟩,by rw[hst2.out];exact hE.out,hEn.out,?_,fun x hx=>?_,rfl⟩ (by simp[zY,go_sem];omega)
    ·simp (disch:=omega) only[zG];exact ME.out.at_
    ·simp (disch:=omega) only[zG];exact hdo
    ·simp (disch:=omega) only[zG];exact hfr.out x hx
   | true=>
    rw[hon] at c1
    have hst2:(ls.take (i + 1)).foldl (Jf d) []=Zf l ((ls.take i).foldl (Jf d) []):=by rw[hst.out,Jf,hon];rfl
    have hE2:(Zf l E).Perm ((ls.take (i + 1)).foldl (Jf d) []):=by rw[hst2];exact stepD_perm l hE.out
    have hE3:(Zf l E).Nodup:=qd l hkd.out hEn.out
    replace hst2:zB _:=trivial
    replace hE2:zB _:=hE2
    replace hE3:zB _:=hE3
    simp only[doMap] at hdo
    obtain⟨kd,tw,pe,ot,fr,to,ev,lnl,lfu,lls,exc⟩:=l
    rcases hkd.out with hq | hq | hq | ⟨hq,hne⟩
    ·simp only at hq;subst hq
     repeat' (first|(refine zD fun K hK=>?_)|(refine zA fun K hK=>?_;simp (disch:=omega) [go_sem, *,zG,zN,zO])|(apply zB.out hK;clear hK K;try with_reducible dsimp only[zC])|(apply zB.out ht;clear ht hf Kt Kf)|(with_reducible refine zJ.gcall (c1) ?_;try simp (disch:=omega) [go_sem, *])|(refine zI ?_)|(refine zK ?_;simp only[zC])|(refine zF fun Kt Kf ht hf=>?_;simp (disch:=omega) [go_sem, *];try (refine⟨fun hc=>?_,fun hc=>?_⟩ <;> try (exfalso;omega))))
     refine .inl ((cw.out _ E _ clk bs ?_ ?_).mono fun r H7 n7 hp=>?_)
     ·exact⟨by simp (disch:=omega) only[zG];exact ME.out.at_,ME.out.len,ME.out.nd,ME.out.lt⟩
     ·omega
     ·obtain⟨hn7,rfl,hm7,hx7⟩:=hp
      have hm8:∃ck bt F,MapP H7 (n + 2) F ck bt∧F.Perm (Zf ⟨1,tw,pe,ot,fr,to,ev,lnl,lfu,lls,exc⟩ E):=by
       obtain⟨ck,bt,hm⟩:=hm7;exact⟨ck,bt,_,hm,by rw[hsd.out];simp⟩
      have hdo7:H7 (n + 4)=some (.map 4 [0,1,2,3] (doMap (n + 2))):=by
       rw[hx7 _ (by omega) (by omega)];simp (disch:=omega) only[zG];exact hdo
      have hfr7:∀x,x < n→H7 x=H x:=fun x hx=>by
       rw[hx7 _ (by omega) (by omega)];simp (disch:=omega) only[zG];exact hfr.out x hx
      obtain⟨ck,bt,F,MF,hF⟩:=hm8
      have hF2:=hF.trans hE2.out
      have hF3:F.Nodup:=hF.nodup_iff.2 hE3.out
      clear hx7 hm7 hF hE2 hE3 hdo hfr ME
      replace hF2:zB _:=hF2
      replace hF3:zB _:=hF3
      replace MF:zB _:=MF
      replace hdo7:zB _:=hdo7
      replace hfr7:zB _:=hfr7
      simp (disch:=omega) [go_sem]
      repeat' (first|(refine zA fun K hK=>?_;simp (disch:=omega) [go_sem, *,zM])|(apply zB.out hK;clear hK K;try with_reducible dsimp only[zC]))
      exact zS (by simp (disch:=omega) [go_sem]) (Sub.refl _) ⟨i + 1,_,H7,F,ck,bt,by omega,by omega,MF.out,hF2.out,hF3.out,hdo7.out,hfr7.out,rfl⟩ (by simp[zY,go_sem];omega)
    ·simp only at hq;subst hq
     repeat' (first|(refine zD fun K hK=>?_)|(refine zA fun K hK=>?_;simp (disch:=omega) [go_sem, *,zG,zN,zO])|(apply zB.out hK;clear hK K;try with_reducible dsimp only[zC])|(apply zB.out ht;clear ht hf Kt Kf)|(with_reducible refine zJ.gcall (c1) ?_;try simp (disch:=omega) [go_sem, *])|(refine zI ?_)|(refine zK ?_;simp only[zC])|(refine zF fun Kt Kf ht hf=>?_;simp (disch:=omega) [go_sem, *];try (refine⟨fun hc=>?_,fun hc=>?_⟩ <;> try (exfalso;omega))))
     refine .inl ((cr.out _ E _ clk bs ?_ hEn.out ?_).mono fun r H7 n7 hp=>?_)
     ·exact⟨by simp (disch:=omega) only[zG];exact ME.out.at_,ME.out.len,ME.out.nd,ME.out.lt⟩
     ·omega
     ·obtain⟨hn7,rfl,hm7,hx7⟩:=hp
      have hm8:∃ck bt F,MapP H7 (n + 2) F ck bt∧F.Perm (Zf ⟨2,tw,pe,ot,fr,to,ev,lnl,lfu,lls,exc⟩ E):=by
       obtain⟨ck,bt,hm⟩:=hm7;exact⟨ck,bt,_,hm,by rw[hsd.out];simp⟩
      have hdo7:H7 (n + 4)=some (.map 4 [0,1,2,3] (doMap (n + 2))):=by
       rw[hx7 _ (by omega) (by omega)];simp (disch:=omega) only[zG];exact hdo
      have hfr7:∀x,x < n→H7 x=H x:=fun x hx=>by
       rw[hx7 _ (by omega) (by omega)];simp (disch:=omega) only[zG];exact hfr.out x hx
      obtain⟨ck,bt,F,MF,hF⟩:=hm8
      have hF2:=hF.trans hE2.out
      have hF3:F.Nodup:=hF.nodup_iff.2 hE3.out
      clear hx7 hm7 hF hE2 hE3 hdo hfr ME
      replace hF2:zB _:=hF2
      replace hF3:zB _:=hF3
      replace MF:zB _:=MF
      replace hdo7:zB _:=hdo7
      replace hfr7:zB _:=hfr7
      simp (disch:=omega) [go_sem]
      repeat' (first|(refine zA fun K hK=>?_;simp (disch:=omega) [go_sem, *,zM])|(apply zB.out hK;clear hK K;try with_reducible dsimp only[zC]))
      exact zS (by simp (disch:=omega) [go_sem]) (Sub.refl _) ⟨i + 1,_,H7,F,ck,bt,by omega,by omega,MF.out,hF2.out,hF3.out,hdo7.out,hfr7.out,rfl⟩ (by simp[zY,go_sem];omega)
    ·simp only at hq;subst hq
     repeat' (first|(refine zD fun K hK=>?_)|(refine zA fun K hK=>?_;simp (disch:=omega) [go_sem, *,zG,zN,zO])|(apply zB.out hK;clear hK K;try with_reducible dsimp only[zC])|(apply zB.out ht;clear ht hf Kt Kf)|(with_reducible refine zJ.gcall (c1) ?_;try simp (disch:=omega) [go_sem, *])|(refine zI ?_)|(refine zK ?_;simp only[zC])|(refine zF fun Kt Kf ht hf=>?_;simp (disch:=omega) [go_sem, *];try (refine⟨fun hc=>?_,fun hc=>?_⟩ <;> try (exfalso;omega))))
     refine .inl ((cc.out _ E _ clk bs ?_ hEn.out ?_).mono fun r H7 n7 hp=>?_)
     ·exact⟨by simp (disch:=omega) only[zG];exact ME.out.at_,ME.out.len,ME.out.nd,ME.out.lt⟩
     ·omega
     ·obtain⟨hn7,rfl,hm7,hx7⟩:=hp
      have hm8:∃ck bt F,MapP H7 (n + 2) F ck bt∧F.Perm (Zf ⟨3,tw,pe,ot,fr,to,ev,lnl,lfu,lls,exc⟩ E):=by
       obtain⟨ck,bt,hm⟩:=hm7;exact⟨ck,bt,_,hm,by rw[hsd.out];simp⟩
      have hdo7:H7 (n + 4)=some (.map 4 [0,1,2,3] (doMap (n + 2))):=by
       rw[hx7 _ (by omega) (by omega)];simp (disch:=omega) only[zG];exact hdo
      have hfr7:∀x,x < n→H7 x=H x:=fun x hx=>by
       rw[hx7 _ (by omega) (by omega)];simp (disch:=omega) only[zG];exact hfr.out x hx
      obtain⟨ck,bt,F,MF,hF⟩:=hm8
      have hF2:=hF.trans hE2.out
      have hF3:F.Nodup:=hF.nodup_iff.2 hE3.out
      clear hx7 hm7 hF hE2 hE3 hdo hfr ME
      replace hF2:zB _:=hF2
      replace hF3:zB _:=hF3
      replace MF:zB _:=MF
      replace hdo7:zB _:=hdo7
      replace hfr7:zB _:=hfr7
      simp (disch:=omega) [go_sem]
      repeat' (first|(refine zA fun K hK=>?_;simp (disch:=omega) [go_sem, *,zM])|(apply zB.out hK;clear hK K;try with_reducible dsimp only[zC]))
      exact zS (by simp (disch:=omega) [go_sem]) (Sub.refl _) ⟨i + 1,_,H7,F,ck,bt,by omega,by omega,MF.out,hF2.out,hF3.out,hdo7.out,hfr7.out,rfl⟩ (by simp[zY,go_sem];omega)
    ·simp only at hq;subst hq
     repeat' (first|(refine zD fun K hK=>?_)|(refine zA fun K hK=>?_;simp (disch:=omega) [go_sem, *,zG,zN,zO])|(apply zB.out hK;clear hK K;try with_reducible dsimp only[zC])|(apply zB.out ht;clear ht hf Kt Kf)|(with_reducible refine zJ.gcall (c1) ?_;try simp (disch:=omega) [go_sem, *])|(refine zI ?_)|(refine zK ?_;simp only[zC])|(refine zF fun Kt Kf ht hf=>?_;simp (disch:=omega) [go_sem, *];try (refine⟨fun hc=>?_,fun hc=>?_⟩ <;> try (exfalso;omega))))
     refine .inl ((cs.out hne (n + 2) _ E _ clk bs ?_ hEn.out ?_).mono fun r H7 n7 hp=>?_)
     ·exact⟨by simp (disch:=omega) only[zG];exact ME.out.at_,ME.out.len,ME.out.nd,ME.out.lt⟩
     ·omega
     ·obtain⟨hn7,rfl,hm7,hx7⟩:=hp
      have hm8:∃ck bt F,MapP H7 (n + 2) F ck bt∧F.Perm (Zf ⟨4,tw,pe,ot,fr,to,ev,lnl,lfu,lls,exc⟩ E):=by
       obtain⟨ck,bt,F,hm,hF⟩:=hm7;exact⟨ck,bt,F,hm,by rw[hsd.out];simpa using hF⟩
      have hdo7:H7 (n + 4)=some (.map 4 [0,1,2,3] (doMap (n + 2))):=by
       rw[hx7 _ (by omega) (by omega)];simp (disch:=omega) only[zG];exact hdo
      have hfr7:∀x,x < n→H7 x=H x:=fun x hx=>by
       rw[hx7 _ (by omega) (by omega)];simp (disch:=omega) only[zG];exact hfr.out x hx
      obtain⟨ck,bt,F,MF,hF⟩:=hm8
      have hF2:=hF.trans hE2.out
      have hF3:F.Nodup:=hF.nodup_iff.2 hE3.out
      clear hx7 hm7 hF hE2 hE3 hdo hfr ME
      replace hF2:zB _:=hF2
      replace hF3:zB _:=hF3
      replace MF:zB _:=MF
      replace hdo7:zB _:=hdo7
      replace hfr7:zB _:=hfr7
      simp (disch:=omega) [go_sem]
      repeat' (first|(refine zA fun K hK=>?_;simp (disch:=omega) [go_sem, *,zM])|(apply zB.out hK;clear hK K;try with_reducible dsimp only[zC]))
      exact zS (by simp (disch:=omega) [go_sem]) (Sub.refl _) ⟨i + 1,_,H7,F,ck,bt,by omega,by omega,MF.out,hF2.out,hF3.out,hdo7.out,hfr7.out,rfl⟩ (by simp[zY,go_sem];omega)
  ·have hii:i=ls.length:=by omega
   subst hii
   have hE2:E.Perm (dayD ls d):=by have:=hE.out;rw[List.take_length] at this;exact this
   obtain⟨Z,hZ1,hZ2⟩:=ME.out.z
   have hmz:jV H' (n + 2) clk Z:=by unfold jV;rw[hZ1,hZ2];exact ME.out.at_
   have hn0:(Z.map (·.1)).Nodup:=by rw[hZ1];exact ME.out.nd
   have hdz:(Z.map (·.2)).Nodup:=by rw[hZ2];exact hEn.out
   have hltz:∀z ∈ Z,z.1 < clk:=fun z hz=>ME.out.lt _ (by rw[←hZ1];exact List.mem_map.2 ⟨z,hz,rfl⟩)
   have hzl:Z.length≤ls.length:=by
    have e1:Z.length=E.length:=by rw[←hZ2,List.length_map]
    rw[e1,hE2.length_eq];exact dayD_len ls d
   have hrg:=fun nm=>range_pairP (nm:=nm) ME.out
   replace hE2:zB _:=hE2
   replace hmz:zB _:=hmz
   replace hn0:zB _:=hn0
   replace hdz:zB _:=hdz
   replace hltz:zB _:=hltz
   replace hZ1:zB _:=hZ1
   replace hZ2:zB _:=hZ2
   replace hrg:zB _:=hrg
   clear hE hdo
   repeat' (first|(refine zD fun K hK=>?_)|(refine zA fun K hK=>?_;simp (disch:=omega) [go_sem, *])|(apply zB.out hK;clear hK K;try with_reducible dsimp only[zC])|(apply zB.out hf;clear ht hf Kt Kf)|(clear hK K;apply zB.out hK;clear hK K;try with_reducible dsimp only[zC])|(refine zT ?_;simp only[zC,zP,if_true])|(refine zF fun Kt Kf ht hf=>?_;simp (disch:=omega) [go_sem, *];try (refine⟨fun hc=>?_,fun hc=>?_⟩ <;> try (exfalso;omega))))
   rw[hrg.out]
   clear hrg
   simp (disch:=omega) [go_sem]
   repeat' (first|(apply zB.out hK;clear hK K;try with_reducible dsimp only[zC])|(refine zI ?_))
   refine ac_hbD fun hB=>?_
   obtain⟨it,hite⟩:∃it,it=n' + 1 + 1 + 1:=⟨_,rfl⟩
   have hit0:n' < it∧it < n' + 1 + 1 + 2:=by omega
   rw[←hite] at hB ⊢
   have hmo0:(H'.upd it (some (.iter (n + 2) clk clk []))) (n' + 1 + 1 + 2)=none:=HB_none hB (Nat.le_refl _)
   replace hite:zB _:=hite
   clear hB
   refine zW (fun s'=>∃(n2 mo:Nat) (seen:List Nat) (H2:zH) (V:List Pr),n' + 1 + 1 + 2≤n2∧n' + 1 + 1 + 2≤mo∧mo≤n2∧H2 it=some (.iter (n + 2) clk clk seen)∧jV H2 (n + 2) clk Z∧H2 mo=acO (V.map (dutyA d))∧V.Nodup∧(∀q,q ∈ V↔SeenZ Z seen q)∧V.length + Js Z seen≤Z.length∧(∀x,x < n→H2 x=H x)∧
     s'=⟨57,[(1,iv .i64 d),(9,acV 3 mo (V.map (dutyA d))),(40,.ptr it 0)],H2,n2⟩)
    (fun s'=>Js Z (ZA s'.h it)) ?_ ?_
   ·refine zX ?_ (Sub.refl _) ⟨_,n' + 1 + 1 + 2,[],_,[],Nat.le_refl _,Nat.le_refl _,Nat.le_refl _,zL _ _ _,?_,hmo0,List.nodup_nil,fun q=>⟨fun h=>by simp at h,fun h=>absurd h (SeenZ_nil _ _)⟩,?_,fun x hx=>?_,rfl⟩
    ·rw[show ([]:List Pr).map (dutyA d)=[] from rfl,jk];simp[go_sem]
    ·unfold jV;rw[zG _ _ _ _ (by omega)];exact hmz.out
    ·have:=List.length_filter_le (fun z:Nat × Pr=>decide (z.1 ∉ ([]:List Nat))) Z
     simp only[Js,List.length_nil,Nat.zero_add];exact this
    ·rw[zG _ _ _ _ (by omega)];exact hfr.out x hx
   ·rintro s' ⟨n2,mo,seen,H2,V,hn2,hmo1,hmo2,hit,hmp,hV,hVn,hVm,hVl,hfr2,rfl⟩
    replace hfr2:zB _:=hfr2
    replace hVn:zB _:=hVn
    replace hVm:zB _:=hVm
    replace hV:zB _:=hV
    refine zD fun K hK=>?_
    refine Jv (it:=.tmp 40) (n:=it) (m:=n + 2) (since:=clk) (last:=clk) (clk:=clk) (seen:=seen) rfl rfl rfl rfl (by simp[go_sem]) hit hmp ?_ (Nat.le_refl _) (fun hall K3 hK3=>?_) (fun j b k v hj hbj hns K3 hK3=>?_)
    ·intro b hb
     obtain⟨z,hz,rfl⟩:=List.mem_map.1 hb
     exact hltz.out z hz
    ·have hVE:V.Perm (dayD ls d):=by
      refine List.Perm.trans ?_ hE2.out
      rw[List.perm_ext_iff_of_nodup hVn.out hEn.out]
      intro q
      rw[hVm.out q,SeenZ_all hall q,hZ2.out]
     have hsrt:S=ZN V:=by rw[hS.out];exact (sortP_congr hVE hVn.out).symm
     subst hsrt
     replace hVE:zB _:=hVE
     clear hall hmp hit hVm
     simp (disch:=omega) [go_sem]
     refine hK3.out _ ?_
     clear hK3 K3
     dsimp only[zC]
     refine hK.out _ ?_
     clear hK K
     by_cases hV0:V=[]
     ·subst hV0
      have es:ZN []=[]:=by simp[ZN]
      rw[es]
      simp only[List.map_nil,jk]
      repeat' (first|(refine zD fun K hK=>?_)|(refine zA fun K hK=>?_;simp (disch:=omega) [go_sem, *])|(apply zB.out hf;clear ht hf Kt Kf)|(clear hK K;apply zB.out hK;clear hK K;try with_reducible dsimp only[zC])|(refine zT ?_;simp only[zC,zP,if_true])|(refine zF fun Kt Kf ht hf=>?_;simp (disch:=omega) [go_sem, *];try (refine⟨fun hc=>?_,fun hc=>?_⟩ <;> try (exfalso;omega))))
      refine .inl ((sortD0 _ _ _).mono fun r H3 n3 hp=>?_)
      obtain⟨rfl,rfl,rfl⟩:=hp
      simp (disch:=omega) [go_sem]
      repeat' (first|(refine zD fun K hK=>?_)|(refine zA fun K hK=>?_;simp (disch:=omega) [go_sem, *])|(apply zB.out hK;clear hK K;try with_reducible dsimp only[zC]))
      refine zf ?_
      try dsimp only[zC,zP]
      refine⟨by simp,_,(by first | rfl|(simp (disch:=omega) [go_sem,zG] <;> rfl)),?_⟩
      exact zZ ⟨mo,by omega,by omega,by rw[es];rfl,by rw[es];exact hV.out,hfr2.out⟩
     ·have hV1:V.map (dutyA d)≠[]:=by simpa using hV0
      have ev:acV 3 mo (V.map (dutyA d))=.slc mo 0 V.length 3:=by rw[ZQ hV1,List.length_map]
      have hm2:H2 mo=some (.cells (flat (V.map (dutyA d)))):=by rw[hV.out,Zm hV1]
      have hls:(ZN V).length=V.length:=(Z7 V).length_eq
      have hS1:(ZN V).map (dutyA d)≠[]:=by
       intro e
       have:=congrArg List.length e
       rw[List.length_map,hls] at this
       exact hV0 (List.length_eq_zero_iff.1 this)
      have es:acV 3 mo ((ZN V).map (dutyA d))=.slc mo 0 V.length 3:=by rw[ZQ hS1,List.length_map,hls]
      have eo:acO ((ZN V).map (dutyA d))=some (.cells (flat ((ZN V).map (dutyA d)))):=Zm hS1
      have ksort:=fun k=>sortD d mo k V H2 hm2 (by omega)
      rw[ev]
      replace ksort:zB _:=ksort
      replace es:zB _:=es
      replace eo:zB _:=eo
      replace hls:zB _:=hls
      replace hS1:zB _:=trivial
      replace hV1:zB _:=trivial
      replace ev:zB _:=trivial
      clear hm2 hV0
      repeat' (first|(refine zD fun K hK=>?_)|(refine zA fun K hK=>?_;simp (disch:=omega) [go_sem, *])|(apply zB.out hf;clear ht hf Kt Kf)|(clear hK K;apply zB.out hK;clear hK K;try with_reducible dsimp only[zC])|(refine zT ?_;simp only[zC,zP,if_true])|(refine zF fun Kt Kf ht hf=>?_;simp (disch:=omega) [go_sem, *];try (refine⟨fun hc=>?_,fun hc=>?_⟩ <;> try (exfalso;omega))))
      refine .inl ((ksort.out _).mono fun r H3 n3 hp=>?_)
      obtain⟨rfl,rfl,rfl⟩:=hp
      simp (disch:=omega) [go_sem]
      repeat' (first|(refine zD fun K hK=>?_)|(refine zA fun K hK=>?_;simp (disch:=omega) [go_sem, *])|(apply zB.out hK;clear hK K;try with_reducible dsimp only[zC]))
      refine zf ?_
      try dsimp only[zC,zP]
      refine⟨by simp,_,(by first | rfl|(simp (disch:=omega) [go_sem,zG] <;> rfl)),?_⟩
      exact zZ ⟨mo,by omega,by omega,es.out.symm,by rw[eo.out];exact zL _ _ _,fun x hx=>by
       show (H2.upd mo _) x=H x
       rw[zG _ _ _ _ (by omega)];exact hfr2.out x hx⟩
    ·obtain⟨p,hjz,rfl,rfl⟩:∃p,Z[j]? = some (b,p)∧k=qU p∧v=bv true:=by
      rw[ents_get,List.getElem?_map] at hj
      rw[List.getElem?_map] at hbj
      cases hq:Z[j]? with
      | none=>rw[hq] at hj;cases hj
      | some z=>
       rw[hq] at hj hbj
       simp only[Option.map_some,Option.some.injEq,Prod.mk.injEq] at hj hbj
       exact⟨z.2,by rw[←hbj],hj.1.symm,hj.2.symm⟩
     have hzm:=List.mem_of_getElem? hjz
     have hmes:=leftZ_lt hzm hns
     simp only at hmes
     have hnew:p ∉ V:=fun h=>SeenZ_not hdz.out hzm hns ((hVm.out p).1 h)
     have hVn2:(V ++ [p]).Nodup:=by
      rw[List.nodup_append]
      refine⟨hVn.out,by simp,fun a ha c hc=>?_⟩
      rw[List.mem_singleton] at hc
      rintro rfl
      rw[hc] at ha;exact hnew ha
     have hVm2:∀q,q ∈ V ++ [p]↔SeenZ Z (seen ++ [b]) q:=fun q=>by
      rw[List.mem_append,List.mem_singleton,hVm.out q,J6 hn0.out hzm q]
     have hVl2:(V ++ [p]).length + Js Z (seen ++ [b])≤Z.length:=by rw[List.length_append,List.length_singleton];omega
     have hit2:(H2.upd it (some (.iter (n + 2) clk clk (seen ++ [b])))) it=some (.iter (n + 2) clk clk (seen ++ [b])):=zL _ _ _
     have hmp2:jV (H2.upd it (some (.iter (n + 2) clk clk (seen ++ [b])))) (n + 2) clk Z:=by unfold jV;rw[zG _ _ _ _ (by omega)];exact hmp
     have hV2:(H2.upd it (some (.iter (n + 2) clk clk (seen ++ [b])))) mo=acO (V.map (dutyA d)):=by rw[zG _ _ _ _ (by omega)];exact hV.out
     have hfr3:∀x,x < n→(H2.upd it (some (.iter (n + 2) clk clk (seen ++ [b])))) x=H x:=fun x h1=>by rw[zG _ _ _ _ (by omega)];exact hfr2.out x h1
     have hent:=Qw hit2 hmp2 hn0.out hjz
     rw[QW]
     simp only
     have hmes2:Js Z (seen ++ [b]) < Js Z (ZA H2 it):=by
      have:ZA H2 it=seen:=by unfold ZA;rw[hit]
      rw[this];exact hmes
     have hVb:V.length≤2000000:=by omega
     obtain⟨H5,hH5⟩:∃H5,H5=H2.upd it (some (.iter (n + 2) clk clk (seen ++ [b]))):=⟨_,rfl⟩
     rw[←hH5] at hit2 hmp2 hV2 hfr3 hent ⊢
     replace hmes2:zB _:=hmes2
     replace hfr3:zB _:=hfr3
     replace hmp2:zB _:=hmp2
     replace hV2:zB _:=hV2
     replace hVn2:zB _:=hVn2
     replace hVm2:zB _:=hVm2
     clear hmp hj hbj hfr2 hVm hVn hV hns hmes hnew hzm hjz hit hH5
     obtain⟨p1,p2⟩:=p
     simp only[keyA] at hent ⊢
     simp (disch:=omega) [go_sem]
     refine hK3.out _ ?_
     clear hK3 K3
     dsimp only[zC]
     refine hK.out _ ?_
     clear hK K
     repeat' (first|(refine zD fun K hK=>?_)|(refine zA fun K hK=>?_;simp (disch:=omega) [go_sem, *])|(apply zB.out hK;clear hK K;try with_reducible dsimp only[zC])|(apply zB.out ht;clear ht hf Kt Kf)|(refine zI ?_)|(refine zK ?_;simp only[zC])|(refine zF fun Kt Kf ht hf=>?_;simp (disch:=omega) [go_sem, *];try (refine⟨fun hc=>?_,fun hc=>?_⟩ <;> try (exfalso;omega))))
     obtain⟨H6,hH6⟩:∃H6,H6=(H5.upd (n2 + 2 + 2) (some (.cells [sv ByteArray.empty,sv ByteArray.empty]))).upd (n2 + 2 + 2) (some (.cells [sv p1,sv p2])):=⟨_,rfl⟩
     rw[←hH6]
     have hx6:∀x,x≠n2 + 2 + 2→H6 x=H5 x:=fun x hx=>by rw[hH6];simp only[zG _ _ _ _ hx]
     have hV6:H6 mo=acO (V.map (dutyA d)):=by rw[hx6 _ (by omega)];exact hV2.out
     have hap:=ap_duty (nm:=n2 + 2 + 4 + 8) (d:=d) (p:=(p1,p2)) (b:=false) (c:=false) hV6 hVb
     simp only[dutyA] at hap
     rw[hap]
     have hit7:((H6.upd mo none).upd (n2 + 2 + 4 + 8) (acO ((V ++ [(p1,p2)]).map (dutyA d)))) it=some (.iter (n + 2) clk clk (seen ++ [b])):=by rw[zG _ _ _ _ (by omega),zG _ _ _ _ (by omega),hx6 it (by omega)];exact hit2
     have hmp7:jV ((H6.upd mo none).upd (n2 + 2 + 4 + 8) (acO ((V ++ [(p1,p2)]).map (dutyA d)))) (n + 2) clk Z:=by unfold jV;rw[zG _ _ _ _ (by omega),zG _ _ _ _ (by omega),hx6 _ (by omega)];exact hmp2.out
     have hfr7:∀x,x < n→((H6.upd mo none).upd (n2 + 2 + 4 + 8) (acO ((V ++ [(p1,p2)]).map (dutyA d)))) x=H x:=fun x h1=>by rw[zG _ _ _ _ (by omega),zG _ _ _ _ (by omega),hx6 x (by omega)];exact hfr3.out x h1
     have hV7:=zL (H6.upd mo none) (n2 + 2 + 4 + 8) (acO ((V ++ [(p1,p2)]).map (dutyA d)))
     generalize (H6.upd mo none).upd (n2 + 2 + 4 + 8) (acO ((V ++ [(p1,p2)]).map (dutyA d)))=H7 at *
     replace hfr7:zB _:=hfr7
     replace hmp7:zB _:=hmp7
     replace hV7:zB _:=hV7
     clear hap hx6 hH6 hV6 hent hit2
     simp (disch:=omega) [go_sem]
     repeat' (first|(apply zB.out hK;clear hK K;try with_reducible dsimp only[zC]))
     refine zS (by simp[go_sem]) (Sub.refl _) ⟨_,n2 + 2 + 4 + 8,seen ++ [b],_,V ++ [(p1,p2)],by omega,by omega,by omega,hit7,hmp7.out,hV7.out,hVn2.out,hVm2.out,hVl2,hfr7.out,rfl⟩ ?_
     have e1:ZA H7 it=seen ++ [b]:=by unfold ZA;rw[hit7]
     simp only[e1];exact hmes2.out
end Go.AM
namespace Go.AM
open Go.Proofs Cw Du
set_option maxRecDepth 10000
def Ze (d:Int) (L:List Pr):AV:=if L=[] then .fslc true true 0 [] else .fslc false false 3 (L.map (dutyA d))
theorem elemsD (d:Int):∀D:List Pr,Zp true 3 D.length (flat (D.map (dutyA d)))=D.map (dutyA d)
 | []=>rfl
 | p :: r=>by
  have ih:=elemsD d r
  have e:flat ((p :: r).map (dutyA d))=[iv .i64 d,sv p.1,sv p.2] ++ flat (r.map (dutyA d)):=by simp[flat,dutyA,cellsOf]
  rw[e]
  simp only[Zp,List.length_cons,qP,List.map_cons] at ih ⊢
  have e1:List.drop 3 ([iv .i64 d,sv p.1,sv p.2] ++ flat (r.map (dutyA d)))=flat (r.map (dutyA d)):=rfl
  have e2:List.take 3 ([iv .i64 d,sv p.1,sv p.2] ++ flat (r.map (dutyA d)))=[iv .i64 d,sv p.1,sv p.2]:=rfl
  rw[e1,e2,ih];rfl
end Go.AM
