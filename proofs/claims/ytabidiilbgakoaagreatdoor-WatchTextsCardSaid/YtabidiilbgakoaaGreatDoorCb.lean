/- Conditions: the J5 are J5; how many nodes. Conditions: as each theorem says. -/
import Derived.Test.YtabidiilbgakoaaGreatDoorCa
namespace Go.AM
open Go.Proofs Cw
set_option maxRecDepth 10000
set_option maxHeartbeats 4000000
end Go.AM
namespace Go.AM
open Go.Proofs Cw
set_option maxRecDepth 10000
set_option maxHeartbeats 4000000
theorem size_spec:∀(N:Nat) (c:Cnd),tot c≤N→wf c→∀m:Int,1≤m→m≤1000→zK Tryz.prog 65 [zn c,iv .i64 m] (iv .i64 (cnt c m))
 | 0,c,hN,_=>by have:=Ja c;omega
 | N + 1,.mk k f o nn nl fu s ks,hN,hw=>by
  intro m hm1 hm2 h n
  have IH:=size_spec N
  simp only[tot] at hN
  simp only[zn,cnt]
  have hwf:=hw.1
  have hwl:=hw.2
  clear hw
  refine zQ.pure (zQ.entry (by kernel_rfl) fun hb _=>za Tryz.func65 rfl (by kernel_rfl) (by simp[Tryz.ntmps65]) ?_)
  obtain⟨T,hT⟩:∃T,T=cntL ks 1 m:=⟨_,rfl⟩
  rw[←hT]
  replace hT:zC _:=hT
  replace IH:zC _:=IH
  replace hwf:zC _:=hwf
  repeat' (first|(refine zF fun K hK=>?_)|(refine zA fun K hK=>?_;simp (disch:=omega) [go_sem, *,Tryz.ntmps65])|(apply zC.out hK;clear hK K;try with_reducible dsimp only[zG])|(refine zJ ?_))
  refine z8 (fun s'=>∃(i:Nat) (v:Int) (n':Nat),n < n'∧i≤ks.length∧(i:Int) + 1≤v∧1≤v∧v≤m∧cntL (ks.drop i) v m=T∧s'=⟨31,[(1,iv .i64 m),(2,.ptr n 0),(5,iv .i64 v),(6,iv .i64 i)],h.upd n (some (.cells [iv .i64 k,iv .i64 f,iv .i64 o,iv .i64 nn,.fslc nl fu s (ZE ks)])),n'⟩)
    (fun s'=>ks.length - (ZL s' 6).toNat) ?_ ?_
  ·exact zS (by simp[go_sem, *]) (Sub.refl _) ⟨0,1,_,by omega,by omega,by simp,by omega,hm1,by rw[hT.out];rfl,rfl⟩
  ·rintro s' ⟨i,v,n',hn',hi,hiv,hv1,hv2,hc,rfl⟩
   replace hc:zC _:=hc
   have hlen:=Zy ks
   by_cases hlt:i < ks.length
   ·obtain⟨a,ha⟩:∃a,ks[i]? = some a:=⟨ks[i],List.getElem?_eq_getElem hlt⟩
    have hne:ks≠[]:=fun e=>by rw[e] at hlt;simp at hlt
    obtain⟨rfl,rfl⟩:=hwf.out.resolve_left hne
    have hea:(ZE ks)[i]? = some (zn a):=by rw[encL_get,ha];rfl
    have hdr:ks.drop i=a :: ks.drop (i + 1):=by rw[List.drop_eq_getElem_cons hlt];congr 1;rw[List.getElem?_eq_getElem hlt] at ha;exact Option.some.inj ha
    by_cases hvm:v < m
    ·have hta:tot a≤N:=by
      have:∀(l:List Cnd) (j:Nat) (x:Cnd),l[j]? = some x→tot x≤totL l:=by
       intro l
       induction l with
       | nil=>intro j x hx;simp at hx
       | cons y r ih=>intro j x hx;cases j with
        | zero=>simp at hx;subst hx;simp only[totL];omega
        | succ j=>have:=ih j x (by simpa using hx);simp only[totL];omega
      have:=this ks i a ha;omega
     have hkid:=IH.out a hta (wfL_get hwl ha) (m - v) (by omega) (by omega)
     have hmin:=cnt_min a (m - v) (by omega)
     have hpos:=Ja a
     have hc2:cntL (ks.drop (i + 1)) (v + cnt a (m - v)) m=T:=by
      have:=hc.out
      rw[hdr] at this
      simp only[cntL,if_pos hvm] at this
      exact this
     generalize cnt a (m - v)=q at *
     have hq1:1≤q:=by omega
     have hq2:q≤m - v:=by omega
     clear hmin hdr ha hta hpos
     replace hc2:zC _:=hc2
     obtain⟨ka,fa,oa,na,nla,fua,sa,ksa⟩:=a
     simp only[zn] at hea hkid
     have hel:i < (ZE ks).length:=by omega
     have hea2:(ZE ks)[i]=.agg [iv .i64 ka,iv .i64 fa,iv .i64 oa,iv .i64 na,.fslc nla fua sa (ZE ksa)]:=by
      rw[List.getElem?_eq_getElem hel] at hea;exact Option.some.inj hea
     replace hea:zC _:=hea
     repeat' (first|(refine zF fun K hK=>?_)|(refine zA fun K hK=>?_;simp (disch:=omega) [go_sem, *,zM,zO,zP])|(apply zC.out hK;clear hK K;try with_reducible dsimp only[zG])|(apply zC.out ht;clear ht hf Kt Kf)|(with_reducible refine zK.gcall (hkid) ?_;try simp (disch:=omega) [go_sem, *,zM])|(refine zJ ?_)|(refine zL ?_;simp only[zG])|(refine zH fun Kt Kf ht hf=>?_;simp (disch:=omega) [go_sem, *];try (refine⟨fun hc=>?_,fun hc=>?_⟩ <;> try (exfalso;omega))))
     exact zl (by simp (disch:=omega) [go_sem]) (by repeat (first | exact Sub.refl _ | refine Sub.upd ?_ (by rw[zB _ _ _ _ (by omega)];exact hb.none (by omega)) _)) ⟨i + 1,v + q,_,by omega,by omega,by omega,by omega,by omega,hc2.out,rfl⟩ (by simp[ZL,go_sem];omega)
    ·have hT2:T=v:=by
      have:=hc.out
      rw[hdr] at this
      simp only[cntL,if_neg hvm] at this
      exact this.symm
     subst hT2
     clear hdr hea
     repeat' (first|(refine zF fun K hK=>?_)|(refine zA fun K hK=>?_;simp (disch:=omega) [go_sem, *,zO])|(apply zC.out hK;clear hK K;try with_reducible dsimp only[zG])|(apply zC.out hf;clear ht hf Kt Kf)|(clear hK K;apply zC.out hK;clear hK K;try with_reducible dsimp only[zG])|(refine zk ?_;simp only[zG,zN,if_true])|(refine zH fun Kt Kf ht hf=>?_;simp (disch:=omega) [go_sem, *];try (refine⟨fun hc=>?_,fun hc=>?_⟩ <;> try (exfalso;omega))))
     exact zR
   ·have hT2:T=v:=by
     have:=hc.out
     rw[List.drop_eq_nil_of_le (by omega)] at this
     simp only[cntL] at this
     exact this.symm
    subst hT2
    repeat' (first|(refine zF fun K hK=>?_)|(refine zA fun K hK=>?_;simp (disch:=omega) [go_sem, *,zT])|(apply zC.out hK;clear hK K;try with_reducible dsimp only[zG])|(apply zC.out hf;clear ht hf Kt Kf)|(clear hK K;apply zC.out hK;clear hK K;try with_reducible dsimp only[zG])|(refine zk ?_;simp only[zG,zN,if_true])|(refine zH fun Kt Kf ht hf=>?_;simp (disch:=omega) [go_sem, *];try (refine⟨fun hc=>?_,fun hc=>?_⟩ <;> try (exfalso;omega))))
    exact zR
theorem small_spec (c:Cnd) (hw:wf c):zK Tryz.prog 24 [zn c] (bv (decide (tot c≤80))):=by
 intro h n
 have h1:=size_spec _ c (Nat.le_refl _) hw 81 (by omega) (by omega)
 have h2:=cnt_min c 81 (by omega)
 generalize cnt c 81=q at *
 have hq:decide (tot c≤80)=decide (q≤80):=by
  congr 1;apply propext;constructor <;> intro <;> omega
 rw[hq]
 clear h2 hq hw
 obtain⟨k,f,o,nn,nl,fu,s,ks⟩:=c
 simp only[zn] at h1 ⊢
 refine zQ.pure (zQ.entry (by kernel_rfl) fun hb _=>za Tryz.func24 rfl (by kernel_rfl) (by simp[Tryz.ntmps24]) ?_)
 repeat' (first|(refine zF fun K hK=>?_)|(refine zA fun K hK=>?_;simp (disch:=omega) [go_sem, *,Tryz.ntmps24])|(apply zC.out hK;clear hK K;try with_reducible dsimp only[zG])|(with_reducible refine zK.gcall (h1) ?_;try simp (disch:=omega) [go_sem, *]))
 exact zR
end Go.AM
