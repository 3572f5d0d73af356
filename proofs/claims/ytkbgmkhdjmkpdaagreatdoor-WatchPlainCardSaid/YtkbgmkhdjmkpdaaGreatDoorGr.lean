/- Gaps, by the specification. Conditions: as each theorem says. -/
import Derived.Test.YtkbgmkhdjmkpdaaGreatDoorPb
import Derived.Test.YtkbgmkhdjmkpdaaGreatDoorGa
import Derived.Test.YtkbgmkhdjmkpdaaGreatDoorAy
import Derived.Test.YtkbgmkhdjmkpdaaGreatDoorWx
namespace Go.AM
open Go.Proofs Cw Du
set_option maxRecDepth 10000
set_option maxHeartbeats 4000000
theorem spanned_spec (nlL fuL:Bool) (sL:Nat) (ls:List Lin) (hnlL:ls=[]∨nlL=false∧sL=8) (hsL:smL ls) (hlL:ls.length≤1000000) (nl fu:Bool) (s:Nat) (l:List Ordr) (hnl:l=[]∨nl=false∧s=7) (hw:wfO l) (hs:smO l) (hl:l.length≤1000000) (lo hi:Int) :
  zL Tryz.prog 59 [.agg [.fslc nlL fuL sL (ls.map zT),.fslc nl fu s (l.map ZB)],.agg [iv .i64 lo,iv .i64 hi]] (iv .i64 (jN ls l lo hi)):=by
 intro h n
 have k1:=rcheck_spec nlL fuL sL ls hnlL hsL hlL nl fu s l hnl hw hs hl
 refine zS.pure (zS.entry (by kernel_rfl) fun hb _=>zX Tryz.func59 rfl (by kernel_rfl) (by simp[Tryz.ntmps59]) ?_)
 obtain⟨T,hT⟩:∃T,zC (T=jN ls l lo hi):=⟨_,rfl⟩
 rw[←hT.out]
 have hT1:=hT.out
 unfold jN at hT1
 replace hT:zC _:=trivial
 generalize jj ls l=e at *
 generalize List.map zT ls=LL at *
 generalize List.map ZB l=OO at *
 clear hsL hs hw hnl hnlL hlL hl
 by_cases hc:e=0
 ·subst hc
  rw[if_neg (by simp)] at hT1
  by_cases c1:lo < 0
  ·rw[if_pos (.inl c1)] at hT1
   subst hT1
   repeat' (first|(refine zF fun K hK=>?_)|(refine zB fun K hK=>?_;simp (disch:=omega) [go_sem, *,zG,Tryz.ntmps59])|(apply zC.out hK;clear hK K;try with_reducible dsimp only[zD])|(apply zC.out ht;clear ht hf Kt Kf)|(apply zC.out hf;clear ht hf Kt Kf)|(with_reducible refine zL.gcall (k1) ?_;try simp (disch:=omega) [go_sem, *])|(refine zK ?_;simp only[zD])|(refine zH fun Kt Kf ht hf=>?_;simp (disch:=omega) [go_sem, *];try (refine⟨fun hc=>?_,fun hc=>?_⟩ <;> try (exfalso;omega))))
   exact zR
  ·by_cases c2:lo > hi
   ·rw[if_pos (.inr (.inl c2))] at hT1
    subst hT1
    repeat' (first|(refine zF fun K hK=>?_)|(refine zB fun K hK=>?_;simp (disch:=omega) [go_sem, *,zG,Tryz.ntmps59])|(apply zC.out hK;clear hK K;try with_reducible dsimp only[zD])|(apply zC.out ht;clear ht hf Kt Kf)|(apply zC.out hf;clear ht hf Kt Kf)|(with_reducible refine zL.gcall (k1) ?_;try simp (disch:=omega) [go_sem, *])|(refine zK ?_;simp only[zD])|(refine zH fun Kt Kf ht hf=>?_;simp (disch:=omega) [go_sem, *];try (refine⟨fun hc=>?_,fun hc=>?_⟩ <;> try (exfalso;omega))))
    exact zR
   ·by_cases c3:hi > 400
    ·rw[if_pos (.inr (.inr c3))] at hT1
     subst hT1
     repeat' (first|(refine zF fun K hK=>?_)|(refine zB fun K hK=>?_;simp (disch:=omega) [go_sem, *,zG,Tryz.ntmps59])|(apply zC.out hK;clear hK K;try with_reducible dsimp only[zD])|(apply zC.out ht;clear ht hf Kt Kf)|(apply zC.out hf;clear ht hf Kt Kf)|(with_reducible refine zL.gcall (k1) ?_;try simp (disch:=omega) [go_sem, *])|(refine zK ?_;simp only[zD])|(refine zH fun Kt Kf ht hf=>?_;simp (disch:=omega) [go_sem, *];try (refine⟨fun hc=>?_,fun hc=>?_⟩ <;> try (exfalso;omega))))
     exact zR
    ·rw[if_neg (by omega)] at hT1
     subst hT1
     repeat' (first|(refine zF fun K hK=>?_)|(refine zB fun K hK=>?_;simp (disch:=omega) [go_sem, *,zG,Tryz.ntmps59])|(apply zC.out hK;clear hK K;try with_reducible dsimp only[zD])|(apply zC.out hf;clear ht hf Kt Kf)|(with_reducible refine zL.gcall (k1) ?_;try simp (disch:=omega) [go_sem, *])|(refine zK ?_;simp only[zD])|(refine zH fun Kt Kf ht hf=>?_;simp (disch:=omega) [go_sem, *];try (refine⟨fun hc=>?_,fun hc=>?_⟩ <;> try (exfalso;omega))))
     exact zR
 ·rw[if_pos hc] at hT1
  have hne:(e != 0)=true:=by simpa using hc
  clear hc
  subst hT1
  repeat' (first|(refine zF fun K hK=>?_)|(refine zB fun K hK=>?_;simp (disch:=omega) [go_sem, *,zG,Tryz.ntmps59])|(apply zC.out hK;clear hK K;try with_reducible dsimp only[zD])|(apply zC.out ht;clear ht hf Kt Kf)|(with_reducible refine zL.gcall (k1) ?_;try simp (disch:=omega) [go_sem, *])|(refine zH fun Kt Kf ht hf=>?_;simp (disch:=omega) [go_sem, *];try (refine⟨fun hc=>?_,fun hc=>?_⟩ <;> try (exfalso;omega))))
  exact zR
end Go.AM
namespace Go.AM
open Go.Proofs Cw Du Go.RowKit
set_option maxRecDepth 10000
set_option maxHeartbeats 4000000
end Go.AM
