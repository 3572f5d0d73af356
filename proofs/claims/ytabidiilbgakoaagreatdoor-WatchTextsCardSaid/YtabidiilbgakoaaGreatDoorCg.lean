/- Conditions: formed. Conditions: as each theorem says. -/
import Derived.Test.YtabidiilbgakoaaGreatDoorCf
namespace Go.AM
open Go.Proofs Cw
set_option maxRecDepth 10000
set_option maxHeartbeats 4000000
theorem qB (c:Cnd) (hw:wf c) (hs:tot c≤900000):zK Tryz.prog 61 [zn c] (bv (Cw.formed c)):=by
 intro h n
 have hws:=fun h n p hp=>wsize_spec _ c (Nat.le_refl _) hw h n p 0 hp (by omega) (by omega)
 have hvis:=vis_ok c
 have hd1:=dep_le c
 refine zQ.pure (zQ.entry (by kernel_rfl) fun hb _=>za Tryz.func61 rfl (by kernel_rfl) (by simp[Tryz.ntmps61]) ?_)
 by_cases hok:ok c=true
 ·have hv:=hvis hok
  have e1:Cw.formed c=(decide ((vis c:Int)≤60) && decide ((dep c:Int)≤12)):=by
   rw[Cw.formed,hok,hv,Bool.true_and];congr 1 <;> (apply decide_eq_decide.2;omega)
  rw[e1]
  simp only[hok,if_true] at hws
  clear e1 hv hvis hd1
  generalize (vis c:Int)=v at *
  generalize (dep c:Int)=d at *
  obtain⟨k,f,o,nn,nl,fu,s,ks⟩:=c
  simp only[zn] at hws ⊢
  simp only[Int.zero_add] at hws
  clear hok
  by_cases h1:v≤60
  ·by_cases h2:d≤12
   ·skip
    repeat' (first|(refine zF fun K hK=>?_)|(refine zA fun K hK=>?_;simp (disch:=omega) [go_sem, *,zB,Tryz.ntmps61])|(apply zC.out hK;clear hK K;try with_reducible dsimp only[zG])|(with_reducible refine ATurn.gcall (hws _ _ _ (by simp (disch:=omega) [go_sem])) ?_;try simp (disch:=omega) [go_sem, *]))
    exact zR
   ·skip
    repeat' (first|(refine zF fun K hK=>?_)|(refine zA fun K hK=>?_;simp (disch:=omega) [go_sem, *,zB,Tryz.ntmps61])|(apply zC.out hK;clear hK K;try with_reducible dsimp only[zG])|(with_reducible refine ATurn.gcall (hws _ _ _ (by simp (disch:=omega) [go_sem])) ?_;try simp (disch:=omega) [go_sem, *]))
    exact zR
  ·skip
   repeat' (first|(refine zF fun K hK=>?_)|(refine zA fun K hK=>?_;simp (disch:=omega) [go_sem, *,zB,Tryz.ntmps61])|(apply zC.out hK;clear hK K;try with_reducible dsimp only[zG])|(with_reducible refine ATurn.gcall (hws _ _ _ (by simp (disch:=omega) [go_sem])) ?_;try simp (disch:=omega) [go_sem, *]))
   exact zR
 ·rw[Bool.not_eq_true] at hok
  have e1:Cw.formed c=false:=by simp[Cw.formed,hok]
  rw[e1]
  simp only[hok,Bool.false_eq_true,if_false] at hws
  clear e1 hvis hd1
  generalize (vis c:Int)=v at *
  obtain⟨k,f,o,nn,nl,fu,s,ks⟩:=c
  simp only[zn] at hws ⊢
  simp only[Int.zero_add] at hws
  clear hok
  repeat' (first|(refine zF fun K hK=>?_)|(refine zA fun K hK=>?_;simp (disch:=omega) [go_sem, *,zB,Tryz.ntmps61])|(apply zC.out hK;clear hK K;try with_reducible dsimp only[zG])|(with_reducible refine ATurn.gcall (hws _ _ _ (by simp (disch:=omega) [go_sem])) ?_;try simp (disch:=omega) [go_sem, *]))
  exact zR
end Go.AM
