/- The law WatchLooks, walked. Conditions: as each theorem says. -/
import Derived.Test.YtkbgmkhdjmkpdaaGreatDoorSy
import Derived.Test.YtkbgmkhdjmkpdaaGreatDoorFx
import Derived.Test.YtkbgmkhdjmkpdaaGreatDoorSe
namespace Go.AM
open Go.Proofs Cw Du Go.RowKit
set_option maxRecDepth 10000
set_option maxHeartbeats 4000000
theorem fewW_sm {ls:List Lin} {l:List Ordr} (h:fewW ls l=true) (hL:∀x ∈ ls,j9 x∧x.exc.length≤9223372036854775807) (_hw:wfO l):smL ls∧smO l∧ls.length≤1000000∧l.length≤1000000:=by
 simp only[fewW,Bool.and_eq_true,List.all_eq_true] at h
 obtain⟨⟨⟨h1,h2⟩,h3⟩,h4⟩:=h
 simp only[qt,Bool.or_eq_true,Bool.and_eq_true,decide_eq_true_eq] at h3 h4
 refine⟨fun x hx=>?_,fun o ho=>?_,by omega,by omega⟩
 ·have:=h1 x hx
  simp only[litL,Bool.and_eq_true,decide_eq_true_eq] at this
  exact⟨(hL x hx).1,by omega,by omega,by omega,by omega⟩
 ·have:=h2 o ho
  simp only[lit,Bool.and_eq_true,decide_eq_true_eq] at this
  exact⟨by omega,by omega⟩
end Go.AM
namespace Go.AM
open Go.Proofs Cw Du
set_option maxRecDepth 10000
set_option maxHeartbeats 4000000
@[go_sem] theorem aggEqL (d e:Int) (p1 q1:ByteArray):aggEq Tryz.prog 58 [sv p1,iv .i64 d] [sv q1,iv .i64 e]=some ((p1.toList == q1.toList) && decide (d=e)):=by
 have g1:Tryz.prog.stoodInHeld 58=false:=by kernel_rfl
 have g2:Tryz.prog.eqGuardType Tryz.prog.depth 58=false:=by kernel_rfl
 have g3:Q9 Tryz.prog 3=.int:=by kernel_rfl
 simp only[aggEq,Tryz.underlying58,g1,g2,fldEq]
 simp only[and_self,if_true,List.getElem?_cons_zero,List.getElem?_cons_succ,skStr,g3,jZ]
 simp
 cases (p1.toList == q1.toList) <;> cases hde:(d == e) <;> simp_all
end Go.AM
