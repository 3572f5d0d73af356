/- Who, by the program; duties and texts by value. Conditions: as each theorem says. -/
import Derived.Test.YtkbgmkhdjmkpdaaGreatDoorDe
import Derived.Test.YtkbgmkhdjmkpdaaGreatDoorEb
import Derived.Test.YtkbgmkhdjmkpdaaGreatDoorAx
namespace Go.AM
open Go.Proofs Cw Du Go.RowKit
set_option maxRecDepth 10000
set_option maxHeartbeats 4000000
theorem dutF_is (d:Int) (L:List Pr):∃nl s,Ze d L=.fslc nl nl s (L.map (dutyA d))∧(L=[]∨nl=false∧s=3):=by
 unfold Ze
 split
 ·rename_i e;subst e;exact⟨true,0,rfl,.inl rfl⟩
 ·exact⟨false,3,rfl,.inr ⟨rfl,rfl⟩⟩
def txF (L:List ByteArray):AV:=if L=[] then .fslc true true 0 [] else .fslc false false 1 (L.map sv)
end Go.AM
namespace Go.AM
open Go.Proofs Cw Du
set_option maxRecDepth 10000
set_option maxHeartbeats 4000000
theorem flat_txt (V:List ByteArray):flat (V.map sv)=V.map sv:=by
 induction V with
 | nil=>rfl
 | cons v r ih=>rw[List.map_cons,ZK,ih];rfl
theorem elemsT:∀V:List ByteArray,Zp false 1 V.length (flat (V.map sv))=V.map sv
 | []=>rfl
 | v :: r=>by
  have ih:=elemsT r
  rw[flat_txt] at ih ⊢
  simp only[Zp,qP,List.map_cons,List.length_cons] at ih ⊢
  have e1:List.drop 1 (sv v :: List.map sv r)=List.map sv r:=rfl
  rw[e1,ih];rfl
theorem below_txF (n:Nat) (V:List ByteArray):below n (txF V):=by
 unfold txF
 split
 ·simp[below,belowL]
 ·simp only[below];rw[Z1];intro y hy;obtain⟨o,_,rfl⟩:=List.mem_map.1 hy;simp[below]
end Go.AM
namespace Go.AM
open Go.Proofs Cw Du
set_option maxRecDepth 10000
set_option maxHeartbeats 4000000
end Go.AM
