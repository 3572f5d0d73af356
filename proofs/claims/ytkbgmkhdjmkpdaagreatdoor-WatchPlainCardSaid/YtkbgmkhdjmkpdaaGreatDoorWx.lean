/- Who, by the program; duties and texts by value. Conditions: as each theorem says. -/
import Derived.Test.YtkbgmkhdjmkpdaaGreatDoorDe
import Derived.Test.YtkbgmkhdjmkpdaaGreatDoorEb
import Derived.Test.YtkbgmkhdjmkpdaaGreatDoorAx
namespace Go.AM
open Go.Proofs Cw Du Go.RowKit
set_option maxRecDepth 10000
set_option maxHeartbeats 4000000
theorem JU (d:Int) (L:List Pr):∃nl s,ZW d L=.fslc nl nl s (L.map (zY d))∧(L=[]∨nl=false∧s=3):=by
 unfold ZW
 split
 ·rename_i e;subst e;exact⟨true,0,rfl,.inl rfl⟩
 ·exact⟨false,3,rfl,.inr ⟨rfl,rfl⟩⟩
end Go.AM
namespace Go.AM
open Go.Proofs Cw Du
set_option maxRecDepth 10000
set_option maxHeartbeats 4000000
end Go.AM
namespace Go.AM
open Go.Proofs Cw Du
set_option maxRecDepth 10000
set_option maxHeartbeats 4000000
end Go.AM
