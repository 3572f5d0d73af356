/- What spans and lists of texts read as. Conditions: as each theorem says. -/
import Derived.Test.YtkbgmkhdjmkpdaaGreatDoorDo
namespace Go.AM
open Go.RowKit Go.ChangeShapes Go.WideShapes Go.Proofs Go.Deep Cw Du
set_option maxRecDepth 10000
section
variable {H : Type} {enc : TypeId × Value → H} {W : World} {base : Nat} {sp : Nat → Bool} {hd : Bool}
theorem rd_spanW {r:Reach} {b0:Nat} {v:Value} {d:DataW H} {p:List MemPlace} (hv:Value.okWide Tryz.prog W r b0 45 v) (h:DataW.Trod enc Tryz.prog W base sp hd 45 v d p):∃lo hi:Int,Rv (G0 W) (.agg [iv .i64 lo,iv .i64 hi]) v:=by
 obtain⟨cs,rfl,hsz⟩:=okWide_struct Tryz.underlying45 hv
 have h54:Tryz.prog.cellsOf 45=2:=by kernel_rfl
 rw[h54] at hsz
 obtain⟨l⟩:=cs
 obtain⟨fuel,hf⟩:=h
 obtain⟨xs,n',_,_,_,hx,hf⟩:=DataW.trod_struct Tryz.underlying45 hf
 obtain⟨c0,c1,rfl⟩:∃c0 c1,l=[c0,c1]:=by
  match l,hsz with
  | [c0,c1],_=>exact⟨c0,c1,rfl⟩
 have h3:Tryz.prog.cellsOf 3=1:=by kernel_rfl
 have f0:DataW.trod enc Tryz.prog W base sp hd n' 3 (List.take (Tryz.prog.cellsOf 3) (List.drop 0 [c0,c1]))=xs[0]?:=hf 0 _ rfl
 have f1:DataW.trod enc Tryz.prog W base sp hd n' 3 (List.take (Tryz.prog.cellsOf 3) (List.drop 1 [c0,c1]))=xs[1]?:=hf 1 _ rfl
 simp only[h3,List.drop_zero,List.take_succ_cons,List.take_zero,List.drop_succ_cons] at f0 f1
 obtain⟨x0,x1,rfl⟩:∃x0 x1,xs=[x0,x1]:=by
  match xs,hx with
  | [c0,c1],_=>exact⟨c0,c1,rfl⟩
 obtain⟨a,rfl⟩:=j7 Tryz.underlying3 f0
 obtain⟨b,rfl⟩:=j7 Tryz.underlying3 f1
 exact⟨a,b,by simp[Rv,RvL,Value.oneCell']⟩
end
end Go.AM
