/- On how many days each one watches, by the program. Conditions: as each theorem says. -/
import Derived.Shelf.SortM.SortNone
import Derived.Sort.Walk0
import Derived.Shelf.SlGeneric
import Derived.Shelf.SortM.Plain
import Derived.Ground.SlgmProg
import Derived.Test.YtkbgmkhdjmkpdaaGreatDoorProg
import Derived.Test.YtkbgmkhdjmkpdaaGreatDoorGa
import Derived.Test.YtkbgmkhdjmkpdaaGreatDoorWx
import Derived.Test.YtkbgmkhdjmkpdaaGreatDoorDb
namespace Go.AM
open Go.Proofs
@[go_sem] theorem lay111:lay Tryz.prog 111=some (1,false):=by kernel_rfl
@[go_sem] theorem szOf111:zu Tryz.prog 111=some 1:=by kernel_rfl
@[go_sem] theorem mapTys111:Z7 Tryz.prog 111=some (9,3):=by kernel_rfl
@[go_sem] theorem kdOf111:Zo Tryz.prog 111=.map:=by kernel_rfl
@[go_sem] theorem zerOf111:zo Tryz.prog 111=some (.c (.map none)):=by kernel_rfl
@[go_sem] theorem typed111:(@Vars.typed Go.Proofs.SAN.vars).contains 111=false:=by kernel_rfl
@[go_sem] theorem nt111:¬(111 ∈ (@Vars.typed Go.Proofs.SAN.vars)):=by decide
@[go_sem] theorem lay112:lay Tryz.prog 112=some (1,false):=by kernel_rfl
@[go_sem] theorem szOf112:zu Tryz.prog 112=some 1:=by kernel_rfl
@[go_sem] theorem mapTys112:Z7 Tryz.prog 112=some (9,4):=by kernel_rfl
@[go_sem] theorem kdOf112:Zo Tryz.prog 112=.map:=by kernel_rfl
@[go_sem] theorem zerOf112:zo Tryz.prog 112=some (.c (.map none)):=by kernel_rfl
@[go_sem] theorem typed112:(@Vars.typed Go.Proofs.SAN.vars).contains 112=false:=by kernel_rfl
@[go_sem] theorem nt112:¬(112 ∈ (@Vars.typed Go.Proofs.SAN.vars)):=by decide
@[go_sem] theorem lay117:lay Tryz.prog 117=some (1,false):=by kernel_rfl
@[go_sem] theorem szOf117:zu Tryz.prog 117=some 1:=by kernel_rfl
@[go_sem] theorem mapTys117:Z7 Tryz.prog 117=some (119,53):=by kernel_rfl
@[go_sem] theorem kdOf117:Zo Tryz.prog 117=.map:=by kernel_rfl
@[go_sem] theorem zerOf117:zo Tryz.prog 117=some (.c (.map none)):=by kernel_rfl
@[go_sem] theorem typed117:(@Vars.typed Go.Proofs.SAN.vars).contains 117=false:=by kernel_rfl
@[go_sem] theorem nt117:¬(117 ∈ (@Vars.typed Go.Proofs.SAN.vars)):=by decide
@[go_sem] theorem lay47:lay Tryz.prog 47=some (1,false):=by kernel_rfl
@[go_sem] theorem szOf47:zu Tryz.prog 47=some 1:=by kernel_rfl
@[go_sem] theorem byOf47:ZS Tryz.prog 47=some 24:=by kernel_rfl
@[go_sem] theorem zerOf47:zo Tryz.prog 47=some (.fslc true true 0 []):=by kernel_rfl
@[go_sem] theorem eltOf47:ZQ Tryz.prog 47=some 58:=by kernel_rfl
@[go_sem] theorem kdOf47:Zo Tryz.prog 47=.slice 58:=by kernel_rfl
@[go_sem] theorem lenK47:qi Tryz.prog 47=.slice:=by kernel_rfl
@[go_sem] theorem typed47:(@Vars.typed Go.Proofs.SAN.vars).contains 47=false:=by kernel_rfl
@[go_sem] theorem nt47:¬(47 ∈ (@Vars.typed Go.Proofs.SAN.vars)):=by decide
@[go_sem] theorem lay120:lay Tryz.prog 120=some (1,false):=by kernel_rfl
@[go_sem] theorem szOf120:zu Tryz.prog 120=some 1:=by kernel_rfl
@[go_sem] theorem byOf120:ZS Tryz.prog 120=some 24:=by kernel_rfl
@[go_sem] theorem zerOf120:zo Tryz.prog 120=some (.fslc true true 0 []):=by kernel_rfl
@[go_sem] theorem eltOf120:ZQ Tryz.prog 120=some 119:=by kernel_rfl
@[go_sem] theorem kdOf120:Zo Tryz.prog 120=.slice 119:=by kernel_rfl
@[go_sem] theorem lenK120:qi Tryz.prog 120=.slice:=by kernel_rfl
@[go_sem] theorem typed120:(@Vars.typed Go.Proofs.SAN.vars).contains 120=false:=by kernel_rfl
@[go_sem] theorem nt120:¬(120 ∈ (@Vars.typed Go.Proofs.SAN.vars)):=by decide
@[go_sem] theorem lay129:lay Tryz.prog 129=some (1,false):=by kernel_rfl
@[go_sem] theorem szOf129:zu Tryz.prog 129=some 1:=by kernel_rfl
@[go_sem] theorem byOf129:ZS Tryz.prog 129=some 24:=by kernel_rfl
@[go_sem] theorem zerOf129:zo Tryz.prog 129=some (.fslc true true 0 []):=by kernel_rfl
@[go_sem] theorem eltOf129:ZQ Tryz.prog 129=some 33:=by kernel_rfl
@[go_sem] theorem kdOf129:Zo Tryz.prog 129=.slice 33:=by kernel_rfl
@[go_sem] theorem lenK129:qi Tryz.prog 129=.slice:=by kernel_rfl
@[go_sem] theorem typed129:(@Vars.typed Go.Proofs.SAN.vars).contains 129=false:=by kernel_rfl
@[go_sem] theorem nt129:¬(129 ∈ (@Vars.typed Go.Proofs.SAN.vars)):=by decide
@[go_sem] theorem lay58:lay Tryz.prog 58=some (2,true):=by kernel_rfl
@[go_sem] theorem szOf58:zu Tryz.prog 58=some 2:=by kernel_rfl
@[go_sem] theorem byOf58:ZS Tryz.prog 58=some 24:=by kernel_rfl
@[go_sem] theorem zerOf58:zo Tryz.prog 58=some (.agg [sv ByteArray.empty,iv .i64 0]):=by kernel_rfl
@[go_sem] theorem fldOf58_0:ZA Tryz.prog 58 0=some (0,1):=by kernel_rfl
@[go_sem] theorem fldOf58_1:ZA Tryz.prog 58 1=some (1,1):=by kernel_rfl
@[go_sem] theorem sizesOk58:Z0 Tryz.prog 58=true:=by kernel_rfl
@[go_sem] theorem typed58:(@Vars.typed Go.Proofs.SAN.vars).contains 58=false:=by kernel_rfl
@[go_sem] theorem nt58:¬(58 ∈ (@Vars.typed Go.Proofs.SAN.vars)):=by decide
@[go_sem] theorem lay74:lay Tryz.prog 74=some (2,true):=by kernel_rfl
@[go_sem] theorem szOf74:zu Tryz.prog 74=some 2:=by kernel_rfl
@[go_sem] theorem byOf74:ZS Tryz.prog 74=some 32:=by kernel_rfl
@[go_sem] theorem zerOf74:zo Tryz.prog 74=some (.agg [.fslc true true 0 [],iv .i64 0]):=by kernel_rfl
@[go_sem] theorem fldOf74_0:ZA Tryz.prog 74 0=some (0,1):=by kernel_rfl
@[go_sem] theorem fldOf74_1:ZA Tryz.prog 74 1=some (1,1):=by kernel_rfl
@[go_sem] theorem sizesOk74:Z0 Tryz.prog 74=true:=by kernel_rfl
@[go_sem] theorem typed74:(@Vars.typed Go.Proofs.SAN.vars).contains 74=false:=by kernel_rfl
@[go_sem] theorem nt74:¬(74 ∈ (@Vars.typed Go.Proofs.SAN.vars)):=by decide
@[go_sem] theorem lay65:lay Tryz.prog 65=some (3,true):=by kernel_rfl
@[go_sem] theorem szOf65:zu Tryz.prog 65=some 3:=by kernel_rfl
@[go_sem] theorem byOf65:ZS Tryz.prog 65=some 56:=by kernel_rfl
@[go_sem] theorem zerOf65:zo Tryz.prog 65=some (.agg [.fslc true true 0 [],.fslc true true 0 [],iv .i64 0]):=by kernel_rfl
@[go_sem] theorem fldOf65_0:ZA Tryz.prog 65 0=some (0,2):=by kernel_rfl
@[go_sem] theorem fldOf65_1:ZA Tryz.prog 65 1=some (2,1):=by kernel_rfl
@[go_sem] theorem sizesOk65:Z0 Tryz.prog 65=true:=by kernel_rfl
@[go_sem] theorem typed65:(@Vars.typed Go.Proofs.SAN.vars).contains 65=false:=by kernel_rfl
@[go_sem] theorem nt65:¬(65 ∈ (@Vars.typed Go.Proofs.SAN.vars)):=by decide
end Go.AM
namespace Go.AM
open Go.RowKit Go.Proofs Go.Sort Go.Shelf Du
variable {w0 : World} {G : Gh} {h : zI} {w : World}
end Go.AM
namespace Go.Proofs
open Go.Shelf
end Go.Proofs
namespace Go.AM
open Go.Proofs Cw Du Go.RowKit
set_option maxRecDepth 10000
set_option maxHeartbeats 4000000
def srtS (ks:List ByteArray):List ByteArray:=ks.mergeSort leB
theorem srtS_perm (ks:List ByteArray):(srtS ks).Perm ks:=List.mergeSort_perm _ _
theorem srtS_le (ks:List ByteArray):(srtS ks).Pairwise fun a b=>leB a b=true:=
 List.pairwise_mergeSort (le:=leB) (fun a b c h1 h2=>leB_trans h1 h2) (fun a b=>by
  rcases leB_or a b with h | h
  ·simp[h]
  ·simp[bl_leB h]) ks
theorem leB_anti {a b:ByteArray} (h1:leB a b=true) (h2:leB b a=true):a=b:=by
 simp only[leB,Bool.not_eq_true'] at h1 h2
 exact bl_eq h2 h1
theorem srt_uniq:∀(A B:List ByteArray),A.Perm B→(A.Pairwise fun a b=>leB a b=true)→(B.Pairwise fun a b=>leB a b=true)→A=B:=by
 intro A B hp ha hb
 exact hp.eq_of_pairwise (fun a b _ _ h1 h2=>leB_anti h1 h2) ha hb
end Go.AM
namespace Du
theorem srtL_keys {O:Ld} (h:SrtL O):(O.map (·.1)).Pairwise (fun a b=>leB a b=true)∧(O.map (·.1)).Nodup:=by
 constructor
 ·rw[List.pairwise_map];exact h.imp fun h=>bl_leB h
 ·refine List.pairwise_map.2 (h.imp fun h e=>?_)
  rw[e] at h;simp[bl,jv] at h
end Du
namespace Go.AM
open Go.Proofs Cw Du Go.RowKit
set_option maxRecDepth 10000
set_option maxHeartbeats 4000000
theorem ite_iff {p q:Prop} [Decidable p] [Decidable q] (h:p↔q):(if p then (1:Int) else 0)=if q then 1 else 0:=by
 by_cases hp:p
 ·rw[if_pos hp,if_pos (h.1 hp)]
 ·rw[if_neg hp,if_neg fun hq=>hp (h.2 hq)]
structure RelL (E:List (ByteArray × Int)) (O:Ld):Prop where
 nd:(E.map (·.1)).Nodup
 val:∀s,(valK eqB s E).getD 0=ldN O s
 key:∀s,s ∈ E.map (·.1)↔s ∈ O.map (·.1)
open Classical in
structure RelV (E:List (ByteArray × Int)) (O:Ld) (V:List ByteArray):Prop where
 nd:(E.map (·.1)).Nodup
 val:∀s,(valK eqB s E).getD 0=ldN O s + if s ∈ V then 1 else 0
 key:∀s,s ∈ E.map (·.1)↔s ∈ O.map (·.1)∨s ∈ V
open Classical in
theorem RelL.v {E:List (ByteArray × Int)} {O:Ld} (R:RelL E O):RelV E O []:=⟨R.nd,fun s=>by rw[R.val];simp,fun s=>by rw[R.key];simp⟩
open Classical in
theorem RelV.snoc {E:List (ByteArray × Int)} {O:Ld} {V:List ByteArray} (R:RelV E O V) {p:ByteArray} (hp:p ∉ V):RelV (putK eqB p ((valK eqB p E).getD 0 + 1) E) O (V ++ [p]):=by
 refine⟨nodup_put ZM p _ E R.nd,fun s=>?_,fun s=>?_⟩
 ·rw[valK_put ZM p s]
  by_cases e:s=p
  ·subst e
   rw[(ZM s s).2 rfl]
   simp[R.val,hp]
  ·have:eqB s p=false:=by
    cases e2:eqB s p with
    | false=>rfl
    | true=>exact absurd ((ZM _ _).1 e2) e
   have e3:(s ∈ V ++ [p])↔s ∈ V:=by simp[e]
   rw[this]
   simp only[Bool.false_eq_true,if_false,R.val]
   rw[ite_iff e3]
 ·rw[qA ZM,R.key,List.mem_append,List.mem_singleton]
  exact⟨fun h=>h.elim (fun h=>.inr (.inr h)) fun h=>h.elim .inl fun h=>.inr (.inl h),fun h=>h.elim (fun h=>.inr (.inl h)) fun h=>h.elim (fun h=>.inr (.inr h)) .inl⟩
open Classical in
theorem RelL.keys {E:List (ByteArray × Int)} {O:Ld} (R:RelL E O) (hs:SrtL O):srtS (E.map (·.1))=O.map (·.1):=by
 have h1:=srtL_keys hs
 have hp:(E.map (·.1)).Perm (O.map (·.1)):=(List.perm_ext_iff_of_nodup R.nd h1.2).2 fun s=>R.key s
 exact srt_uniq _ _ ((srtS_perm _).trans hp) (srtS_le _) h1.1
theorem RelL.len {E:List (ByteArray × Int)} {O:Ld} (R:RelL E O) (hs:SrtL O):E.length=O.length:=by
 have h1:=srtL_keys hs
 have hp:(E.map (·.1)).Perm (O.map (·.1)):=(List.perm_ext_iff_of_nodup R.nd h1.2).2 fun s=>R.key s
 have:=hp.length_eq
 simpa using this
end Go.AM
