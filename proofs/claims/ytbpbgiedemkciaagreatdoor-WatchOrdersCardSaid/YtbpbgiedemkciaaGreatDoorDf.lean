/- The program's candidates: the library's sort and compact. Conditions: as each theorem says. -/
import Derived.Shelf.SlGeneric
import Derived.Shelf.SortM.Plain
import Derived.Ground.SlgmProg
import Derived.Shelf.Slices.CompactI
import Derived.Ground.Names2Prog
import Derived.Test.YtbpbgiedemkciaaGreatDoorProg
import Derived.Test.YtbpbgiedemkciaaGreatDoorDe
import Derived.Test.YtbpbgiedemkciaaGreatDoorDb
namespace Go.Proofs
open Go.Shelf
def Tryz.layssort_ren : Go.Shelf.Ren := ⟨fun | 5 => 109 | 8 => 154 | 7 => 153 | 19 => 193 | 20 => 194 | 10 => 184 | 11 => 185 | 12 => 186 | 13 => 187 | 14 => 188 | 15 => 189 | 16 => 190 | 17 => 191 | 18 => 192 | 30 => 231 | 31 => 232 | 32 => 233 | 33 => 234 | 34 => 235 | 35 => 236 | 40 => 258 | n => n, fun | 23 => 49 | 25 => 3 | 3 => 3 | 32 => 216 | 22 => 49 | 0 => 0 | 44 => 246 | 46 => 248 | 4 => 4 | 36 => 239 | 35 => 238 | 41 => 163 | 5 => 5 | 9 => 9 | 53 => 272 | 57 => 165 | 63 => 295 | 64 => 296 | n => n, fun | n => n⟩
theorem Tryz.layssort : Go.Proofs.SlLaysM.n5 Tryz.prog Tryz.layssort_ren := {
  mixed := by kernel_rfl
  f5 := ⟨Tryz.f109.name, by decide, Tryz.func109.trans (congrArg some (by kernel_rfl))⟩
  f7 := ⟨Tryz.f153.name, by decide, Tryz.func153.trans (congrArg some (by kernel_rfl))⟩
  f8 := Tryz.func154.trans (congrArg some (by kernel_rfl))
  f10 := ⟨Tryz.f184.name, by decide, Tryz.func184.trans (congrArg some (by kernel_rfl))⟩
  f11 := ⟨Tryz.f185.name, by decide, Tryz.func185.trans (congrArg some (by kernel_rfl))⟩
  f12 := ⟨Tryz.f186.name, by decide, Tryz.func186.trans (congrArg some (by kernel_rfl))⟩
  f13 := ⟨Tryz.f187.name, by decide, Tryz.func187.trans (congrArg some (by kernel_rfl))⟩
  f14 := ⟨Tryz.f188.name, by decide, Tryz.func188.trans (congrArg some (by kernel_rfl))⟩
  f15 := ⟨Tryz.f189.name, by decide, Tryz.func189.trans (congrArg some (by kernel_rfl))⟩
  f16 := ⟨Tryz.f190.name, by decide, Tryz.func190.trans (congrArg some (by kernel_rfl))⟩
  f17 := ⟨Tryz.f191.name, by decide, Tryz.func191.trans (congrArg some (by kernel_rfl))⟩
  f18 := ⟨Tryz.f192.name, by decide, Tryz.func192.trans (congrArg some (by kernel_rfl))⟩
  f19 := Tryz.func193.trans (congrArg some (by kernel_rfl))
  f20 := Tryz.func194.trans (congrArg some (by kernel_rfl))
  f30 := ⟨Tryz.f231.name, by decide, Tryz.func231.trans (congrArg some (by kernel_rfl))⟩
  f31 := Tryz.func232.trans (congrArg some (by kernel_rfl))
  f32 := Tryz.func233.trans (congrArg some (by kernel_rfl))
  f33 := ⟨Tryz.f234.name, by decide, Tryz.func234.trans (congrArg some (by kernel_rfl))⟩
  f34 := ⟨Tryz.f235.name, by decide, Tryz.func235.trans (congrArg some (by kernel_rfl))⟩
  f35 := ⟨Tryz.f236.name, by decide, Tryz.func236.trans (congrArg some (by kernel_rfl))⟩
  f40 := ⟨Tryz.f258.name, by decide, Tryz.func258.trans (congrArg some (by kernel_rfl))⟩
  t0 := Tryz.underlying0
  a0 := Tryz.isAgg0
  z0 := Tryz.sizeOf0
  v0 := Tryz.zeroValue0
  t3 := Tryz.underlying3
  a3 := Tryz.isAgg3
  z3 := Tryz.sizeOf3
  v3 := Tryz.zeroValue3
  t4 := Tryz.underlying4
  a4 := Tryz.isAgg4
  z4 := Tryz.sizeOf4
  v4 := Tryz.zeroValue4
  t5 := Tryz.underlying5
  a5 := Tryz.isAgg5
  z5 := Tryz.sizeOf5
  v5 := Tryz.zeroValue5
  t9 := Tryz.underlying9
  a9 := Tryz.isAgg9
  z9 := Tryz.sizeOf9
  v9 := Tryz.zeroValue9
  t22 := Tryz.underlying49
  a22 := Tryz.isAgg49
  z22 := Tryz.sizeOf49
  v22 := Tryz.zeroValue49
  t23 := Tryz.underlying49
  a23 := Tryz.isAgg49
  z23 := Tryz.sizeOf49
  v23 := Tryz.zeroValue49
  t25 := Tryz.underlying3
  a25 := Tryz.isAgg3
  z25 := Tryz.sizeOf3
  v25 := Tryz.zeroValue3
  t32 := Tryz.underlying216
  a32 := Tryz.isAgg216
  z32 := Tryz.sizeOf216
  v32 := Tryz.zeroValue216
  t35 := Tryz.underlying238
  a35 := Tryz.isAgg238
  z35 := Tryz.sizeOf238
  v35 := Tryz.zeroValue238
  t36 := Tryz.underlying239
  a36 := Tryz.isAgg239
  z36 := Tryz.sizeOf239
  v36 := Tryz.zeroValue239
  t41 := Tryz.underlying163
  a41 := Tryz.isAgg163
  z41 := Tryz.sizeOf163
  v41 := Tryz.zeroValue163
  t44 := Tryz.underlying246
  a44 := Tryz.isAgg246
  z44 := Tryz.sizeOf246
  v44 := Tryz.zeroValue246
  t46 := Tryz.underlying248
  a46 := Tryz.isAgg248
  z46 := Tryz.sizeOf248
  v46 := Tryz.zeroValue248
  t53 := Tryz.underlying272
  a53 := Tryz.isAgg272
  z53 := Tryz.sizeOf272
  v53 := Tryz.zeroValue272
  t57 := Tryz.underlying165
  a57 := Tryz.isAgg165
  z57 := Tryz.sizeOf165
  v57 := Tryz.zeroValue165
  t63 := Tryz.underlying295
  a63 := Tryz.isAgg295
  z63 := Tryz.sizeOf295
  v63 := Tryz.zeroValue295
  t64 := Tryz.underlying296
  a64 := Tryz.isAgg296
  z64 := Tryz.sizeOf296
  v64 := Tryz.zeroValue296 }
def Tryz.layscompact_ren : Go.Shelf.Ren := ⟨fun | 20 => 110 | n => n, fun | 22 => 49 | 3 => 3 | 4 => 4 | 0 => 0 | n => n, fun | n => n⟩
theorem Tryz.layscompact : Go.Proofs.Lays2.n20 Tryz.prog Tryz.layscompact_ren := {
  mixed := by kernel_rfl
  f20 := Tryz.func110.trans (congrArg some (by kernel_rfl))
  t0 := Tryz.underlying0
  a0 := Tryz.isAgg0
  z0 := Tryz.sizeOf0
  v0 := Tryz.zeroValue0
  t3 := Tryz.underlying3
  a3 := Tryz.isAgg3
  z3 := Tryz.sizeOf3
  v3 := Tryz.zeroValue3
  t4 := Tryz.underlying4
  a4 := Tryz.isAgg4
  z4 := Tryz.sizeOf4
  v4 := Tryz.zeroValue4
  t22 := Tryz.underlying49
  a22 := Tryz.isAgg49
  z22 := Tryz.sizeOf49
  v22 := Tryz.zeroValue49
  i3 := by kernel_rfl }
end Go.Proofs

namespace Go.AM
open Go.RowKit Go.Proofs Go.Sort Go.Shelf
/-- a list laid over an array from a place on -/
def ov (d : Array Int) : Nat → List Int → Array Int
  | _, [] => d
  | i, x :: r => ov (d.setIfInBounds i x) (i + 1) r
theorem setCells_putRow (w : World) (blk off : Nat) : ∀ (xs : List Int) (d : Array Int) (i : Nat), i + xs.length ≤ d.size →
    (putRow (Value.int .i64) w blk off d).setCells blk (off + i) (xs.map (Value.int .i64)) = putRow (Value.int .i64) w blk off (ov d i xs)
  | [], _, _, _ => rfl
  | x :: r, d, i, h => by
    simp only [List.length_cons] at h
    simp only [List.map_cons, World.setCells, ov]
    rw [putRow_set (Value.int .i64) w blk off d i x (by omega), Nat.add_assoc]
    exact setCells_putRow w blk off r _ (i + 1) (by simpa using by omega)
theorem ov_all : ∀ (xs : List Int) (d : Array Int) (i : Nat), i + xs.length = d.size → (ov d i xs).toList = d.toList.take i ++ xs
  | [], d, i, h => by
    simp only [List.length_nil] at h
    rw [ov, List.append_nil, List.take_of_length_le (by simp; omega)]
  | x :: r, d, i, h => by
    simp only [List.length_cons] at h
    rw [ov, ov_all r _ (i + 1) (by simp; omega), Array.toList_setIfInBounds]
    have e : (d.toList.set i x).take (i + 1) = d.toList.take i ++ [x] := by
      rw [List.take_succ_eq_append_getElem (by simp; omega), List.take_set_of_le (by omega)]
      simp
    rw [e, List.append_assoc]; rfl
variable {w0 : World} {G : Gh} {h : AHeap} {w : World}
theorem Inv.ahead [Vars] (I : Inv w0 G h w) (n : Nat) : Inv w0 G h (Sort.ahead w n) := by
  refine ⟨⟨I.below.os, I.below.tape, I.below.output, I.below.size, I.below.block⟩, I.imm, fun n o e => ?_, I.disj, I.sep, I.oth.keep rfl rfl rfl fun _ _ e _ => e⟩
  exact (I.obj n o e).keep (VLe.refl G) (Nat.le_refl _) (fun _ _ _ _ => ⟨rfl, rfl⟩) (fun _ _ _ => rfl) (fun _ _ _ hp => hp)
theorem Inv.grow [Vars] (I : Inv w0 G h w) (os : Array Obj) : Inv w0 G h (Sort.grow w os) := by
  refine ⟨⟨I.below.os, I.below.tape, I.below.output, by rw [size_grow]; exact Nat.le_trans I.below.size (Nat.le_add_right _ _), fun k hk => ?_⟩, fun a v e => ?_, fun n o e => ?_, I.disj, I.sep, I.oth.keep rfl rfl rfl fun k o e _ => ?_⟩
  · rw [heap_grow_old w os (Nat.lt_of_lt_of_le hk I.below.size)]; exact I.below.block k hk
  · rw [cell?_grow w os a (I.imm_lt e)]; exact I.imm a v e
  · have ok := I.obj n o e
    refine ok.keep (VLe.refl G) (by rw [size_grow]; exact Nat.le_add_right _ _) (fun r hr a ha => ?_) (fun r hr _ => heap_grow_old w os (ok.lt hr)) (fun r p hr hp => ?_)
    · have : a.block < w.heap.size := by rw [ha.1]; exact ok.lt hr
      exact ⟨cell?_grow w os a this, frozen?_grow w os a this⟩
    · rw [shape_congr (heap_grow_old w os (ok.lt hr))]; exact hp
  · rw [heap_grow_old w os (Array.getElem?_eq_some_iff.1 e).1]; exact e
theorem relI : ∀ {zs : List Int} {vs : List Value}, RvL G (zs.map (iv .i64)) vs → vs = zs.map (Value.int .i64)
  | [], _, h => by simpa [RvL] using h
  | z :: r, _, h => by
    simp only [List.map_cons, RvL, iv, Rv] at h
    obtain ⟨v, vr, rfl, ⟨rfl, _⟩, h⟩ := h
    rw [relI h]; rfl
theorem relI' : ∀ zs : List Int, RvL G (zs.map (iv .i64)) (zs.map (Value.int .i64))
  | [] => by simp [RvL]
  | z :: r => by simp only [List.map_cons, RvL, iv, Rv]; exact ⟨_, _, rfl, ⟨rfl, rfl⟩, relI' r⟩
/-- an owned slice's cells, for the library's contracts -/
theorem owned_row [Vars] {b lo t : Nat} {n : Nat} {zs : List Int} (I : Inv w0 G h w) (hn : h n = some (.cells (zs.map (iv .i64)))) (hreg : G.reg n = some (b, lo, t)) : Holds (Value.int .i64) w b lo zs.toArray ∧ b < w.heap.size ∧ zs.length ≤ t := by
  obtain ⟨r, us, hr', ok⟩ := I.obj n _ hn
  rw [hreg] at hr'; cases hr'
  have hus := relI ok.rel
  have hlen := ok.len
  simp only [List.length_map] at hlen
  refine ⟨fun j hj => ?_, ok.lt, hlen⟩
  have hj' : j < zs.length := by simpa using hj
  refine ⟨ok.val j _ ?_, ok.free j (by show j < t; omega)⟩
  rw [hus]; simp [hj']
theorem Inv.putRow [Vars] {b lo t : Nat} {n : Nat} {zs ts : List Int} (I : Inv w0 G h w) (hn : h n = some (.cells (zs.map (iv .i64)))) (hreg : G.reg n = some (b, lo, t)) (hl : ts.length = zs.length) :
    Inv w0 G (h.upd n (some (.cells (ts.map (iv .i64))))) (Sort.putRow (Value.int .i64) w b lo ts.toArray) := by
  obtain ⟨hH, _, hlen⟩ := owned_row I hn hreg
  have hst : w.setCells b (lo + 0) (ts.map (Value.int .i64)) = Sort.putRow (Value.int .i64) w b lo ts.toArray := by
    have e1 := setCells_putRow w b lo ts zs.toArray 0 (by simp; omega)
    rw [putRow_self (Value.int .i64) w b lo _ hH] at e1
    rw [e1]
    congr 1
    apply Array.ext'
    rw [ov_all ts zs.toArray 0 (by simp; omega)]
    simp
  have hsc : (ts.map (iv .i64)).all AV.scalar = true := by
    rw [List.all_eq_true]; intro x hx; obtain ⟨z, _, rfl⟩ := List.mem_map.1 hx; rfl
  have I1 := I.store hn hreg 0 (ts.map (iv .i64)) (ts.map (Value.int .i64)) (relI' ts) hsc (Nat.zero_le _) (by simp only [List.length_map]; show 0 + ts.length ≤ t; omega)
  have hsp : splice (zs.map (iv .i64)) 0 (ts.map (iv .i64)) = ts.map (iv .i64) := by
    simp only [splice, List.take_zero, List.nil_append, List.length_map, Nat.zero_add]
    rw [List.drop_eq_nil_of_le (by simp; omega), List.append_nil]
  rw [hsp] at I1
  rw [← hst]; exact I1
/-- the slice of all cells of an object, sorted -/
theorem sort_ac [Vars] {P : Program} {ρ : Ren} (Ly : SlLaysM.n5 P ρ) (hgo : isGo P (ρ.f 5) = true) (n nn : Nat) (h : AHeap) (zs : List Int) (hn : h n = some (.cells (zs.map (iv .i64)))) (hsz : zs.length < 4611686018427387904) :
    ACalls P (ρ.f 5) [.slc n 0 zs.length 1] h nn fun r h' n' => r = .tup [] ∧ h' = h.upd n (some (.cells ((zs.mergeSort fun x y => decide (x ≤ y)).map (iv .i64)))) ∧ n' = nn := by
  refine ⟨hgo, fun w0 G w vs I hf hr => ?_⟩
  simp only [RvL] at hr
  obtain ⟨v, vr, rfl, hv, rfl⟩ := hr
  rw [Rv] at hv
  obtain ⟨b, lo, t, cap, hreg, rfl, hcap, htot, _⟩ := hv
  obtain ⟨hH, hlt, hlen⟩ := owned_row I hn hreg
  have hc := AnyM.slices_Sort_int Ly b lo cap zs w hH hlt hsz
  rw [Nat.add_zero] at *
  refine hc.mono fun e w' ⟨he, k, os, hw⟩ => ?_
  have I2 : Inv w0 G (h.upd n (some (.cells ((zs.mergeSort fun x y => decide (x ≤ y)).map (iv .i64))))) w' := by
    rw [hw, putRow_ahead]
    exact ((I.putRow hn hreg (List.length_mergeSort _)).ahead k).grow os
  exact ⟨G, _, .tup [], _, nn, he, ⟨Ext.refl _ _, rfl⟩, I2, hf, Nat.le_refl _, by simp [Rv, RvL], rfl, rfl, rfl⟩
theorem cptF_snoc (x : Int) : ∀ (l : List Int) (p : Int), Cw.cptF p (l ++ [x]) = Cw.cptF p l ++ if (l.getLast?.getD p) = x then [] else [x]
  | [], p => by
    by_cases e : x = p
    · simp [Cw.cptF, e]
    · simp [Cw.cptF, e, Ne.symm e]
  | y :: r, p => by
    simp only [List.cons_append, Cw.cptF]
    have e : ((y :: r).getLast?.getD p) = (r.getLast?.getD y) := by cases r <;> simp [List.getLast?_cons]
    rw [e, cptF_snoc x r y]
    split
    · rename_i hy; subst hy; rw [cptF_snoc x r y]
    · simp
theorem cpt_upTo (zs : List Int) : ∀ m, m ≤ zs.length → Lib.compactUpTo zs.toArray m = Cw.cpt (zs.take m)
  | 0, _ => by simp [Lib.compactUpTo, Cw.cpt]
  | m + 1, h => by
    rw [Lib.compactUpTo_succ, cpt_upTo zs m (by omega), List.take_succ_eq_append_getElem (by omega)]
    match zs, h with
    | z :: r, h =>
      cases m with
      | zero => simp [Cw.cpt, Cw.cptF, Lib.keeps]
      | succ k =>
        have hk : k < r.length := by simp only [List.length_cons] at h; omega
        simp only [List.take_succ_cons, List.cons_append, Cw.cpt, List.getElem_cons_succ, List.cons_append]
        rw [cptF_snoc]
        have e1 : (z :: r).toArray[k + 1]! = r[k] := by simp [hk]
        have e2 : (z :: r).toArray[k]! = (r.take k).getLast?.getD z := by
          cases k with
          | zero => simp
          | succ j =>
            have hj : j < r.length := by omega
            have : (r.take (j + 1)).getLast? = some r[j] := by
              rw [List.take_succ_eq_append_getElem hj, List.getLast?_append]; rfl
            rw [this]; simp [hj]
        have e3 : Lib.keeps (z :: r).toArray (k + 1) = !decide (((r.take k).getLast?.getD z) = r[k]) := by
          rw [Lib.keeps, show k + 1 - 1 = k by omega, e1, e2]
          by_cases e : ((r.take k).getLast?.getD z) = r[k]
          · simp [e]
          · simp [e, Ne.symm e]
        rw [e3, e1]
        by_cases e : ((r.take k).getLast?.getD z) = r[k]
        · simp [e]
        · simp [e]
theorem compact_eq (zs : List Int) : Lib.compact zs = Cw.cpt zs := by
  rw [Lib.compact, cpt_upTo zs _ (Nat.le_refl _), List.take_length]
/-- the slice of all cells of an object, runs of equal ones cut to one -/
theorem compact_ac [Vars] {P : Program} {ρ : Ren} (Ly : Lays2.n20 P ρ) (hgo : isGo P (ρ.f 20) = true) (n nn : Nat) (h : AHeap) (zs : List Int) (hn : h n = some (.cells (zs.map (iv .i64)))) (hsz : zs.length < 4611686018427387904) :
    ACalls P (ρ.f 20) [.slc n 0 zs.length 1] h nn fun r h' n' => r = .slc n 0 (Cw.cpt zs).length 1 ∧ h' = h.upd n (some (.cells ((Cw.cpt zs ++ List.replicate (zs.length - (Cw.cpt zs).length) 0).map (iv .i64)))) ∧ n' = nn := by
  refine ⟨hgo, fun w0 G w vs I hf hr => ?_⟩
  simp only [RvL] at hr
  obtain ⟨v, vr, rfl, hv, rfl⟩ := hr
  rw [Rv] at hv
  obtain ⟨b, lo, t, cap, hreg, rfl, hcap, htot, _⟩ := hv
  obtain ⟨hH, hlt, hlen⟩ := owned_row I hn hreg
  have hc := Any.slices_Compact_int Ly b lo cap zs w hH (by omega) hcap
  have hl := Cw.length_cpt zs
  rw [Nat.add_zero] at *
  rw [compact_eq] at hc
  refine hc.mono fun e w' ⟨he, k, hw⟩ => ?_
  have I2 : Inv w0 G (h.upd n (some (.cells ((Cw.cpt zs ++ List.replicate (zs.length - (Cw.cpt zs).length) 0).map (iv .i64))))) w' := by
    rw [hw, putRow_ahead]
    exact (I.putRow hn hreg (by simp; omega)).ahead k
  refine ⟨G, _, .slc n 0 (Cw.cpt zs).length 1, _, nn, he, ⟨Ext.refl _ _, rfl⟩, I2, hf, Nat.le_refl _, ?_, rfl, rfl, rfl⟩
  rw [Rv]
  exact ⟨b, lo, t, cap, hreg, rfl, by omega, by omega, by omega⟩
end Go.AM

namespace Go.AM
open Go.Proofs Cw
set_option maxRecDepth 10000
/-- as RowsAt; behind a row's elements others may lie -/
structure RowsX (m : Nat) (L T : Nat → List Int) (K : Nat → Nat) (n : Nat) (H : AHeap) : Prop where
  hm : H m = some (.cells [rowV K L 0, rowV K L 1, rowV K L 2, rowV K L 3, rowV K L 4])
  row : ∀ i, i < 5 → L i ≠ [] → H (K i) = some (.cells ((L i ++ T i).map (iv .i64)))
  ne : ∀ i, i < 5 → L i ≠ [] → K i ≠ m
  lt : ∀ i, i < 5 → L i ≠ [] → K i < n
  inj : ∀ i j, i < 5 → j < 5 → L i ≠ [] → L j ≠ [] → K i = K j → i = j
  mn : m < n
theorem RowsAt.x {m : Nat} {L : Nat → List Int} {K : Nat → Nat} {n : Nat} {H : AHeap} (R : RowsAt m L K n H) : RowsX m L (fun _ => []) K n H :=
  ⟨R.hm, fun i hi hl => by rw [List.append_nil]; exact R.row i hi hl, R.ne, R.lt, R.inj, R.mn⟩
theorem RowsX.up' {m : Nat} {L T : Nat → List Int} {K : Nat → Nat} {n : Nat} {H : AHeap} (R : RowsX m L T K n H) {n2 : Nat} (h2 : n ≤ n2) : RowsX m L T K n2 H :=
  ⟨R.hm, R.row, R.ne, fun i hi hl => Nat.lt_of_lt_of_le (R.lt i hi hl) h2, R.inj, Nat.lt_of_lt_of_le R.mn h2⟩
/-- a row with one number more -/
def apH (L : Nat → List Int) (K : Nat → Nat) (i : Nat) (H : AHeap) (nm : Nat) (z : Int) : AHeap :=
  if L i = [] then H.upd nm (some (.cells ((L i ++ [z]).map (iv .i64)))) else (H.upd (K i) none).upd nm (some (.cells ((L i ++ [z]).map (iv .i64))))
theorem apH_new (L : Nat → List Int) (K : Nat → Nat) (i : Nat) (H : AHeap) (nm : Nat) (z : Int) : apH L K i H nm z nm = some (.cells ((L i ++ [z]).map (iv .i64))) := by
  unfold apH; split <;> exact upd_same _ _ _
theorem apH_old (L : Nat → List Int) (K : Nat → Nat) (i : Nat) (H : AHeap) (nm : Nat) (z : Int) (x : Nat) (h1 : x ≠ nm) (h2 : L i ≠ [] → x ≠ K i) : apH L K i H nm z x = H x := by
  unfold apH; split
  · exact upd_ne _ _ _ _ h1
  · rename_i h; rw [upd_ne _ _ _ _ h1, upd_ne _ _ _ _ (h2 h)]
theorem ap_row (L : Nat → List Int) (K : Nat → Nat) (i : Nat) (H : AHeap) (nm : Nat) (b c : Bool) (z : Int) (hr : L i ≠ [] → H (K i) = some (.cells ((L i).map (iv .i64)))) (hl : (L i).length ≤ 1000000) :
    aAppend Tryz.prog nm 49 (rowV K L i) (.fslc b c 1 [iv .i64 z]) H = some (.slc nm 0 ((L i).length + 1) 1, apH L K i H nm z) := by
  unfold rowV apH
  by_cases h : L i = []
  · rw [if_pos h, if_pos h]
    have := ap49_nil nm H b c [z] (by simp) (by simp)
    simp only [List.map_cons, List.map_nil, List.length_singleton] at this
    rw [this, h]; rfl
  · rw [if_neg h, if_neg h]
    have := ap49_s nm (K i) H b c (L i) [z] (hr h) (by simp) (by simp; omega)
    simpa using this
def upN {α : Type} (f : Nat → α) (i : Nat) (x : α) : Nat → α := fun j => if j = i then x else f j
theorem upN_same {α : Type} (f : Nat → α) (i : Nat) (x : α) : upN f i x i = x := by simp [upN]
theorem upN_ne {α : Type} (f : Nat → α) (i j : Nat) (x : α) (h : j ≠ i) : upN f i x j = f j := by simp [upN, h]
theorem RowsX.step {m : Nat} {L T : Nat → List Int} {K : Nat → Nat} {n : Nat} {H : AHeap} (R : RowsX m L T K n H) (i : Nat) (hi : i < 5) {N T' : List Int} (_hN : N ≠ []) {nm n2 : Nat} {H2 : AHeap} (h1 : n ≤ nm) (h2 : nm < n2)
    (hm' : H2 m = some (.cells [rowV (upN K i nm) (upN L i N) 0, rowV (upN K i nm) (upN L i N) 1, rowV (upN K i nm) (upN L i N) 2, rowV (upN K i nm) (upN L i N) 3, rowV (upN K i nm) (upN L i N) 4]))
    (hk : H2 nm = some (.cells ((N ++ T').map (iv .i64)))) (hx : ∀ x, x < n → x ≠ m → (L i ≠ [] → x ≠ K i) → H2 x = H x) : RowsX m (upN L i N) (upN T i T') (upN K i nm) n2 H2 := by
  have hmn := R.mn
  refine ⟨hm', fun j hj hl => ?_, fun j hj hl => ?_, fun j hj hl => ?_, fun a b ha hb hla hlb e => ?_, by omega⟩
  · by_cases e : j = i
    · subst e; simpa only [upN_same] using hk
    · rw [upN_ne _ _ _ _ e] at hl
      rw [upN_ne _ _ _ _ e, upN_ne _ _ _ _ e, upN_ne _ _ _ _ e, hx _ (R.lt j hj hl) (R.ne j hj hl) (fun h e2 => e (R.inj j i hj hi hl h e2))]
      exact R.row j hj hl
  · by_cases e : j = i
    · subst e; rw [upN_same]; omega
    · rw [upN_ne _ _ _ _ e] at hl ⊢; exact R.ne j hj hl
  · by_cases e : j = i
    · subst e; rw [upN_same]; exact h2
    · rw [upN_ne _ _ _ _ e] at hl ⊢; have := R.lt j hj hl; omega
  · by_cases ea : a = i
    · by_cases eb : b = i
      · rw [ea, eb]
      · rw [upN_ne _ _ _ _ eb] at hlb e
        subst ea; rw [upN_same] at e; have := R.lt b hb hlb; omega
    · by_cases eb : b = i
      · rw [upN_ne _ _ _ _ ea] at hla e
        subst eb; rw [upN_same] at e; have := R.lt a ha hla; omega
      · rw [upN_ne _ _ _ _ ea] at hla e
        rw [upN_ne _ _ _ _ eb] at hlb e
        exact R.inj a b ha hb hla hlb e
/-- a row by value -/
def rowF (l : List Int) : AV := if l = [] then .fslc true true 0 [] else encI l
section
variable [Vars] {fl : Nat} {K : AV → AHeap → Nat → Prop} {h : AHeap} {n : Nat}
/-- freezing a row, in an aggregate within a tuple -/
theorem ret_freeze2 {m : Nat} {c l : List AV} {e : AV} (hm : h m = some (.cells c)) (hk : RetOk fl K (.tup [.agg (l.map (fz m c false)), e]) (h.upd m none) n) (he : ∀ G G' v, VLe G G' → Rv G e v → Rv G' e v) : RetOk fl K (.tup [.agg l, e]) h n := by
  refine ret_step (fun w0 G w v I f hr hl => ?_) hk
  obtain ⟨r, hreg⟩ := (I.obj m _ hm).hasReg
  have hle := Gh.le_freeze I hm hreg
  refine ⟨G.freeze w r, ⟨⟨fun _ _ => rfl, hle.imm, ⟨[], rfl⟩, rfl, fun _ e => e⟩, rfl⟩, I.freeze hm hreg, f, ?_, hl⟩
  simp only [Rv, RvL] at hr ⊢
  obtain ⟨vs, e1, v1, r1, e2, ⟨us, e3, h3⟩, v2, r2, e4, h4, e5⟩ := hr
  exact ⟨vs, e1, v1, r1, e2, ⟨us, e3, fzL_ok I hm hreg false h3⟩, v2, r2, e4, he _ _ _ hle.v h4, e5⟩
end
theorem fz_other (m : Nat) (c : List AV) (J : Nat → Nat) (L : Nat → List Int) (j : Nat) (h : L j ≠ [] → J j ≠ m) : fz m c false (rowV J L j) = rowV J L j := by
  unfold rowV
  split
  · rfl
  · rename_i h'; simp [fz, h h']
theorem fz_self (J : Nat → Nat) (L T : Nat → List Int) (j : Nat) (h : L j ≠ []) : fz (J j) ((L j ++ T j).map (iv .i64)) false (rowV J L j) = rowF (L j) := by
  unfold rowV rowF
  rw [if_neg h, if_neg h]
  have e : elems false 1 (L j).length ((L j ++ T j).map (iv .i64)) = (L j).map (iv .i64) := by
    generalize L j = l; generalize T j = t
    clear h
    induction l with
    | nil => rfl
    | cons z r ih =>
      simp only [elems, chunk, List.map_cons, List.length_cons, List.cons_append] at ih ⊢
      have e1 : List.drop 1 (iv .i64 z :: List.map (iv .i64) (r ++ t)) = List.map (iv .i64) (r ++ t) := rfl
      rw [e1, ih]; rfl
  simp only [fz, Nat.zero_add, Nat.mul_one, List.drop_zero]; rw [if_pos ⟨trivial, by simp, fun _ => trivial⟩, e]
theorem fz_rowF (m : Nat) (c : List AV) (l : List Int) : fz m c false (rowF l) = rowF l := by unfold rowF; split <;> rfl
/-- the rows from place k on are still slices -/
def mixV (J : Nat → Nat) (L : Nat → List Int) (k j : Nat) : AV := if j < k then rowF (L j) else rowV J L j
theorem ret_rows {m : Nat} {L T : Nat → List Int} {J : Nat → Nat} {nn n : Nat} {H : AHeap} (R : RowsX m L T J nn H) {fl : Nat} {K : AV → AHeap → Nat → Prop} (e : Int)
    (hk : ∀ H' : AHeap, (∀ x, (∀ i, i < 5 → L i ≠ [] → x ≠ J i) → H' x = H x) → RetOk fl K (.tup [.agg [rowF (L 0), rowF (L 1), rowF (L 2), rowF (L 3), rowF (L 4)], iv .i64 e]) H' n) :
    RetOk fl K (.tup [.agg [rowV J L 0, rowV J L 1, rowV J L 2, rowV J L 3, rowV J L 4], iv .i64 e]) H n := by
  have he : ∀ G G' v, VLe G G' → Rv G (iv .i64 e) v → Rv G' (iv .i64 e) v := fun G G' v _ h => by simpa [iv, Rv] using h
  have key : ∀ d k, k + d = 5 → ∀ H1 : AHeap, (∀ x, (∀ i, i < k → L i ≠ [] → x ≠ J i) → H1 x = H x) → RetOk fl K (.tup [.agg [mixV J L k 0, mixV J L k 1, mixV J L k 2, mixV J L k 3, mixV J L k 4], iv .i64 e]) H1 n := by
    intro d
    induction d with
    | zero =>
      intro k hkd H1 hx
      have : k = 5 := by omega
      subst this
      exact hk H1 hx
    | succ d ih =>
      intro k hkd H1 hx
      by_cases h0 : L k = []
      · have e1 : ∀ j, mixV J L k j = mixV J L (k + 1) j := fun j => by
          unfold mixV
          by_cases e : j = k
          · subst e; rw [if_neg (by omega), if_pos (by omega)]; unfold rowV rowF; rw [if_pos h0, if_pos h0]
          · by_cases e2 : j < k
            · rw [if_pos e2, if_pos (by omega)]
            · rw [if_neg e2, if_neg (by omega)]
        rw [e1, e1, e1, e1, e1]
        exact ih (k + 1) (by omega) H1 fun x hx' => hx x fun i hi => hx' i (by omega)
      · have hrow : H1 (J k) = some (.cells ((L k ++ T k).map (iv .i64))) := by
          rw [hx (J k) fun i hi hl e => by have := R.inj k i (by omega) (by omega) h0 hl e; omega]
          exact R.row k (by omega) h0
        refine ret_freeze2 hrow ?_ he
        have e1 : ∀ j, j < 5 → fz (J k) ((L k ++ T k).map (iv .i64)) false (mixV J L k j) = mixV J L (k + 1) j := fun j hj => by
          unfold mixV
          by_cases e : j = k
          · subst e; rw [if_neg (by omega), if_pos (by omega)]; exact fz_self J L T j h0
          · by_cases e2 : j < k
            · rw [if_pos e2, if_pos (by omega)]; exact fz_rowF _ _ _
            · rw [if_neg e2, if_neg (by omega)]
              exact fz_other _ _ _ _ _ fun hl e3 => e (R.inj j k hj (by omega) hl h0 e3)
        simp only [List.map_cons, List.map_nil]
        rw [e1 0 (by omega), e1 1 (by omega), e1 2 (by omega), e1 3 (by omega), e1 4 (by omega)]
        refine ih (k + 1) (by omega) _ fun x hx' => ?_
        rw [upd_ne _ _ _ _ (hx' k (by omega) h0)]
        exact hx x fun i hi => hx' i (by omega)
  exact key 5 0 rfl H fun x _ => rfl
end Go.AM

namespace Go.AM
open Go.Proofs Cw
set_option maxRecDepth 10000
set_option maxHeartbeats 4000000
def lensP (cs : List Cnd) : Nat → Int
  | 0 => 1
  | k + 1 => lensP cs k * (numsP (k : Int) cs).length
theorem lensP_pos (cs : List Cnd) : ∀ k, 1 ≤ lensP cs k
  | 0 => by simp [lensP]
  | k + 1 => by
    have h1 := lensP_pos cs k
    have h2 := length_pos_numsP (k : Int) cs
    have h3 : lensP cs k * 1 ≤ lensP cs k * ((numsP (k : Int) cs).length : Int) := Int.mul_le_mul_of_nonneg_left (by omega) (by omega)
    simp only [lensP]; omega
theorem lensP_step (cs : List Cnd) (k : Nat) : lensP cs k ≤ lensP cs (k + 1) := by
  have h1 := lensP_pos cs k
  have h2 := length_pos_numsP (k : Int) cs
  have h3 : lensP cs k * 1 ≤ lensP cs k * ((numsP (k : Int) cs).length : Int) := Int.mul_le_mul_of_nonneg_left (by omega) (by omega)
  simp only [lensP]; omega
theorem lensP_mono (cs : List Cnd) (k : Nat) : ∀ d, lensP cs k ≤ lensP cs (k + d)
  | 0 => Int.le_refl _
  | d + 1 => Int.le_trans (lensP_mono cs k d) (lensP_step cs (k + d))
def fewP (cs : List Cnd) : Bool := decide (lensP cs 5 ≤ 20000)
def ChPost (cs : List Cnd) (r : AV) : Prop :=
  if fewP cs then r = .tup [.agg [encI (numsP 0 cs), encI (numsP 1 cs), encI (numsP 2 cs), encI (numsP 3 cs), encI (numsP 4 cs)], iv .i64 0] else ∃ V : Nat → List Int, r = .tup [.agg [rowF (V 0), rowF (V 1), rowF (V 2), rowF (V 3), rowF (V 4)], iv .i64 80]
theorem askL_snoc (j : Int) : ∀ (l : List Cnd) (x : Cnd), askL j (l ++ [x]) = askL j l ++ Cw.ask j x
  | [], x => by simp [askL]
  | c :: r, x => by simp only [List.cons_append, askL, askL_snoc j r x, List.append_assoc]
theorem totL_get : ∀ (l : List Cnd) (i : Nat) (c : Cnd), l[i]? = some c → totL (l.take i) + tot c ≤ totL l
  | [], i, c, h => by simp at h
  | d :: r, 0, c, h => by simp at h; subst h; simp [totL]
  | d :: r, i + 1, c, h => by have := totL_get r i c (by simpa using h); simp only [List.take_succ_cons, totL]; omega
theorem length_totL2 : ∀ l : List Cnd, l.length ≤ totL l
  | [] => by simp
  | c :: r => by have := length_totL2 r; have := tot_pos c; simp only [List.length_cons, totL]; omega
theorem okL_get2 : ∀ {l : List Cnd}, okL l = true → ∀ {i : Nat} {c : Cnd}, l[i]? = some c → ok c = true
  | [], _, i, c, h => by simp at h
  | d :: r, hw, 0, c, h => by simp only [okL, Bool.and_eq_true] at hw; simp at h; subst h; exact hw.1
  | d :: r, hw, i + 1, c, h => by simp only [okL, Bool.and_eq_true] at hw; exact okL_get2 hw.2 (i := i) (by simpa using h)
theorem sort109 (m nn : Nat) (h : AHeap) (zs : List Int) (len : Nat) (hl : zs.length = len) (hn : h m = some (.cells (zs.map (iv .i64)))) (hsz : len < 4611686018427387904) :
    ACalls Tryz.prog 109 [.slc m 0 len 1] h nn fun r h' n' => r = .tup [] ∧ h' = h.upd m (some (.cells ((sortI zs).map (iv .i64)))) ∧ n' = nn := by
  subst hl
  exact sort_ac Tryz.layssort (by kernel_rfl) m nn h zs hn hsz
theorem compact110 (m nn : Nat) (h : AHeap) (zs : List Int) (len : Nat) (hl : zs.length = len) (hn : h m = some (.cells (zs.map (iv .i64)))) (hsz : len < 4611686018427387904) :
    ACalls Tryz.prog 110 [.slc m 0 len 1] h nn fun r h' n' => r = .slc m 0 (Cw.cpt zs).length 1 ∧ h' = h.upd m (some (.cells ((Cw.cpt zs ++ List.replicate (zs.length - (Cw.cpt zs).length) 0).map (iv .i64)))) ∧ n' = nn := by
  subst hl
  exact compact_ac Tryz.layscompact (by kernel_rfl) m nn h zs hn hsz
/-- the rows behind i rounds -/
def LL (cs : List Cnd) (i j : Nat) : List Int := if j < i then numsP (j : Int) cs else askL (j : Int) cs
theorem LL_up (cs : List Cnd) (i : Nat) : upN (LL cs i) i (numsP (i : Int) cs) = LL cs (i + 1) := by
  funext j
  unfold upN LL
  by_cases e : j = i
  · subst e; rw [if_pos rfl, if_pos (by omega)]
  · rw [if_neg e]
    by_cases h : j < i
    · rw [if_pos h, if_pos (by omega)]
    · rw [if_neg h, if_neg (by omega)]
theorem LL_self (cs : List Cnd) (i : Nat) : LL cs i i = askL (i : Int) cs := by simp [LL]
theorem numsP_ne (j : Int) (cs : List Cnd) : numsP j cs ≠ [] := fun e => by have := length_pos_numsP j cs; rw [e] at this; simp at this
theorem rowV_up (cs : List Cnd) (J : Nat → Nat) (i nm j : Nat) : rowV (upN J i nm) (LL cs (i + 1)) j = if j = i then .slc nm 0 (numsP (i : Int) cs).length 1 else rowV J (LL cs i) j := by
  by_cases e : j = i
  · subst e
    rw [if_pos rfl, rowV, ← LL_up, upN_same, upN_same, if_neg (numsP_ne _ _)]
  · rw [if_neg e, rowV, rowV, ← LL_up, upN_ne _ _ _ _ e, upN_ne _ _ _ _ e]
theorem RowsX.set {m : Nat} {L T : Nat → List Int} {K : Nat → Nat} {n : Nat} {H : AHeap} (R : RowsX m L T K n H) (x : Nat) (h1 : x ≠ m) (h2 : ∀ i, i < 5 → L i ≠ [] → K i ≠ x) (o : Option AObj) : RowsX m L T K n (H.upd x o) :=
  ⟨by rw [upd_ne _ _ _ _ (Ne.symm h1)]; exact R.hm, fun i hi hl => by rw [upd_ne _ _ _ _ (h2 i hi hl)]; exact R.row i hi hl, R.ne, R.lt, R.inj, R.mn⟩
theorem RowsX.round {m : Nat} {cs : List Cnd} {T : Nat → List Int} {J : Nat → Nat} {n : Nat} {H : AHeap} {i : Nat} (R : RowsX m (LL cs i) T J n H) (hi : i < 5) (nm n2 k : Nat) (h1 : n ≤ nm) (h2 : nm < n2) (X1 X2 : Option AObj) (C : List AV)
    (hC : C = [rowV (upN J i nm) (LL cs (i + 1)) 0, rowV (upN J i nm) (LL cs (i + 1)) 1, rowV (upN J i nm) (LL cs (i + 1)) 2, rowV (upN J i nm) (LL cs (i + 1)) 3, rowV (upN J i nm) (LL cs (i + 1)) 4]) :
    RowsX m (LL cs (i + 1)) (upN T i (List.replicate k 0)) (upN J i nm) n2 (((((apH (LL cs i) J i H nm 0).upd m X1).upd nm X2).upd nm (some (.cells ((numsP (i : Int) cs).map (iv .i64) ++ List.replicate k (iv .i64 0))))).upd m (some (.cells C))) := by
  have hmn := R.mn
  have hm : m ≠ nm := by omega
  rw [← LL_up]
  refine R.step i hi (numsP_ne _ _) h1 h2 ?_ ?_ fun x hx hxm hxk => ?_
  · rw [upd_same, hC, LL_up]
  · rw [upd_ne _ _ _ _ (Ne.symm hm), upd_same]; simp
  · have : x ≠ nm := by omega
    rw [upd_ne _ _ _ _ hxm, upd_ne _ _ _ _ this, upd_ne _ _ _ _ this, upd_ne _ _ _ _ hxm, apH_old _ _ _ _ _ _ _ this hxk]
theorem choices_spec (cs : List Cnd) (nl fu : Bool) (s : Nat) (hnl : cs = [] ∨ nl = false ∧ s = 5) (hw : wfL cs) (hok : okL cs = true) (ht : totL cs ≤ 1000) (h : AHeap) (n : Nat) :
    ACalls Tryz.prog 59 [.fslc nl fu s (encL cs)] h n fun r h' n' => ChPost cs r ∧ h' = h ∧ n' = n := by
  refine ACalls.pure (ACalls.entry (by kernel_rfl) fun hb _ => calls_of Tryz.func59 rfl (by kernel_rfl) (by simp [Tryz.ntmps59]) ?_)
  have hlc := length_totL2 cs
  have hlen := encL_length cs
  replace hnl : Hide _ := hnl
  replace hw : Hide _ := hw
  replace hok : Hide _ := hok
  repeat' (first | (refine ac_seq_h fun K hK => ?_) | (refine ac_region_h fun K hK => ?_; simp (disch := omega) [go_sem, *, Tryz.ntmps59]) | (apply Hide.out hK; clear hK K; try with_reducible dsimp only [thenA]) | (refine ac_block ?_))
  refine ac_loop_wk (fun s' => ∃ (i n' : Nat) (J : Nat → Nat) (H : AHeap), n + 5 < n' ∧ i ≤ cs.length ∧ RowsAt (n + 2) (fun j : Nat => askL (j : Int) (cs.take i)) J n' H ∧ (∀ j : Nat, j < 5 → askL (j : Int) (cs.take i) ≠ [] → n + 2 < J j) ∧ (∀ x, x < n → H x = h x) ∧ H n = some (.cells [.fslc true true 0 [], .fslc true true 0 [], .fslc true true 0 [], .fslc true true 0 [], .fslc true true 0 []]) ∧
      s' = ⟨49, [(2, .ptr n 0), (4, .ptr (n + 2) 0), (9, .fslc nl fu s (encL cs)), (10, iv .i64 cs.length), (11, iv .i64 i)], H, n'⟩)
    (fun s' => cs.length - (intAt s' 11).toNat) ?_ ?_
  · refine loop_start (by simp [go_sem]) (Sub.refl _) ⟨0, _, fun _ => 0, _, by omega, by omega, ⟨?_, fun i _ hl => absurd rfl hl, fun i _ hl => absurd rfl hl, fun i _ hl => absurd rfl hl, fun i j _ _ hl => absurd rfl hl, by omega⟩, fun j _ hl => absurd rfl hl, fun x hx => by simp (disch := omega) only [upd_ne], by simp (disch := omega) only [upd_ne, upd_same], rfl⟩
    rw [upd_same]; rfl
  · rintro s' ⟨i, n', J, H, hn', hi, R, hJ, hfr, hres, rfl⟩
    replace hfr : Hide _ := hfr
    replace hJ : Hide _ := hJ
    replace R : Hide _ := R
    replace hres : Hide _ := hres
    by_cases hlt : i < cs.length
    · obtain ⟨x, hx⟩ : ∃ x, cs[i]? = some x := ⟨cs[i], List.getElem?_eq_getElem hlt⟩
      have hne : cs ≠ [] := fun e => by rw [e] at hlt; simp at hlt
      obtain ⟨rfl, rfl⟩ := hnl.out.resolve_left hne
      have hex : (encL cs)[i]? = some (encC x) := by rw [encL_get, hx]; rfl
      have htk := totL_get cs i x hx
      have htake : cs.take i ++ [x] = cs.take (i + 1) := by
        rw [List.take_succ_eq_append_getElem hlt]; rw [List.getElem?_eq_getElem hlt] at hx; cases hx; rfl
      have kx : ∀ (m : Nat) (J : Nat → Nat) (nn : Nat) (H : AHeap), RowsAt m (fun j : Nat => askL (j : Int) (cs.take i)) J nn H → ACalls Tryz.prog 108 [encC x, .ptr m 0] H nn (AskPost m (fun j : Nat => askL (j : Int) (cs.take i)) J (fun j : Nat => Cw.ask (j : Int) x) nn H) := fun m J nn H R =>
        asked_spec _ x (Nat.le_refl _) (wfL_get hw.out hx) (okL_get2 hok.out hx) m _ J nn H R fun j hj => by
          have := length_askL (j : Int) (cs.take i); show (askL (j : Int) (cs.take i)).length + _ ≤ _; omega
      clear htk hne
      replace hx : Hide _ := hx
      obtain ⟨xk, xf, xo, xn, xnl, xfu, xsz, xks⟩ := x
      simp only [encC] at hex kx
      have hel : i < (encL cs).length := by omega
      have hex2 : (encL cs)[i] = .agg [iv .i64 xk, iv .i64 xf, iv .i64 xo, iv .i64 xn, .fslc xnl xfu xsz (encL xks)] := by
        rw [List.getElem?_eq_getElem hel] at hex; exact Option.some.inj hex
      replace hex : Hide _ := hex
      replace htake : Hide _ := htake
      replace kx : Hide _ := kx
      repeat' (first | (refine ac_seq_h fun K hK => ?_) | (refine ac_region_h fun K hK => ?_; simp (disch := omega) [go_sem, *, ilt_true, ile_true]) | (apply Hide.out hK; clear hK K; try with_reducible dsimp only [thenA]) | (apply Hide.out ht; clear ht hf Kt Kf) | (refine ac_block ?_) | (refine ac_skip ?_; simp only [thenA]) | (refine ac_cond_h fun Kt Kf ht hf => ?_; simp (disch := omega) [go_sem, *]; try (refine ⟨fun hc => ?_, fun hc => ?_⟩ <;> try (exfalso; omega))))
      refine .inl ((kx.out (n + 2) J _ _ (by exact ((R.out.upd (by omega) (n2 := n' + 1 + 2) (by omega) _).upd (by omega) (by omega) _))).mono fun r h2 n2 hp => ?_)
      obtain ⟨rfl, hn2, J2, R2, hk2, hx2⟩ := hp
      replace R2 : Hide _ := R2
      replace hk2 : Hide _ := hk2
      replace hx2 : Hide _ := hx2
      repeat' (first | (refine ac_region_h fun K hK => ?_; simp (disch := omega) [go_sem, *, wrap64_id]) | (apply Hide.out hK; clear hK K; try with_reducible dsimp only [thenA]))
      have hxx : ∀ x, x ≤ n → h2 x = H x := fun x hx => by
        rw [hx2.out x (by omega) (by omega) fun j hj hl e => by have := hJ.out j hj hl; omega]
        simp (disch := omega) only [upd_ne]
      have R3 : RowsAt (n + 2) (fun j => askL j (cs.take (i + 1))) J2 n2 h2 := by
        have e : (fun j : Nat => askL j (cs.take (i + 1))) = fun j : Nat => askL j (cs.take i) ++ Cw.ask j (.mk xk xf xo xn xnl xfu xsz xks) := by funext j; rw [← htake.out, askL_snoc]
        rw [e]; exact R2.out
      refine round_end (by simp (disch := omega) [go_sem]) (Sub.refl _) ⟨i + 1, _, J2, _, ?_, by omega, R3.up (by omega), fun j hj hl => ?_, fun x hx => by rw [hxx x (by omega)]; exact hfr.out x hx, by rw [hxx n (by omega)]; exact hres.out, rfl⟩ (by simp [intAt, go_sem]; omega)
      · omega
      · rw [← htake.out, askL_snoc] at hl
        by_cases h0 : askL (j : Int) (cs.take i) = []
        · have := (hk2.out j hj).2 h0 (by rw [h0] at hl; simpa using hl); omega
        · rcases (hk2.out j hj).1 h0 with e | e
          · rw [e]; exact hJ.out j hj h0
          · omega
    · have hii : i = cs.length := by omega
      subst hii
      rw [List.take_length] at R hJ
      repeat' (first | (refine ac_seq_h fun K hK => ?_) | (refine ac_region_h fun K hK => ?_; simp (disch := omega) [go_sem, *]) | (apply Hide.out hK; clear hK K; try with_reducible dsimp only [thenA]) | (apply Hide.out hf; clear ht hf Kt Kf) | (clear hK K; apply Hide.out hK; clear hK K; try with_reducible dsimp only [thenA]) | (refine ac_block ?_) | (refine ac_exit ?_; simp only [thenA, blockA, if_true]) | (refine ac_cond_h fun Kt Kf ht hf => ?_; simp (disch := omega) [go_sem, *]; try (refine ⟨fun hc => ?_, fun hc => ?_⟩ <;> try (exfalso; omega))))
      refine ac_loop_wk (fun s' => ∃ (i n' : Nat) (J : Nat → Nat) (T : Nat → List Int) (H : AHeap), n + 5 < n' ∧ i ≤ 5 ∧ RowsX (n + 2) (LL cs i) T J n' H ∧ (∀ j : Nat, j < 5 → LL cs i j ≠ [] → n + 2 < J j) ∧ (∀ j, i ≤ j → T j = []) ∧ (∀ x, x < n → H x = h x) ∧ H n = some (.cells [.fslc true true 0 [], .fslc true true 0 [], .fslc true true 0 [], .fslc true true 0 [], .fslc true true 0 []]) ∧ lensP cs i ≤ 20000 ∧
          s' = ⟨49, [(2, .ptr n 0), (4, .ptr (n + 2) 0), (7, iv .i64 (lensP cs i)), (18, iv .i64 i)], H, n'⟩)
        (fun s' => 5 - (intAt s' 18).toNat) ?_ ?_
      · have hLL : LL cs 0 = fun j : Nat => askL (j : Int) cs := by funext j; simp [LL]
        have R0 : RowsX (n + 2) (LL cs 0) (fun _ => []) J n' H := by rw [hLL]; exact R.out.x
        exact loop_start (by simp [go_sem, lensP]) (Sub.refl _) ⟨0, _, J, fun _ => [], _, by omega, by omega, R0.up' (by omega), fun j hj hl => hJ.out j hj (by simpa [LL] using hl), fun _ _ => rfl, hfr.out, hres.out, by simp [lensP], rfl⟩
      · clear R hJ hres hfr hlt hi hn'
        rintro s' ⟨i, n', J, T, H, hn', hi, R, hJ, hT, hfr, hres, hP, rfl⟩
        replace hfr : Hide _ := hfr
        replace hJ : Hide _ := hJ
        replace hT : Hide _ := hT
        have hp1 := lensP_pos cs i
        have hm := R.hm
        have hi6 : i = 0 ∨ i = 1 ∨ i = 2 ∨ i = 3 ∨ i = 4 ∨ i = 5 := by omega
        rcases hi6 with rfl | rfl | rfl | rfl | rfl | rfl
        · have hrow := fun hl => R.row 0 (by omega) hl
          rw [hT.out 0 (by omega)] at hrow
          simp only [List.append_nil] at hrow
          have hll : (LL cs 0 0).length ≤ 2000 := by rw [LL_self]; have := length_askL (0 : Int) cs; show (askL (0 : Int) cs).length ≤ 2000; omega
          have hap := fun nm (b c : Bool) => ap_row (LL cs 0) J 0 H nm b c 0 hrow (by omega)
          have hcp : Cw.cpt (sortI (LL cs 0 0 ++ [0])) = numsP 0 cs := by rw [LL_self]; rfl
          have hlp : (numsP 0 cs).length ≤ 2001 := by have := length_numsP (0 : Int) cs; omega
          have hmul : lensP cs 0 * ((numsP 0 cs).length : Int) = lensP cs 1 := by simp [lensP]
          have hbd : 0 ≤ lensP cs 0 * ((numsP 0 cs).length : Int) ∧ lensP cs 0 * ((numsP 0 cs).length : Int) ≤ 20000 * 2001 := ⟨Int.mul_nonneg (by omega) (by omega), Int.mul_le_mul hP (by omega) (by omega) (by omega)⟩
          replace R : Hide _ := R
          replace hcp : Hide _ := hcp
          replace hmul : Hide _ := hmul
          replace hrow : Hide _ := hrow
          have hfx := fun nm (h1 : n' ≤ nm) => (apH_old (LL cs 0) J 0 H nm 0 (n + 2) (by omega) (fun hl e => R.out.ne 0 (by omega) hl e.symm)).trans hm
          have hfn := fun nm (h1 : n' ≤ nm) => (apH_old (LL cs 0) J 0 H nm 0 n (by omega) (fun hl e => by have := hJ.out 0 (by omega) hl; omega)).trans hres
          have sc0 := rowV_sc J (LL cs 0) 0
          have sc1 := rowV_sc J (LL cs 0) 1
          have sc2 := rowV_sc J (LL cs 0) 2
          have sc3 := rowV_sc J (LL cs 0) 3
          have sc4 := rowV_sc J (LL cs 0) 4
          simp only [AV.scalar] at sc0 sc1 sc2 sc3 sc4
          have hJ2 : ∀ j : Nat, j < 5 → LL cs 1 j ≠ [] → n + 2 < upN J 0 (n' + 1 + 2 + 5) j := fun j hj hl => by
            by_cases e : j = 0
            · subst e; rw [upN_same]; omega
            · rw [upN_ne _ _ _ _ e]
              refine hJ.out j hj ?_
              rw [show LL cs 1 = LL cs (0 + 1) from rfl, ← LL_up, upN_ne _ _ _ _ e] at hl; exact hl
          have hfr2 : ∀ x, x < n → apH (LL cs 0) J 0 H (n' + 1 + 2 + 5) 0 x = h x := fun x hx => by
            rw [apH_old _ _ _ _ _ _ _ (by omega) (fun hl e => by have := hJ.out 0 (by omega) hl; omega)]
            exact hfr.out x hx
          replace hJ2 : Hide _ := hJ2
          replace hfr2 : Hide _ := hfr2
          repeat' (first | (refine ac_seq_h fun K hK => ?_) | (refine ac_region_h fun K hK => ?_; simp (disch := omega) [go_sem, *, ilt_true]) | (apply Hide.out hK; clear hK K; try with_reducible dsimp only [thenA]) | (apply Hide.out ht; clear ht hf Kt Kf) | (refine ac_block ?_) | (refine ac_skip ?_; simp only [thenA]) | (refine ac_cond_h fun Kt Kf ht hf => ?_; simp (disch := omega) [go_sem, *]; try (refine ⟨fun hc => ?_, fun hc => ?_⟩ <;> try (exfalso; omega))))
          refine .inl ((sort109 _ _ _ (LL cs 0 0 ++ [0]) _ (by simp) (by rw [upd_ne _ _ _ _ (by omega)]; exact apH_new _ _ _ _ _ _) (by omega)).mono fun r h2 n2 hp => ?_)
          obtain ⟨rfl, rfl, rfl⟩ := hp
          repeat' (first | (refine ac_seq_h fun K hK => ?_) | (refine ac_region_h fun K hK => ?_; simp (disch := omega) [go_sem, *, upd_ne, ilt_true]) | (apply Hide.out hK; clear hK K; try with_reducible dsimp only [thenA]))
          refine .inl ((compact110 _ _ _ (sortI (LL cs 0 0 ++ [0])) _ (by simp [sortI]) (by rw [upd_same]) (by omega)).mono fun r h2 n2 hp => ?_)
          rw [hcp.out] at hp
          obtain ⟨rfl, rfl, rfl⟩ := hp
          have hlS : (sortI (LL cs 0 0 ++ [0])).length = (LL cs 0 0).length + 1 := by simp [sortI]
          rw [hlS]
          generalize (LL cs 0 0).length + 1 - (numsP 0 cs).length = kk
          generalize sortI (LL cs 0 0 ++ [0]) = S'
          clear hlS
          by_cases hbig : 20000 < lensP cs 0 * ((numsP 0 cs).length : Int)
          · skip
            repeat' (first | (refine ac_seq_h fun K hK => ?_) | (refine ac_region_h fun K hK => ?_; simp (disch := omega) [go_sem, *, wrap64_id, upd_ne, ilt_true]) | (apply Hide.out hK; clear hK K; try with_reducible dsimp only [thenA]) | (apply Hide.out ht; clear ht hf Kt Kf) | (with_reducible show nextK _ _ _ _ _ _ _; simp (disch := omega) [go_sem, *, upd_ne, ilt_true]) | (refine ac_cond_h fun Kt Kf ht hf => ?_; simp (disch := omega) [go_sem, *]; try (refine ⟨fun hc => ?_, fun hc => ?_⟩ <;> try (exfalso; omega))))
            have hf : fewP cs = false := by
              have h1 := hmul.out
              have h2 := lensP_mono cs 1 4
              simp only [fewP, decide_eq_false_iff_not, Int.not_le]
              rw [h1] at hbig
              exact Int.lt_of_lt_of_le hbig h2
            refine ac_ret ?_
            try dsimp only [thenA, blockA]
            refine ⟨by simp, _, (by first | rfl | (simp (disch := omega) [go_sem] <;> rfl)), ?_⟩
            have hC : [.slc (n' + 1 + 2 + 5) 0 (numsP 0 cs).length 1, rowV J (LL cs 0) 1, rowV J (LL cs 0) 2, rowV J (LL cs 0) 3, rowV J (LL cs 0) 4] = [rowV (upN J 0 (n' + 1 + 2 + 5)) (LL cs 1) 0, rowV (upN J 0 (n' + 1 + 2 + 5)) (LL cs 1) 1, rowV (upN J 0 (n' + 1 + 2 + 5)) (LL cs 1) 2, rowV (upN J 0 (n' + 1 + 2 + 5)) (LL cs 1) 3, rowV (upN J 0 (n' + 1 + 2 + 5)) (LL cs 1) 4] := by
              rw [show LL cs 1 = LL cs (0 + 1) from rfl]; simp [rowV_up]
            rw [hC]
            refine ret_rows (J := upN J 0 (n' + 1 + 2 + 5)) (L := LL cs 1) ((RowsX.round R.out (by omega) (n' + 1 + 2 + 5) (n' + 1 + 2 + 6) kk (by omega) (by omega) _ _ _ rfl).set n (by omega) (fun j hj hl e => by have := hJ2.out j hj hl; omega) _) 80 fun H' hH' => ret_id ⟨fun x hx => ?_, ?_, ?_, rfl, rfl⟩
            · rw [hH' x fun j hj hl e => by have := hJ2.out j hj hl; omega]
              simp (disch := omega) only [upd_ne]
              exact hfr2.out x hx
            · simp only [below, belowL, rowF]
              refine ⟨⟨?_, ?_, ?_, ?_, ?_, trivial⟩, trivial, trivial⟩ <;> split <;> simp [below, belowL, below_int]
            · rw [ChPost, hf]
              exact ⟨LL cs 1, rfl⟩
          · have h1 := hmul.out
            repeat' (first | (refine ac_seq_h fun K hK => ?_) | (refine ac_region_h fun K hK => ?_; simp (disch := omega) [go_sem, *, wrap64_id, ilt_true, ilt_false]) | (apply Hide.out hK; clear hK K; try with_reducible dsimp only [thenA]) | (apply Hide.out hf; clear ht hf Kt Kf) | (refine ac_skip ?_; simp only [thenA, blockA]) | (with_reducible show nextK _ _ _ _ _ _ _; simp (disch := omega) [go_sem, *, upd_ne, ilt_true]) | (refine ac_cond_h fun Kt Kf ht hf => ?_; simp (disch := omega) [go_sem, *]; try (refine ⟨fun hc => ?_, fun hc => ?_⟩ <;> try (exfalso; omega))))
            refine round_end (by simp (disch := omega) [go_sem]) (Sub.refl _) ⟨1, _, upN J 0 (n' + 1 + 2 + 5), upN T 0 (List.replicate kk 0), _, by omega, by omega, RowsX.round R.out (by omega) (n' + 1 + 2 + 5) _ kk (by omega) (by omega) _ _ _ (by simp [rowV_up]), hJ2.out, fun j hj => by rw [upN_ne _ _ _ _ (by omega)]; exact hT.out j (by omega), fun x hx => by simp (disch := omega) only [upd_ne]; exact hfr2.out x hx, by simp (disch := omega) only [upd_ne]; exact hfn _ (by omega), by rw [← h1]; omega, rfl⟩ (by simp [intAt, go_sem])
        · have hrow := fun hl => R.row 1 (by omega) hl
          rw [hT.out 1 (by omega)] at hrow
          simp only [List.append_nil] at hrow
          have hll : (LL cs 1 1).length ≤ 2000 := by rw [LL_self]; have := length_askL (1 : Int) cs; show (askL (1 : Int) cs).length ≤ 2000; omega
          have hap := fun nm (b c : Bool) => ap_row (LL cs 1) J 1 H nm b c 0 hrow (by omega)
          have hcp : Cw.cpt (sortI (LL cs 1 1 ++ [0])) = numsP 1 cs := by rw [LL_self]; rfl
          have hlp : (numsP 1 cs).length ≤ 2001 := by have := length_numsP (1 : Int) cs; omega
          have hmul : lensP cs 1 * ((numsP 1 cs).length : Int) = lensP cs 2 := by simp [lensP]
          have hbd : 0 ≤ lensP cs 1 * ((numsP 1 cs).length : Int) ∧ lensP cs 1 * ((numsP 1 cs).length : Int) ≤ 20000 * 2001 := ⟨Int.mul_nonneg (by omega) (by omega), Int.mul_le_mul hP (by omega) (by omega) (by omega)⟩
          replace R : Hide _ := R
          replace hcp : Hide _ := hcp
          replace hmul : Hide _ := hmul
          replace hrow : Hide _ := hrow
          have hfx := fun nm (h1 : n' ≤ nm) => (apH_old (LL cs 1) J 1 H nm 0 (n + 2) (by omega) (fun hl e => R.out.ne 1 (by omega) hl e.symm)).trans hm
          have hfn := fun nm (h1 : n' ≤ nm) => (apH_old (LL cs 1) J 1 H nm 0 n (by omega) (fun hl e => by have := hJ.out 1 (by omega) hl; omega)).trans hres
          have sc0 := rowV_sc J (LL cs 1) 0
          have sc1 := rowV_sc J (LL cs 1) 1
          have sc2 := rowV_sc J (LL cs 1) 2
          have sc3 := rowV_sc J (LL cs 1) 3
          have sc4 := rowV_sc J (LL cs 1) 4
          simp only [AV.scalar] at sc0 sc1 sc2 sc3 sc4
          have hJ2 : ∀ j : Nat, j < 5 → LL cs 2 j ≠ [] → n + 2 < upN J 1 (n' + 1 + 2 + 5) j := fun j hj hl => by
            by_cases e : j = 1
            · subst e; rw [upN_same]; omega
            · rw [upN_ne _ _ _ _ e]
              refine hJ.out j hj ?_
              rw [show LL cs 2 = LL cs (1 + 1) from rfl, ← LL_up, upN_ne _ _ _ _ e] at hl; exact hl
          have hfr2 : ∀ x, x < n → apH (LL cs 1) J 1 H (n' + 1 + 2 + 5) 0 x = h x := fun x hx => by
            rw [apH_old _ _ _ _ _ _ _ (by omega) (fun hl e => by have := hJ.out 1 (by omega) hl; omega)]
            exact hfr.out x hx
          replace hJ2 : Hide _ := hJ2
          replace hfr2 : Hide _ := hfr2
          repeat' (first | (refine ac_seq_h fun K hK => ?_) | (refine ac_region_h fun K hK => ?_; simp (disch := omega) [go_sem, *, ilt_true, ile_true]) | (apply Hide.out hK; clear hK K; try with_reducible dsimp only [thenA]) | (apply Hide.out ht; clear ht hf Kt Kf) | (refine ac_block ?_) | (refine ac_skip ?_; simp only [thenA]) | (refine ac_cond_h fun Kt Kf ht hf => ?_; simp (disch := omega) [go_sem, *]; try (refine ⟨fun hc => ?_, fun hc => ?_⟩ <;> try (exfalso; omega))))
          refine .inl ((sort109 _ _ _ (LL cs 1 1 ++ [0]) _ (by simp) (by rw [upd_ne _ _ _ _ (by omega)]; exact apH_new _ _ _ _ _ _) (by omega)).mono fun r h2 n2 hp => ?_)
          obtain ⟨rfl, rfl, rfl⟩ := hp
          repeat' (first | (refine ac_seq_h fun K hK => ?_) | (refine ac_region_h fun K hK => ?_; simp (disch := omega) [go_sem, *, upd_ne, ilt_true, ile_true]) | (apply Hide.out hK; clear hK K; try with_reducible dsimp only [thenA]))
          refine .inl ((compact110 _ _ _ (sortI (LL cs 1 1 ++ [0])) _ (by simp [sortI]) (by rw [upd_same]) (by omega)).mono fun r h2 n2 hp => ?_)
          rw [hcp.out] at hp
          obtain ⟨rfl, rfl, rfl⟩ := hp
          have hlS : (sortI (LL cs 1 1 ++ [0])).length = (LL cs 1 1).length + 1 := by simp [sortI]
          rw [hlS]
          generalize (LL cs 1 1).length + 1 - (numsP 1 cs).length = kk
          generalize sortI (LL cs 1 1 ++ [0]) = S'
          clear hlS
          by_cases hbig : 20000 < lensP cs 1 * ((numsP 1 cs).length : Int)
          · skip
            repeat' (first | (refine ac_seq_h fun K hK => ?_) | (refine ac_region_h fun K hK => ?_; simp (disch := omega) [go_sem, *, wrap64_id, upd_ne, ilt_true, ile_true]) | (apply Hide.out hK; clear hK K; try with_reducible dsimp only [thenA]) | (apply Hide.out ht; clear ht hf Kt Kf) | (with_reducible show nextK _ _ _ _ _ _ _; simp (disch := omega) [go_sem, *, upd_ne, ilt_true, ile_true]) | (refine ac_cond_h fun Kt Kf ht hf => ?_; simp (disch := omega) [go_sem, *]; try (refine ⟨fun hc => ?_, fun hc => ?_⟩ <;> try (exfalso; omega))))
            have hf : fewP cs = false := by
              have h1 := hmul.out
              have h2 := lensP_mono cs 2 3
              simp only [fewP, decide_eq_false_iff_not, Int.not_le]
              rw [h1] at hbig
              exact Int.lt_of_lt_of_le hbig h2
            refine ac_ret ?_
            try dsimp only [thenA, blockA]
            refine ⟨by simp, _, (by first | rfl | (simp (disch := omega) [go_sem] <;> rfl)), ?_⟩
            have hC : [rowV J (LL cs 1) 0, .slc (n' + 1 + 2 + 5) 0 (numsP 1 cs).length 1, rowV J (LL cs 1) 2, rowV J (LL cs 1) 3, rowV J (LL cs 1) 4] = [rowV (upN J 1 (n' + 1 + 2 + 5)) (LL cs 2) 0, rowV (upN J 1 (n' + 1 + 2 + 5)) (LL cs 2) 1, rowV (upN J 1 (n' + 1 + 2 + 5)) (LL cs 2) 2, rowV (upN J 1 (n' + 1 + 2 + 5)) (LL cs 2) 3, rowV (upN J 1 (n' + 1 + 2 + 5)) (LL cs 2) 4] := by
              rw [show LL cs 2 = LL cs (1 + 1) from rfl]; simp [rowV_up]
            rw [hC]
            refine ret_rows (J := upN J 1 (n' + 1 + 2 + 5)) (L := LL cs 2) ((RowsX.round R.out (by omega) (n' + 1 + 2 + 5) (n' + 1 + 2 + 6) kk (by omega) (by omega) _ _ _ rfl).set n (by omega) (fun j hj hl e => by have := hJ2.out j hj hl; omega) _) 80 fun H' hH' => ret_id ⟨fun x hx => ?_, ?_, ?_, rfl, rfl⟩
            · rw [hH' x fun j hj hl e => by have := hJ2.out j hj hl; omega]
              simp (disch := omega) only [upd_ne]
              exact hfr2.out x hx
            · simp only [below, belowL, rowF]
              refine ⟨⟨?_, ?_, ?_, ?_, ?_, trivial⟩, trivial, trivial⟩ <;> split <;> simp [below, belowL, below_int]
            · rw [ChPost, hf]
              exact ⟨LL cs 2, rfl⟩
          · have h1 := hmul.out
            repeat' (first | (refine ac_seq_h fun K hK => ?_) | (refine ac_region_h fun K hK => ?_; simp (disch := omega) [go_sem, *, wrap64_id, ilt_true, ilt_false, ile_true]) | (apply Hide.out hK; clear hK K; try with_reducible dsimp only [thenA]) | (apply Hide.out hf; clear ht hf Kt Kf) | (refine ac_skip ?_; simp only [thenA, blockA]) | (with_reducible show nextK _ _ _ _ _ _ _; simp (disch := omega) [go_sem, *, upd_ne, ilt_true, ile_true]) | (refine ac_cond_h fun Kt Kf ht hf => ?_; simp (disch := omega) [go_sem, *]; try (refine ⟨fun hc => ?_, fun hc => ?_⟩ <;> try (exfalso; omega))))
            refine round_end (by simp (disch := omega) [go_sem]) (Sub.refl _) ⟨2, _, upN J 1 (n' + 1 + 2 + 5), upN T 1 (List.replicate kk 0), _, by omega, by omega, RowsX.round R.out (by omega) (n' + 1 + 2 + 5) _ kk (by omega) (by omega) _ _ _ (by simp [rowV_up]), hJ2.out, fun j hj => by rw [upN_ne _ _ _ _ (by omega)]; exact hT.out j (by omega), fun x hx => by simp (disch := omega) only [upd_ne]; exact hfr2.out x hx, by simp (disch := omega) only [upd_ne]; exact hfn _ (by omega), by rw [← h1]; omega, rfl⟩ (by simp [intAt, go_sem])
        · have hrow := fun hl => R.row 2 (by omega) hl
          rw [hT.out 2 (by omega)] at hrow
          simp only [List.append_nil] at hrow
          have hll : (LL cs 2 2).length ≤ 2000 := by rw [LL_self]; have := length_askL (2 : Int) cs; show (askL (2 : Int) cs).length ≤ 2000; omega
          have hap := fun nm (b c : Bool) => ap_row (LL cs 2) J 2 H nm b c 0 hrow (by omega)
          have hcp : Cw.cpt (sortI (LL cs 2 2 ++ [0])) = numsP 2 cs := by rw [LL_self]; rfl
          have hlp : (numsP 2 cs).length ≤ 2001 := by have := length_numsP (2 : Int) cs; omega
          have hmul : lensP cs 2 * ((numsP 2 cs).length : Int) = lensP cs 3 := by simp [lensP]
          have hbd : 0 ≤ lensP cs 2 * ((numsP 2 cs).length : Int) ∧ lensP cs 2 * ((numsP 2 cs).length : Int) ≤ 20000 * 2001 := ⟨Int.mul_nonneg (by omega) (by omega), Int.mul_le_mul hP (by omega) (by omega) (by omega)⟩
          replace R : Hide _ := R
          replace hcp : Hide _ := hcp
          replace hmul : Hide _ := hmul
          replace hrow : Hide _ := hrow
          have hfx := fun nm (h1 : n' ≤ nm) => (apH_old (LL cs 2) J 2 H nm 0 (n + 2) (by omega) (fun hl e => R.out.ne 2 (by omega) hl e.symm)).trans hm
          have hfn := fun nm (h1 : n' ≤ nm) => (apH_old (LL cs 2) J 2 H nm 0 n (by omega) (fun hl e => by have := hJ.out 2 (by omega) hl; omega)).trans hres
          have sc0 := rowV_sc J (LL cs 2) 0
          have sc1 := rowV_sc J (LL cs 2) 1
          have sc2 := rowV_sc J (LL cs 2) 2
          have sc3 := rowV_sc J (LL cs 2) 3
          have sc4 := rowV_sc J (LL cs 2) 4
          simp only [AV.scalar] at sc0 sc1 sc2 sc3 sc4
          have hJ2 : ∀ j : Nat, j < 5 → LL cs 3 j ≠ [] → n + 2 < upN J 2 (n' + 1 + 2 + 5) j := fun j hj hl => by
            by_cases e : j = 2
            · subst e; rw [upN_same]; omega
            · rw [upN_ne _ _ _ _ e]
              refine hJ.out j hj ?_
              rw [show LL cs 3 = LL cs (2 + 1) from rfl, ← LL_up, upN_ne _ _ _ _ e] at hl; exact hl
          have hfr2 : ∀ x, x < n → apH (LL cs 2) J 2 H (n' + 1 + 2 + 5) 0 x = h x := fun x hx => by
            rw [apH_old _ _ _ _ _ _ _ (by omega) (fun hl e => by have := hJ.out 2 (by omega) hl; omega)]
            exact hfr.out x hx
          replace hJ2 : Hide _ := hJ2
          replace hfr2 : Hide _ := hfr2
          repeat' (first | (refine ac_seq_h fun K hK => ?_) | (refine ac_region_h fun K hK => ?_; simp (disch := omega) [go_sem, *, ilt_true, ile_true]) | (apply Hide.out hK; clear hK K; try with_reducible dsimp only [thenA]) | (apply Hide.out ht; clear ht hf Kt Kf) | (refine ac_block ?_) | (refine ac_skip ?_; simp only [thenA]) | (refine ac_cond_h fun Kt Kf ht hf => ?_; simp (disch := omega) [go_sem, *]; try (refine ⟨fun hc => ?_, fun hc => ?_⟩ <;> try (exfalso; omega))))
          refine .inl ((sort109 _ _ _ (LL cs 2 2 ++ [0]) _ (by simp) (by rw [upd_ne _ _ _ _ (by omega)]; exact apH_new _ _ _ _ _ _) (by omega)).mono fun r h2 n2 hp => ?_)
          obtain ⟨rfl, rfl, rfl⟩ := hp
          repeat' (first | (refine ac_seq_h fun K hK => ?_) | (refine ac_region_h fun K hK => ?_; simp (disch := omega) [go_sem, *, upd_ne, ilt_true, ile_true]) | (apply Hide.out hK; clear hK K; try with_reducible dsimp only [thenA]))
          refine .inl ((compact110 _ _ _ (sortI (LL cs 2 2 ++ [0])) _ (by simp [sortI]) (by rw [upd_same]) (by omega)).mono fun r h2 n2 hp => ?_)
          rw [hcp.out] at hp
          obtain ⟨rfl, rfl, rfl⟩ := hp
          have hlS : (sortI (LL cs 2 2 ++ [0])).length = (LL cs 2 2).length + 1 := by simp [sortI]
          rw [hlS]
          generalize (LL cs 2 2).length + 1 - (numsP 2 cs).length = kk
          generalize sortI (LL cs 2 2 ++ [0]) = S'
          clear hlS
          by_cases hbig : 20000 < lensP cs 2 * ((numsP 2 cs).length : Int)
          · skip
            repeat' (first | (refine ac_seq_h fun K hK => ?_) | (refine ac_region_h fun K hK => ?_; simp (disch := omega) [go_sem, *, wrap64_id, upd_ne, ilt_true, ile_true]) | (apply Hide.out hK; clear hK K; try with_reducible dsimp only [thenA]) | (apply Hide.out ht; clear ht hf Kt Kf) | (with_reducible show nextK _ _ _ _ _ _ _; simp (disch := omega) [go_sem, *, upd_ne, ilt_true, ile_true]) | (refine ac_cond_h fun Kt Kf ht hf => ?_; simp (disch := omega) [go_sem, *]; try (refine ⟨fun hc => ?_, fun hc => ?_⟩ <;> try (exfalso; omega))))
            have hf : fewP cs = false := by
              have h1 := hmul.out
              have h2 := lensP_mono cs 3 2
              simp only [fewP, decide_eq_false_iff_not, Int.not_le]
              rw [h1] at hbig
              exact Int.lt_of_lt_of_le hbig h2
            refine ac_ret ?_
            try dsimp only [thenA, blockA]
            refine ⟨by simp, _, (by first | rfl | (simp (disch := omega) [go_sem] <;> rfl)), ?_⟩
            have hC : [rowV J (LL cs 2) 0, rowV J (LL cs 2) 1, .slc (n' + 1 + 2 + 5) 0 (numsP 2 cs).length 1, rowV J (LL cs 2) 3, rowV J (LL cs 2) 4] = [rowV (upN J 2 (n' + 1 + 2 + 5)) (LL cs 3) 0, rowV (upN J 2 (n' + 1 + 2 + 5)) (LL cs 3) 1, rowV (upN J 2 (n' + 1 + 2 + 5)) (LL cs 3) 2, rowV (upN J 2 (n' + 1 + 2 + 5)) (LL cs 3) 3, rowV (upN J 2 (n' + 1 + 2 + 5)) (LL cs 3) 4] := by
              rw [show LL cs 3 = LL cs (2 + 1) from rfl]; simp [rowV_up]
            rw [hC]
            refine ret_rows (J := upN J 2 (n' + 1 + 2 + 5)) (L := LL cs 3) ((RowsX.round R.out (by omega) (n' + 1 + 2 + 5) (n' + 1 + 2 + 6) kk (by omega) (by omega) _ _ _ rfl).set n (by omega) (fun j hj hl e => by have := hJ2.out j hj hl; omega) _) 80 fun H' hH' => ret_id ⟨fun x hx => ?_, ?_, ?_, rfl, rfl⟩
            · rw [hH' x fun j hj hl e => by have := hJ2.out j hj hl; omega]
              simp (disch := omega) only [upd_ne]
              exact hfr2.out x hx
            · simp only [below, belowL, rowF]
              refine ⟨⟨?_, ?_, ?_, ?_, ?_, trivial⟩, trivial, trivial⟩ <;> split <;> simp [below, belowL, below_int]
            · rw [ChPost, hf]
              exact ⟨LL cs 3, rfl⟩
          · have h1 := hmul.out
            repeat' (first | (refine ac_seq_h fun K hK => ?_) | (refine ac_region_h fun K hK => ?_; simp (disch := omega) [go_sem, *, wrap64_id, ilt_true, ilt_false, ile_true]) | (apply Hide.out hK; clear hK K; try with_reducible dsimp only [thenA]) | (apply Hide.out hf; clear ht hf Kt Kf) | (refine ac_skip ?_; simp only [thenA, blockA]) | (with_reducible show nextK _ _ _ _ _ _ _; simp (disch := omega) [go_sem, *, upd_ne, ilt_true, ile_true]) | (refine ac_cond_h fun Kt Kf ht hf => ?_; simp (disch := omega) [go_sem, *]; try (refine ⟨fun hc => ?_, fun hc => ?_⟩ <;> try (exfalso; omega))))
            refine round_end (by simp (disch := omega) [go_sem]) (Sub.refl _) ⟨3, _, upN J 2 (n' + 1 + 2 + 5), upN T 2 (List.replicate kk 0), _, by omega, by omega, RowsX.round R.out (by omega) (n' + 1 + 2 + 5) _ kk (by omega) (by omega) _ _ _ (by simp [rowV_up]), hJ2.out, fun j hj => by rw [upN_ne _ _ _ _ (by omega)]; exact hT.out j (by omega), fun x hx => by simp (disch := omega) only [upd_ne]; exact hfr2.out x hx, by simp (disch := omega) only [upd_ne]; exact hfn _ (by omega), by rw [← h1]; omega, rfl⟩ (by simp [intAt, go_sem])
        · have hrow := fun hl => R.row 3 (by omega) hl
          rw [hT.out 3 (by omega)] at hrow
          simp only [List.append_nil] at hrow
          have hll : (LL cs 3 3).length ≤ 2000 := by rw [LL_self]; have := length_askL (3 : Int) cs; show (askL (3 : Int) cs).length ≤ 2000; omega
          have hap := fun nm (b c : Bool) => ap_row (LL cs 3) J 3 H nm b c 0 hrow (by omega)
          have hcp : Cw.cpt (sortI (LL cs 3 3 ++ [0])) = numsP 3 cs := by rw [LL_self]; rfl
          have hlp : (numsP 3 cs).length ≤ 2001 := by have := length_numsP (3 : Int) cs; omega
          have hmul : lensP cs 3 * ((numsP 3 cs).length : Int) = lensP cs 4 := by simp [lensP]
          have hbd : 0 ≤ lensP cs 3 * ((numsP 3 cs).length : Int) ∧ lensP cs 3 * ((numsP 3 cs).length : Int) ≤ 20000 * 2001 := ⟨Int.mul_nonneg (by omega) (by omega), Int.mul_le_mul hP (by omega) (by omega) (by omega)⟩
          replace R : Hide _ := R
          replace hcp : Hide _ := hcp
          replace hmul : Hide _ := hmul
          replace hrow : Hide _ := hrow
          have hfx := fun nm (h1 : n' ≤ nm) => (apH_old (LL cs 3) J 3 H nm 0 (n + 2) (by omega) (fun hl e => R.out.ne 3 (by omega) hl e.symm)).trans hm
          have hfn := fun nm (h1 : n' ≤ nm) => (apH_old (LL cs 3) J 3 H nm 0 n (by omega) (fun hl e => by have := hJ.out 3 (by omega) hl; omega)).trans hres
          have sc0 := rowV_sc J (LL cs 3) 0
          have sc1 := rowV_sc J (LL cs 3) 1
          have sc2 := rowV_sc J (LL cs 3) 2
          have sc3 := rowV_sc J (LL cs 3) 3
          have sc4 := rowV_sc J (LL cs 3) 4
          simp only [AV.scalar] at sc0 sc1 sc2 sc3 sc4
          have hJ2 : ∀ j : Nat, j < 5 → LL cs 4 j ≠ [] → n + 2 < upN J 3 (n' + 1 + 2 + 5) j := fun j hj hl => by
            by_cases e : j = 3
            · subst e; rw [upN_same]; omega
            · rw [upN_ne _ _ _ _ e]
              refine hJ.out j hj ?_
              rw [show LL cs 4 = LL cs (3 + 1) from rfl, ← LL_up, upN_ne _ _ _ _ e] at hl; exact hl
          have hfr2 : ∀ x, x < n → apH (LL cs 3) J 3 H (n' + 1 + 2 + 5) 0 x = h x := fun x hx => by
            rw [apH_old _ _ _ _ _ _ _ (by omega) (fun hl e => by have := hJ.out 3 (by omega) hl; omega)]
            exact hfr.out x hx
          replace hJ2 : Hide _ := hJ2
          replace hfr2 : Hide _ := hfr2
          repeat' (first | (refine ac_seq_h fun K hK => ?_) | (refine ac_region_h fun K hK => ?_; simp (disch := omega) [go_sem, *, ilt_true, ile_true]) | (apply Hide.out hK; clear hK K; try with_reducible dsimp only [thenA]) | (apply Hide.out ht; clear ht hf Kt Kf) | (refine ac_block ?_) | (refine ac_skip ?_; simp only [thenA]) | (refine ac_cond_h fun Kt Kf ht hf => ?_; simp (disch := omega) [go_sem, *]; try (refine ⟨fun hc => ?_, fun hc => ?_⟩ <;> try (exfalso; omega))))
          refine .inl ((sort109 _ _ _ (LL cs 3 3 ++ [0]) _ (by simp) (by rw [upd_ne _ _ _ _ (by omega)]; exact apH_new _ _ _ _ _ _) (by omega)).mono fun r h2 n2 hp => ?_)
          obtain ⟨rfl, rfl, rfl⟩ := hp
          repeat' (first | (refine ac_seq_h fun K hK => ?_) | (refine ac_region_h fun K hK => ?_; simp (disch := omega) [go_sem, *, upd_ne, ilt_true, ile_true]) | (apply Hide.out hK; clear hK K; try with_reducible dsimp only [thenA]))
          refine .inl ((compact110 _ _ _ (sortI (LL cs 3 3 ++ [0])) _ (by simp [sortI]) (by rw [upd_same]) (by omega)).mono fun r h2 n2 hp => ?_)
          rw [hcp.out] at hp
          obtain ⟨rfl, rfl, rfl⟩ := hp
          have hlS : (sortI (LL cs 3 3 ++ [0])).length = (LL cs 3 3).length + 1 := by simp [sortI]
          rw [hlS]
          generalize (LL cs 3 3).length + 1 - (numsP 3 cs).length = kk
          generalize sortI (LL cs 3 3 ++ [0]) = S'
          clear hlS
          by_cases hbig : 20000 < lensP cs 3 * ((numsP 3 cs).length : Int)
          · skip
            repeat' (first | (refine ac_seq_h fun K hK => ?_) | (refine ac_region_h fun K hK => ?_; simp (disch := omega) [go_sem, *, wrap64_id, upd_ne, ilt_true, ile_true]) | (apply Hide.out hK; clear hK K; try with_reducible dsimp only [thenA]) | (apply Hide.out ht; clear ht hf Kt Kf) | (with_reducible show nextK _ _ _ _ _ _ _; simp (disch := omega) [go_sem, *, upd_ne, ilt_true, ile_true]) | (refine ac_cond_h fun Kt Kf ht hf => ?_; simp (disch := omega) [go_sem, *]; try (refine ⟨fun hc => ?_, fun hc => ?_⟩ <;> try (exfalso; omega))))
            have hf : fewP cs = false := by
              have h1 := hmul.out
              have h2 := lensP_mono cs 4 1
              simp only [fewP, decide_eq_false_iff_not, Int.not_le]
              rw [h1] at hbig
              exact Int.lt_of_lt_of_le hbig h2
            refine ac_ret ?_
            try dsimp only [thenA, blockA]
            refine ⟨by simp, _, (by first | rfl | (simp (disch := omega) [go_sem] <;> rfl)), ?_⟩
            have hC : [rowV J (LL cs 3) 0, rowV J (LL cs 3) 1, rowV J (LL cs 3) 2, .slc (n' + 1 + 2 + 5) 0 (numsP 3 cs).length 1, rowV J (LL cs 3) 4] = [rowV (upN J 3 (n' + 1 + 2 + 5)) (LL cs 4) 0, rowV (upN J 3 (n' + 1 + 2 + 5)) (LL cs 4) 1, rowV (upN J 3 (n' + 1 + 2 + 5)) (LL cs 4) 2, rowV (upN J 3 (n' + 1 + 2 + 5)) (LL cs 4) 3, rowV (upN J 3 (n' + 1 + 2 + 5)) (LL cs 4) 4] := by
              rw [show LL cs 4 = LL cs (3 + 1) from rfl]; simp [rowV_up]
            rw [hC]
            refine ret_rows (J := upN J 3 (n' + 1 + 2 + 5)) (L := LL cs 4) ((RowsX.round R.out (by omega) (n' + 1 + 2 + 5) (n' + 1 + 2 + 6) kk (by omega) (by omega) _ _ _ rfl).set n (by omega) (fun j hj hl e => by have := hJ2.out j hj hl; omega) _) 80 fun H' hH' => ret_id ⟨fun x hx => ?_, ?_, ?_, rfl, rfl⟩
            · rw [hH' x fun j hj hl e => by have := hJ2.out j hj hl; omega]
              simp (disch := omega) only [upd_ne]
              exact hfr2.out x hx
            · simp only [below, belowL, rowF]
              refine ⟨⟨?_, ?_, ?_, ?_, ?_, trivial⟩, trivial, trivial⟩ <;> split <;> simp [below, belowL, below_int]
            · rw [ChPost, hf]
              exact ⟨LL cs 4, rfl⟩
          · have h1 := hmul.out
            repeat' (first | (refine ac_seq_h fun K hK => ?_) | (refine ac_region_h fun K hK => ?_; simp (disch := omega) [go_sem, *, wrap64_id, ilt_true, ilt_false, ile_true]) | (apply Hide.out hK; clear hK K; try with_reducible dsimp only [thenA]) | (apply Hide.out hf; clear ht hf Kt Kf) | (refine ac_skip ?_; simp only [thenA, blockA]) | (with_reducible show nextK _ _ _ _ _ _ _; simp (disch := omega) [go_sem, *, upd_ne, ilt_true, ile_true]) | (refine ac_cond_h fun Kt Kf ht hf => ?_; simp (disch := omega) [go_sem, *]; try (refine ⟨fun hc => ?_, fun hc => ?_⟩ <;> try (exfalso; omega))))
            refine round_end (by simp (disch := omega) [go_sem]) (Sub.refl _) ⟨4, _, upN J 3 (n' + 1 + 2 + 5), upN T 3 (List.replicate kk 0), _, by omega, by omega, RowsX.round R.out (by omega) (n' + 1 + 2 + 5) _ kk (by omega) (by omega) _ _ _ (by simp [rowV_up]), hJ2.out, fun j hj => by rw [upN_ne _ _ _ _ (by omega)]; exact hT.out j (by omega), fun x hx => by simp (disch := omega) only [upd_ne]; exact hfr2.out x hx, by simp (disch := omega) only [upd_ne]; exact hfn _ (by omega), by rw [← h1]; omega, rfl⟩ (by simp [intAt, go_sem])
        · have hrow := fun hl => R.row 4 (by omega) hl
          rw [hT.out 4 (by omega)] at hrow
          simp only [List.append_nil] at hrow
          have hll : (LL cs 4 4).length ≤ 2000 := by rw [LL_self]; have := length_askL (4 : Int) cs; show (askL (4 : Int) cs).length ≤ 2000; omega
          have hap := fun nm (b c : Bool) => ap_row (LL cs 4) J 4 H nm b c 0 hrow (by omega)
          have hcp : Cw.cpt (sortI (LL cs 4 4 ++ [0])) = numsP 4 cs := by rw [LL_self]; rfl
          have hlp : (numsP 4 cs).length ≤ 2001 := by have := length_numsP (4 : Int) cs; omega
          have hmul : lensP cs 4 * ((numsP 4 cs).length : Int) = lensP cs 5 := by simp [lensP]
          have hbd : 0 ≤ lensP cs 4 * ((numsP 4 cs).length : Int) ∧ lensP cs 4 * ((numsP 4 cs).length : Int) ≤ 20000 * 2001 := ⟨Int.mul_nonneg (by omega) (by omega), Int.mul_le_mul hP (by omega) (by omega) (by omega)⟩
          replace R : Hide _ := R
          replace hcp : Hide _ := hcp
          replace hmul : Hide _ := hmul
          replace hrow : Hide _ := hrow
          have hfx := fun nm (h1 : n' ≤ nm) => (apH_old (LL cs 4) J 4 H nm 0 (n + 2) (by omega) (fun hl e => R.out.ne 4 (by omega) hl e.symm)).trans hm
          have hfn := fun nm (h1 : n' ≤ nm) => (apH_old (LL cs 4) J 4 H nm 0 n (by omega) (fun hl e => by have := hJ.out 4 (by omega) hl; omega)).trans hres
          have sc0 := rowV_sc J (LL cs 4) 0
          have sc1 := rowV_sc J (LL cs 4) 1
          have sc2 := rowV_sc J (LL cs 4) 2
          have sc3 := rowV_sc J (LL cs 4) 3
          have sc4 := rowV_sc J (LL cs 4) 4
          simp only [AV.scalar] at sc0 sc1 sc2 sc3 sc4
          have hJ2 : ∀ j : Nat, j < 5 → LL cs 5 j ≠ [] → n + 2 < upN J 4 (n' + 1 + 2 + 5) j := fun j hj hl => by
            by_cases e : j = 4
            · subst e; rw [upN_same]; omega
            · rw [upN_ne _ _ _ _ e]
              refine hJ.out j hj ?_
              rw [show LL cs 5 = LL cs (4 + 1) from rfl, ← LL_up, upN_ne _ _ _ _ e] at hl; exact hl
          have hfr2 : ∀ x, x < n → apH (LL cs 4) J 4 H (n' + 1 + 2 + 5) 0 x = h x := fun x hx => by
            rw [apH_old _ _ _ _ _ _ _ (by omega) (fun hl e => by have := hJ.out 4 (by omega) hl; omega)]
            exact hfr.out x hx
          replace hJ2 : Hide _ := hJ2
          replace hfr2 : Hide _ := hfr2
          repeat' (first | (refine ac_seq_h fun K hK => ?_) | (refine ac_region_h fun K hK => ?_; simp (disch := omega) [go_sem, *, ilt_true, ile_true]) | (apply Hide.out hK; clear hK K; try with_reducible dsimp only [thenA]) | (apply Hide.out ht; clear ht hf Kt Kf) | (refine ac_block ?_) | (refine ac_skip ?_; simp only [thenA]) | (refine ac_cond_h fun Kt Kf ht hf => ?_; simp (disch := omega) [go_sem, *]; try (refine ⟨fun hc => ?_, fun hc => ?_⟩ <;> try (exfalso; omega))))
          refine .inl ((sort109 _ _ _ (LL cs 4 4 ++ [0]) _ (by simp) (by rw [upd_ne _ _ _ _ (by omega)]; exact apH_new _ _ _ _ _ _) (by omega)).mono fun r h2 n2 hp => ?_)
          obtain ⟨rfl, rfl, rfl⟩ := hp
          repeat' (first | (refine ac_seq_h fun K hK => ?_) | (refine ac_region_h fun K hK => ?_; simp (disch := omega) [go_sem, *, upd_ne, ilt_true, ile_true]) | (apply Hide.out hK; clear hK K; try with_reducible dsimp only [thenA]))
          refine .inl ((compact110 _ _ _ (sortI (LL cs 4 4 ++ [0])) _ (by simp [sortI]) (by rw [upd_same]) (by omega)).mono fun r h2 n2 hp => ?_)
          rw [hcp.out] at hp
          obtain ⟨rfl, rfl, rfl⟩ := hp
          have hlS : (sortI (LL cs 4 4 ++ [0])).length = (LL cs 4 4).length + 1 := by simp [sortI]
          rw [hlS]
          generalize (LL cs 4 4).length + 1 - (numsP 4 cs).length = kk
          generalize sortI (LL cs 4 4 ++ [0]) = S'
          clear hlS
          by_cases hbig : 20000 < lensP cs 4 * ((numsP 4 cs).length : Int)
          · skip
            repeat' (first | (refine ac_seq_h fun K hK => ?_) | (refine ac_region_h fun K hK => ?_; simp (disch := omega) [go_sem, *, wrap64_id, upd_ne, ilt_true, ile_true]) | (apply Hide.out hK; clear hK K; try with_reducible dsimp only [thenA]) | (apply Hide.out ht; clear ht hf Kt Kf) | (with_reducible show nextK _ _ _ _ _ _ _; simp (disch := omega) [go_sem, *, upd_ne, ilt_true, ile_true]) | (refine ac_cond_h fun Kt Kf ht hf => ?_; simp (disch := omega) [go_sem, *]; try (refine ⟨fun hc => ?_, fun hc => ?_⟩ <;> try (exfalso; omega))))
            have hf : fewP cs = false := by
              have h1 := hmul.out
              have h2 := lensP_mono cs 5 0
              simp only [fewP, decide_eq_false_iff_not, Int.not_le]
              rw [h1] at hbig
              exact Int.lt_of_lt_of_le hbig h2
            refine ac_ret ?_
            try dsimp only [thenA, blockA]
            refine ⟨by simp, _, (by first | rfl | (simp (disch := omega) [go_sem] <;> rfl)), ?_⟩
            have hC : [rowV J (LL cs 4) 0, rowV J (LL cs 4) 1, rowV J (LL cs 4) 2, rowV J (LL cs 4) 3, .slc (n' + 1 + 2 + 5) 0 (numsP 4 cs).length 1] = [rowV (upN J 4 (n' + 1 + 2 + 5)) (LL cs 5) 0, rowV (upN J 4 (n' + 1 + 2 + 5)) (LL cs 5) 1, rowV (upN J 4 (n' + 1 + 2 + 5)) (LL cs 5) 2, rowV (upN J 4 (n' + 1 + 2 + 5)) (LL cs 5) 3, rowV (upN J 4 (n' + 1 + 2 + 5)) (LL cs 5) 4] := by
              rw [show LL cs 5 = LL cs (4 + 1) from rfl]; simp [rowV_up]
            rw [hC]
            refine ret_rows (J := upN J 4 (n' + 1 + 2 + 5)) (L := LL cs 5) ((RowsX.round R.out (by omega) (n' + 1 + 2 + 5) (n' + 1 + 2 + 6) kk (by omega) (by omega) _ _ _ rfl).set n (by omega) (fun j hj hl e => by have := hJ2.out j hj hl; omega) _) 80 fun H' hH' => ret_id ⟨fun x hx => ?_, ?_, ?_, rfl, rfl⟩
            · rw [hH' x fun j hj hl e => by have := hJ2.out j hj hl; omega]
              simp (disch := omega) only [upd_ne]
              exact hfr2.out x hx
            · simp only [below, belowL, rowF]
              refine ⟨⟨?_, ?_, ?_, ?_, ?_, trivial⟩, trivial, trivial⟩ <;> split <;> simp [below, belowL, below_int]
            · rw [ChPost, hf]
              exact ⟨LL cs 5, rfl⟩
          · have h1 := hmul.out
            repeat' (first | (refine ac_seq_h fun K hK => ?_) | (refine ac_region_h fun K hK => ?_; simp (disch := omega) [go_sem, *, wrap64_id, ilt_true, ilt_false, ile_true]) | (apply Hide.out hK; clear hK K; try with_reducible dsimp only [thenA]) | (apply Hide.out hf; clear ht hf Kt Kf) | (refine ac_skip ?_; simp only [thenA, blockA]) | (with_reducible show nextK _ _ _ _ _ _ _; simp (disch := omega) [go_sem, *, upd_ne, ilt_true, ile_true]) | (refine ac_cond_h fun Kt Kf ht hf => ?_; simp (disch := omega) [go_sem, *]; try (refine ⟨fun hc => ?_, fun hc => ?_⟩ <;> try (exfalso; omega))))
            refine round_end (by simp (disch := omega) [go_sem]) (Sub.refl _) ⟨5, _, upN J 4 (n' + 1 + 2 + 5), upN T 4 (List.replicate kk 0), _, by omega, by omega, RowsX.round R.out (by omega) (n' + 1 + 2 + 5) _ kk (by omega) (by omega) _ _ _ (by simp [rowV_up]), hJ2.out, fun j hj => by rw [upN_ne _ _ _ _ (by omega)]; exact hT.out j (by omega), fun x hx => by simp (disch := omega) only [upd_ne]; exact hfr2.out x hx, by simp (disch := omega) only [upd_ne]; exact hfn _ (by omega), by rw [← h1]; omega, rfl⟩ (by simp [intAt, go_sem])
        · have sc0 := rowV_sc J (LL cs 5) 0
          have sc1 := rowV_sc J (LL cs 5) 1
          have sc2 := rowV_sc J (LL cs 5) 2
          have sc3 := rowV_sc J (LL cs 5) 3
          have sc4 := rowV_sc J (LL cs 5) 4
          simp only [AV.scalar] at sc0 sc1 sc2 sc3 sc4
          replace R : Hide _ := R
          repeat' (first | (refine ac_seq_h fun K hK => ?_) | (refine ac_region_h fun K hK => ?_; simp (disch := omega) [go_sem, *]) | (apply Hide.out hK; clear hK K; try with_reducible dsimp only [thenA]) | (apply Hide.out hf; clear ht hf Kt Kf) | (clear hK K; apply Hide.out hK; clear hK K; try with_reducible dsimp only [thenA]) | (refine ac_exit ?_; simp only [thenA, blockA, if_true]) | (refine ac_cond_h fun Kt Kf ht hf => ?_; simp (disch := omega) [go_sem, *]; try (refine ⟨fun hc => ?_, fun hc => ?_⟩ <;> try (exfalso; omega))))
          have hf : fewP cs = true := by simp only [fewP, decide_eq_true_eq]; exact hP
          refine ac_ret ?_
          try dsimp only [thenA, blockA]
          refine ⟨by simp, _, (by first | rfl | (simp (disch := omega) [go_sem] <;> rfl)), ?_⟩
          refine ret_rows (J := J) (L := LL cs 5) (R.out.set n (by omega) (fun j hj hl e => by have := hJ.out j hj hl; omega) _) 0 fun H' hH' => ?_
          have e5 : ∀ j : Nat, j < 5 → rowF (LL cs 5 j) = encI (numsP (j : Int) cs) := fun j hj => by rw [LL, if_pos hj, rowF, if_neg (numsP_ne _ _)]
          rw [e5 0 (by omega), e5 1 (by omega), e5 2 (by omega), e5 3 (by omega), e5 4 (by omega)]
          refine ret_id ⟨fun x hx => ?_, ?_, ?_, rfl, rfl⟩
          · rw [hH' x fun j hj hl e => by have := hJ.out j hj hl; omega]
            simp (disch := omega) only [upd_ne]
            exact hfr.out x hx
          · simp [below, belowL, below_int]
          · rw [ChPost, hf]; rfl
end Go.AM
