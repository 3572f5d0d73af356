/- The numbers of conditions, and their choices, as plain data; appends. Conditions: as each theorem says. -/
import Derived.Test.YtbpbgiedemkciaaGreatDoorCa
namespace Go.AM
open Go.Proofs
@[go_sem] theorem lay49 : lay Tryz.prog 49 = some (1, false) := by kernel_rfl
@[go_sem] theorem szOf49 : szOf Tryz.prog 49 = some 1 := by kernel_rfl
@[go_sem] theorem byOf49 : byOf Tryz.prog 49 = some 24 := by kernel_rfl
@[go_sem] theorem zerOf49 : zerOf Tryz.prog 49 = some (.fslc true true 0 []) := by kernel_rfl
@[go_sem] theorem eltOf49 : eltOf Tryz.prog 49 = some 3 := by kernel_rfl
@[go_sem] theorem kdOf49 : kdOf Tryz.prog 49 = .slice 3 := by kernel_rfl
@[go_sem] theorem lenK49 : lenK Tryz.prog 49 = .slice := by kernel_rfl
@[go_sem] theorem lay92 : lay Tryz.prog 92 = some (1, false) := by kernel_rfl
@[go_sem] theorem szOf92 : szOf Tryz.prog 92 = some 1 := by kernel_rfl
@[go_sem] theorem byOf92 : byOf Tryz.prog 92 = some 8 := by kernel_rfl
@[go_sem] theorem zerOf92 : zerOf Tryz.prog 92 = some (.c .nilFunc) := by kernel_rfl
@[go_sem] theorem kdOf92 : kdOf Tryz.prog 92 = .fn := by kernel_rfl
@[go_sem] theorem lay95 : lay Tryz.prog 95 = some (1, false) := by kernel_rfl
@[go_sem] theorem szOf95 : szOf Tryz.prog 95 = some 1 := by kernel_rfl
@[go_sem] theorem byOf95 : byOf Tryz.prog 95 = some 8 := by kernel_rfl
@[go_sem] theorem zerOf95 : zerOf Tryz.prog 95 = some (.c .nilFunc) := by kernel_rfl
@[go_sem] theorem kdOf95 : kdOf Tryz.prog 95 = .fn := by kernel_rfl
@[go_sem] theorem lay99 : lay Tryz.prog 99 = some (5, true) := by kernel_rfl
@[go_sem] theorem szOf99 : szOf Tryz.prog 99 = some 5 := by kernel_rfl
@[go_sem] theorem byOf99 : byOf Tryz.prog 99 = some 120 := by kernel_rfl
@[go_sem] theorem zerOf99 : zerOf Tryz.prog 99 = some (.agg [.fslc true true 0 [], .fslc true true 0 [], .fslc true true 0 [], .fslc true true 0 [], .fslc true true 0 []]) := by kernel_rfl
@[go_sem] theorem lay107 : lay Tryz.prog 107 = some (1, true) := by kernel_rfl
@[go_sem] theorem szOf107 : szOf Tryz.prog 107 = some 1 := by kernel_rfl
@[go_sem] theorem byOf107 : byOf Tryz.prog 107 = some 24 := by kernel_rfl
@[go_sem] theorem zerOf107 : zerOf Tryz.prog 107 = some (.agg [.fslc true true 0 []]) := by kernel_rfl
@[go_sem] theorem fldOf107_0 : fldOf Tryz.prog 107 0 = some (0, 1) := by kernel_rfl
@[go_sem] theorem sizesOk107 : sizesOk Tryz.prog 107 = true := by kernel_rfl
@[go_sem] theorem lay108 : lay Tryz.prog 108 = some (5, true) := by kernel_rfl
@[go_sem] theorem szOf108 : szOf Tryz.prog 108 = some 5 := by kernel_rfl
@[go_sem] theorem byOf108 : byOf Tryz.prog 108 = some 120 := by kernel_rfl
@[go_sem] theorem zerOf108 : zerOf Tryz.prog 108 = some (.agg [.fslc true true 0 [], .fslc true true 0 [], .fslc true true 0 [], .fslc true true 0 [], .fslc true true 0 []]) := by kernel_rfl
@[go_sem] theorem lay110 : lay Tryz.prog 110 = some (5, true) := by kernel_rfl
@[go_sem] theorem szOf110 : szOf Tryz.prog 110 = some 5 := by kernel_rfl
@[go_sem] theorem byOf110 : byOf Tryz.prog 110 = some 120 := by kernel_rfl
@[go_sem] theorem zerOf110 : zerOf Tryz.prog 110 = some (.agg [.fslc true true 0 [], .fslc true true 0 [], .fslc true true 0 [], .fslc true true 0 [], .fslc true true 0 []]) := by kernel_rfl
@[go_sem] theorem fldOf110_0 : fldOf Tryz.prog 110 0 = some (0, 5) := by kernel_rfl
@[go_sem] theorem sizesOk110 : sizesOk Tryz.prog 110 = true := by kernel_rfl
@[go_sem] theorem lay172 : lay Tryz.prog 172 = some (1, false) := by kernel_rfl
@[go_sem] theorem szOf172 : szOf Tryz.prog 172 = some 1 := by kernel_rfl
@[go_sem] theorem byOf172 : byOf Tryz.prog 172 = some 8 := by kernel_rfl
@[go_sem] theorem zerOf172 : zerOf Tryz.prog 172 = some (.c (.pointer none)) := by kernel_rfl
@[go_sem] theorem kdOf172 : kdOf Tryz.prog 172 = .ptr 99 := by kernel_rfl
@[go_sem] theorem lay175 : lay Tryz.prog 175 = some (1, false) := by kernel_rfl
@[go_sem] theorem szOf175 : szOf Tryz.prog 175 = some 1 := by kernel_rfl
@[go_sem] theorem byOf175 : byOf Tryz.prog 175 = some 8 := by kernel_rfl
@[go_sem] theorem zerOf175 : zerOf Tryz.prog 175 = some (.c .nilFunc) := by kernel_rfl
@[go_sem] theorem kdOf175 : kdOf Tryz.prog 175 = .fn := by kernel_rfl
@[go_sem] theorem typed49 : (@Vars.typed Go.Proofs.SAN.vars).contains 49 = false := by kernel_rfl
@[go_sem] theorem nt49 : ¬ (49 ∈ (@Vars.typed Go.Proofs.SAN.vars)) := by decide
@[go_sem] theorem typed92 : (@Vars.typed Go.Proofs.SAN.vars).contains 92 = false := by kernel_rfl
@[go_sem] theorem nt92 : ¬ (92 ∈ (@Vars.typed Go.Proofs.SAN.vars)) := by decide
@[go_sem] theorem typed95 : (@Vars.typed Go.Proofs.SAN.vars).contains 95 = false := by kernel_rfl
@[go_sem] theorem nt95 : ¬ (95 ∈ (@Vars.typed Go.Proofs.SAN.vars)) := by decide
@[go_sem] theorem typed99 : (@Vars.typed Go.Proofs.SAN.vars).contains 99 = false := by kernel_rfl
@[go_sem] theorem nt99 : ¬ (99 ∈ (@Vars.typed Go.Proofs.SAN.vars)) := by decide
@[go_sem] theorem typed172 : (@Vars.typed Go.Proofs.SAN.vars).contains 172 = false := by kernel_rfl
@[go_sem] theorem nt172 : ¬ (172 ∈ (@Vars.typed Go.Proofs.SAN.vars)) := by decide
@[go_sem] theorem typed175 : (@Vars.typed Go.Proofs.SAN.vars).contains 175 = false := by kernel_rfl
@[go_sem] theorem nt175 : ¬ (175 ∈ (@Vars.typed Go.Proofs.SAN.vars)) := by decide
@[go_sem] theorem typed107 : (@Vars.typed Go.Proofs.SAN.vars).contains 107 = false := by kernel_rfl
@[go_sem] theorem nt107 : ¬ (107 ∈ (@Vars.typed Go.Proofs.SAN.vars)) := by decide
@[go_sem] theorem typed108 : (@Vars.typed Go.Proofs.SAN.vars).contains 108 = false := by kernel_rfl
@[go_sem] theorem nt108 : ¬ (108 ∈ (@Vars.typed Go.Proofs.SAN.vars)) := by decide
@[go_sem] theorem typed110 : (@Vars.typed Go.Proofs.SAN.vars).contains 110 = false := by kernel_rfl
@[go_sem] theorem nt110 : ¬ (110 ∈ (@Vars.typed Go.Proofs.SAN.vars)) := by decide
@[go_sem] theorem nt25 : ¬ (25 ∈ (@Vars.typed Go.Proofs.SAN.vars)) := by decide
@[go_sem] theorem arrOf99 : arrOf Tryz.prog 99 = some (5, 49, 1, false) := by kernel_rfl
@[go_sem] theorem arrOf108 : arrOf Tryz.prog 108 = some (5, 107, 1, true) := by kernel_rfl
@[go_sem] theorem so25 : sizesOk Tryz.prog 25 = false := by kernel_rfl
@[go_sem] theorem bA25 : aBuildArr Tryz.prog 25 [] = some (.agg [iv .i64 0, iv .i64 0, iv .i64 0, iv .i64 0, iv .i64 0]) := by kernel_rfl
@[go_sem] theorem eltOf108 : eltOf Tryz.prog 108 = none := by kernel_rfl
@[go_sem] theorem eltOf99 : eltOf Tryz.prog 99 = none := by kernel_rfl
end Go.AM

namespace Go.AM
open Go.Proofs
theorem sk3 : skOf Tryz.prog 3 = .int := by kernel_rfl
@[go_sem] theorem aggEq25 (a b c d e : Int) : aggEq Tryz.prog 25 [iv .i64 a, iv .i64 b, iv .i64 c, iv .i64 d, iv .i64 e] [iv .i64 a, iv .i64 b, iv .i64 c, iv .i64 d, iv .i64 e] = some true := by
  have h1 : (Tryz.prog.info? 3).isSome = true := by kernel_rfl
  have h2 : Tryz.prog.eqGuardType Tryz.prog.depth 25 = false := by kernel_rfl
  have h3 : Tryz.prog.cellsOf 3 = 1 := by kernel_rfl
  rw [aggEq, Tryz.underlying25]
  simp only [h1, h2, h3, and_self, if_true]
  have h4 : List.range 5 = [0, 1, 2, 3, 4] := by decide
  rw [h4]
  simp [itEq, sk3, cellEq, iv]
end Go.AM

namespace Cw
/-! the numbers of a condition -/
mutual
/-- the program's, of fact j, as they are appended -/
def ask (j : Int) : Cnd → List Int
  | .mk k f _ n _ _ _ ks => (if k = 1 ∧ f = j then [n, min (n + 1) 10000] else []) ++ askL j ks
def askL (j : Int) : List Cnd → List Int
  | [] => []
  | c :: r => ask j c ++ askL j r
end
/-- what slices.Compact keeps behind an element -/
def cptF : Int → List Int → List Int
  | _, [] => []
  | p, x :: r => if x = p then cptF p r else x :: cptF x r
def cpt : List Int → List Int
  | [] => []
  | x :: r => x :: cptF x r
def sortI (l : List Int) : List Int := l.mergeSort fun x y => decide (x ≤ y)
def numsP (j : Int) (cs : List Cnd) : List Int := cpt (sortI (askL j cs ++ [0]))
/-- strictly increasing -/
abbrev SS (l : List Int) : Prop := l.Pairwise (· < ·)
theorem ss_ext : ∀ (l m : List Int), SS l → SS m → (∀ x, x ∈ l ↔ x ∈ m) → l = m
  | [], [], _, _, _ => rfl
  | [], y :: m, _, _, h => by have := (h y).2 (by simp); simp at this
  | x :: l, [], _, _, h => by have := (h x).1 (by simp); simp at this
  | x :: l, y :: m, h1, h2, h => by
    have a := List.pairwise_cons.1 h1
    have b := List.pairwise_cons.1 h2
    have e : x = y := by
      rcases List.mem_cons.1 ((h x).1 (by simp)) with e | e
      · exact e
      · rcases List.mem_cons.1 ((h y).2 (by simp)) with e' | e'
        · exact e'.symm
        · have := a.1 y e'; have := b.1 x e; omega
    subst e
    rw [ss_ext l m a.2 b.2 fun z => ?_]
    constructor
    · intro hz
      rcases List.mem_cons.1 ((h z).1 (by simp [hz])) with e | e
      · have := a.1 z hz; omega
      · exact e
    · intro hz
      rcases List.mem_cons.1 ((h z).2 (by simp [hz])) with e | e
      · have := b.1 z hz; omega
      · exact e
theorem mem_cptF (x : Int) : ∀ (l : List Int) (p : Int), (x = p ∨ x ∈ cptF p l) ↔ (x = p ∨ x ∈ l)
  | [], p => by simp [cptF]
  | y :: r, p => by
    simp only [cptF]
    split
    · rename_i h; subst h; rw [mem_cptF x r y]; simp
    · have := mem_cptF x r y
      simp only [List.mem_cons]; grind
theorem ss_cptF : ∀ (l : List Int) (p : Int), (p :: l).Pairwise (· ≤ ·) → SS (p :: cptF p l)
  | [], p, _ => by simp [cptF]
  | y :: r, p, h => by
    have a := List.pairwise_cons.1 h
    have b := List.pairwise_cons.1 a.2
    simp only [cptF]
    split
    · rename_i e; subst e; exact ss_cptF r y a.2
    · have ih := ss_cptF r y a.2
      have hy := a.1 y (by simp)
      refine List.pairwise_cons.2 ⟨fun z hz => ?_, ih⟩
      rcases List.mem_cons.1 hz with e | e
      · omega
      · have := (List.pairwise_cons.1 ih).1 z e; omega
theorem mem_cpt (x : Int) : ∀ l, x ∈ cpt l ↔ x ∈ l
  | [] => by simp [cpt]
  | y :: r => by simp only [cpt, List.mem_cons]; exact mem_cptF x r y
theorem ss_cpt : ∀ l, l.Pairwise (· ≤ ·) → SS (cpt l)
  | [], _ => by simp [cpt]
  | y :: r, h => ss_cptF r y h
theorem sortI_sorted (l : List Int) : (sortI l).Pairwise (· ≤ ·) := by
  have := List.pairwise_mergeSort (le := fun x y : Int => decide (x ≤ y)) (fun a b c h1 h2 => by simp at *; omega) (fun a b => by simp; omega) l
  exact this.imp fun h => by simpa using h
theorem mem_sortI (x : Int) (l : List Int) : x ∈ sortI l ↔ x ∈ l := (List.mergeSort_perm l _).mem_iff
theorem length_pos_numsP (j : Int) (cs : List Cnd) : 0 < (numsP j cs).length := by
  have : (0 : Int) ∈ numsP j cs := by rw [numsP, mem_cpt, mem_sortI]; simp
  exact List.length_pos_of_mem this
theorem length_cptF : ∀ (l : List Int) (p : Int), (cptF p l).length ≤ l.length
  | [], _ => by simp [cptF]
  | y :: r, p => by
    simp only [cptF]; split
    · have := length_cptF r p; simp only [List.length_cons]; omega
    · have := length_cptF r y; simp only [List.length_cons]; omega
theorem length_cpt : ∀ l : List Int, (cpt l).length ≤ l.length
  | [] => by simp [cpt]
  | y :: r => by have := length_cptF r y; simp only [cpt, List.length_cons]; omega
mutual
theorem length_ask (j : Int) : ∀ c : Cnd, (ask j c).length ≤ 2 * tot c
  | .mk k f o n _ _ _ ks => by
    have := length_askL j ks
    simp only [ask, tot, List.length_append]
    split <;> simp <;> omega
theorem length_askL (j : Int) : ∀ cs : List Cnd, (askL j cs).length ≤ 2 * totL cs
  | [] => by simp [askL]
  | c :: r => by have := length_ask j c; have := length_askL j r; simp only [askL, totL, List.length_append]; omega
end
theorem length_numsP (j : Int) (cs : List Cnd) : (numsP j cs).length ≤ 2 * totL cs + 1 := by
  have h1 := length_cpt (sortI (askL j cs ++ [0]))
  have h2 := length_askL j cs
  have h3 : (sortI (askL j cs ++ [0])).length = (askL j cs).length + 1 := by simp [sortI]
  rw [numsP]; omega

/-! choices in order -/
def tup : List (List Int) → List (List Int)
  | [] => [[]]
  | l :: r => l.flatMap fun x => (tup r).map (x :: ·)
/-- the choices from some indices on -/
def rest : List (List Int) → List Nat → List (List Int)
  | l :: r, i :: is => (rest r is).map (l.getD i 0 :: ·) ++ (l.drop (i + 1)).flatMap fun x => (tup r).map (x :: ·)
  | _, _ => [[]]
theorem find_tup_cons (p : List Int → Bool) (l : List Int) (r : List (List Int)) : (tup (l :: r)).find? p = (l.findSome? fun x => ((tup r).find? fun t => p (x :: t)).map (x :: ·)) := by
  simp only [tup, List.find?_flatMap, List.find?_map]
  rfl
def toFs : List Int → Fs
  | [a, b, c, d, e] => ⟨a, b, c, d, e⟩
  | _ => ⟨0, 0, 0, 0, 0⟩
def candsP (cs : List Cnd) : List (List Int) := [numsP 0 cs, numsP 1 cs, numsP 2 cs, numsP 3 cs, numsP 4 cs]
def cells5 (L : List (List Int)) : Nat := (L.map List.length).foldl (· * ·) 1
end Cw

namespace Go.AM
open Go.Proofs Cw
theorem flat_int : ∀ zs : List Int, flat (zs.map (iv .i64)) = zs.map (iv .i64)
  | [] => rfl
  | z :: r => by have := flat_int r; simp only [flat, List.map_cons, List.flatten_cons, cellsOf, List.singleton_append, iv] at this ⊢; rw [this]
/-- to the nil slice -/
theorem ap49_nil (nm : Nat) (h : AHeap) (nl' fu' : Bool) (xs : List Int) (hx : xs ≠ []) (hl : xs.length ≤ 67108864) :
    aAppend Tryz.prog nm 49 (.fslc true true 0 []) (.fslc nl' fu' 1 (xs.map (iv .i64))) h = some (.slc nm 0 xs.length 1, h.upd nm (some (.cells (xs.map (iv .i64))))) := by
  have e2 := flat_int xs
  simp [aAppend, eltOf49, szOf3, byOf3, zerOf3, srcCells, cellsOf, AV.scalar, hx, hl, e2]
  rfl
theorem ap49_s (nm m : Nat) (h : AHeap) (nl' fu' : Bool) (l xs : List Int) (hm : h m = some (.cells (l.map (iv .i64)))) (hx : xs ≠ []) (hl : l.length + xs.length ≤ 67108864) :
    aAppend Tryz.prog nm 49 (.slc m 0 l.length 1) (.fslc nl' fu' 1 (xs.map (iv .i64))) h = some (.slc nm 0 (l.length + xs.length) 1, (h.upd m none).upd nm (some (.cells ((l ++ xs).map (iv .i64))))) := by
  have e2 := flat_int xs
  have h0 : 0 < xs.length := List.length_pos_iff.2 hx
  have h1 : ¬ l.length + xs.length ≤ l.length := by omega
  simp [aAppend, eltOf49, szOf3, byOf3, zerOf3, srcCells, cellsOf, AV.scalar, hm, h1, hl, e2]
theorem below_int (n : Nat) (zs : List Int) : belowL n (zs.map (iv .i64)) := by
  induction zs with
  | nil => simp [belowL]
  | cons z r ih => simp only [List.map_cons, belowL, iv, below]; exact ⟨trivial, ih⟩
end Go.AM
