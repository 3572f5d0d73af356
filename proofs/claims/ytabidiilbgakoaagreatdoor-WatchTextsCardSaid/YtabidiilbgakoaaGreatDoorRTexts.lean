/- The law WatchTexts returns true for every input that reads as data. Conditions: as each theorem says. -/
import Derived.Deep.DeepWitnessRowRef
import Derived.Lib.SpaceR
import Derived.Test.YtabidiilbgakoaaGreatDoorRd
import Derived.Test.YtabidiilbgakoaaGreatDoorDo
namespace Go.Proofs.YtabidiilbgakoaaGreatDoor
open Go.ChangeShapes Go.WideShapes Go.ChangeAt Go.RowKit Go.AM
theorem own : ownKnob Tryz.prog.godebug = none := by kernel_rfl
def rowOf : DataW Unit → Array Value
  | .agg l => (l.map fun d => match d with | .lit (.int k z) => Value.int k z | _ => .nilFunc).toArray
  | _ => #[]
theorem table {W : World} (h : laidMet Tryz.prog Rows.watchTextsRow.laid W) : Lib.TabIs Tryz.prog W "strings.asciiSpace" .u8 Lib.asciiSpaceTab := by
  have h6 : laidMet Tryz.prog [("strings.asciiSpace", Rows.laid_strings_asciiSpace)] W := h.tail.tail.tail.tail.tail.tail
  have e : (Rows.laid_strings_asciiSpace : DataW Unit) = Lib.tabData .u8 Lib.asciiSpaceTab := by kernel_rfl
  rw [e] at h6
  exact Lib.tabIs_of_head (rest := []) gSpace gSpaceType und288 Tryz.underlying5 cells5 cells288 h6
theorem table0 {W : World} (h : laidMet Tryz.prog Rows.watchTextsRow.laid W) : Lib.TabIs Tryz.prog W "internal/strconv.uint64pow10" .u64 Lib.pow10Tab := by
  have h2 := h.tail.tail
  have e : (Rows.laid_internal_strconv_uint64pow10 : DataW Unit) = Lib.tabData .u64 Lib.pow10Tab := by kernel_rfl
  rw [e] at h2
  exact Lib.tabIs_of_head gPowD gPowType undPow Tryz.underlying259 cellsU64 cellsPow h2
theorem errR {W : World} (h : laidMet Tryz.prog Rows.watchTextsRow.laid W) : ∃ e z u v, W.heap[3]? = some (.cells #[.iface u v] e z) := err_of_head gErrR gErrRType undErr h.tail.tail.tail
noncomputable def laidWorld (os : Os) : World :=
  let N := (World.settled Tryz.prog os).heap.size
  let w0 := World.holding Tryz.prog os ⟨#[.cells #[.string ⟨#[105, 110, 118, 97, 108, 105, 100, 32, 115, 121, 110, 116, 97, 120]⟩] 336, .cells #[.string ⟨#[118, 97, 108, 117, 101, 32, 111, 117, 116, 32, 111, 102, 32, 114, 97, 110, 103, 101]⟩] 336,
    .cells (Lib.whiteT.map fun (z : Nat) => Value.int .u16 (z : Int)).toArray 345, .cells #[.slice (some ⟨N + 2, 0, none⟩) 7 7, .slice none 0 0, .int .i64 2] 342], #[], []⟩
  let put (h : Array Obj) (g : Nat) (cs : Array Value) : Array Obj := h.modify g fun
    | .cells _ t frozen => .cells cs t frozen
    | o => o
  let h0 := put w0.heap 0 (rowOf Rows.laid_internal_strconv_uint64pow10)
  let h1 := put h0 1 (rowOf Rows.laid_strings_asciiSpace)
  let h2 := put h1 2 #[.iface 334 (.pointer (some ⟨N, 0, none⟩))]
  let h3 := put h2 3 #[.iface 334 (.pointer (some ⟨N + 1, 0, none⟩))]
  let h5 := put h3 5 #[.pointer (some ⟨N + 3, 0, none⟩)]
  let h6 := put h5 6 (rowOf Rows.laid_math_bits_deBruijn32tab)
  let h7 := put h6 7 (rowOf Rows.laid_math_bits_deBruijn64tab)
  { w0 with heap := h7 }
def zArgs : Array Value := #[.agg #[.slice none 0 0, .slice none 0 0], .agg #[.int .i64 0, .int .i64 0, .int .i64 0, .int .i64 0, .slice none 0 0], .string ByteArray.empty]
theorem laid_met (os : Os) : laidMet Tryz.prog Rows.watchTextsRow.laid ((laidWorld os).forCall (fun _ _ => 0) ⟨#[], zArgs, []⟩).memory :=
  laidMet_of_run' 12 (by kernel_rfl) (by kernel_rfl)
theorem reads (os : Os) {H : Type} (enc : TypeId × Value → H) : ∃ places, DataW.whole enc Tryz.prog ((laidWorld os).forCall (fun _ _ => 0) ⟨#[], zArgs, []⟩).memory Tryz.f7.params.toList Rows.watchTextsSpec.vars false zArgs.toList 8 =
    some ([.agg [.nil, .nil], .agg [.lit (.int .i64 0), .lit (.int .i64 0), .lit (.int .i64 0), .lit (.int .i64 0), .nil], .lit (.string [])], [], places) :=
  ⟨[], by kernel_rfl⟩
set_option maxRecDepth 100000 in
theorem contract (H : Type) (enc : TypeId × Value → H) (W : World) (base : Nat) (args : Array Value) (ds gs : List (DataW H)) (before : List MemPlace)
    (hval : ∀ (j : Nat) t v, Tryz.f7.params[j]? = some t → args[j]? = some v → Value.okWide Tryz.prog W .any base t v)
    (hW : DataW.Whole enc Tryz.prog Tryz.f7.params.toList Rows.watchTextsSpec.vars false W args.toList ds gs before) (hL : laidMet Tryz.prog Rows.watchTextsRow.laid W) :
    Calls Tryz.prog 7 args W fun e W' => ∃ v, e = .returned v ∧ Rows.watchTextsSpec.post enc Tryz.prog Tryz.f7 false true false false W args v W' := by
  have hW' := hW
  obtain ⟨p, q, hA0, hV, rfl, _, _⟩ := hW
  have hA : DataW.TrodAll enc Tryz.prog W 0 (fun _ => true) true Tryz.f7.params.toList args.toList ds p := hA0
  have hA2 := hA
  rw [Tryz.params7] at hA hval
  obtain ⟨v0, vs0, d0, ds0, p0, q0, e0, rfl, rfl, h0, hA⟩ := trodAll_cons hA
  obtain ⟨v1, vs1, d1, ds1, p1, q1, rfl, rfl, rfl, h1, hA⟩ := trodAll_cons hA
  obtain ⟨v2, vs2, d2, ds2, p2, q2, rfl, rfl, rfl, h2, hA⟩ := trodAll_cons hA
  obtain ⟨rfl, rfl, rfl⟩ := trodAll_nil hA
  obtain ⟨rfl, rfl⟩ := trodVars_none hV
  obtain ⟨la⟩ := args
  have e0 : la = [v0, v1, v2] := e0
  subst e0
  obtain ⟨nlL0, nl0, ls0, l0, w0a, w0b, w0c, w0d, w0e, w0f, g0⟩ := rd_watch (hval 0 26 v0 rfl rfl) h0
  obtain ⟨x1, b1, g1⟩ := rd_cond (hval 1 54 v1 rfl rfl) h1
  obtain ⟨fu2, f2⟩ := h2
  obtain ⟨x2, rfl⟩ : ∃ m, v2 = .string m := by
    have := hval 2 9 v2 rfl rfl
    simp only [Value.okWide, Cell.okWide] at this
    rw [Tryz.underlying9] at this
    revert this
    cases v2 <;> intro this <;> first | exact ⟨_, rfl⟩ | (obtain ⟨e, _⟩ := this; subst e; exact ⟨_, rfl⟩) | exact this.elim
  refine (run_true (WatchTexts_spec nlL0 nl0 ls0 l0 w0a w0b w0c w0d w0e w0f x1 b1 x2) W (vars_of_table (table0 hL) (table hL) (errR hL)) #[v0, v1, .string x2] ⟨_, _, rfl, g0, _, _, rfl, g1, _, _, rfl, by simp [Rv, Value.oneCell'], rfl⟩).mono fun e W' ⟨he, hb⟩ => ?_
  refine ⟨_, he, [d0, d1, d2], [], _, [], _, [], hW', trodAll_mk1 (shut_bool Tryz.underlying4 true), Q9 hb ?_ (fun x hx => hW'.lt x (List.mem_append.2 (.inl hx))) hA2, rfl, hb.frame _, fun h => by cases h⟩
  rw [Tryz.params7]
  intro t ht
  simp at ht
  rcases ht with rfl | rfl | rfl <;> exact ⟨by kernel_rfl, of_decide_eq_true (by kernel_rfl)⟩
set_option maxRecDepth 100000 in
theorem lifted (os : Os) (started : os.Started) (H : Type) (enc : TypeId × Value → H) (F : Stop.Interp) :
    ReturnsInHanded {} Tryz.checked os 7 .any ((OpenSpec.ofChange Rows.watchTextsSpec).preRow enc Tryz.prog Tryz.f7 Rows.watchTextsRow.domain false Rows.watchTextsRow.laid) (((OpenSpec.ofChange Rows.watchTextsSpec).at F).post enc Tryz.prog Tryz.f7 false true false false) := by
  obtain ⟨places, hx⟩ := reads os enc
  refine returnsInHanded_of_row (C := Tryz.checked) (s := OpenSpec.ofChange Rows.watchTextsSpec) own started (by kernel_rfl) Tryz.func7
    (witness_row_atRef (enc := enc) (C := Tryz.checked) false (laidWorld os) zArgs rfl (by kernel_rfl) (by kernel_rfl) (by kernel_rfl)
      (OpenSpec.preRow_of_cond 8 hx (by kernel_rfl) (fun k hk => by cases hk) (by kernel_rfl) (laid_met os))) ?_
  intro W base args ds gs before hval hW _ _ _ hL _ _
  exact contract H enc W base args ds gs before hval hW hL
end Go.Proofs.YtabidiilbgakoaaGreatDoor
