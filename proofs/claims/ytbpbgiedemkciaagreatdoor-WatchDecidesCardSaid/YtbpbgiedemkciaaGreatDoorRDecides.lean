/- The law WatchDecides returns true for every input that reads as data. Conditions: as each theorem says. -/
import Derived.Deep.DeepWitnessRowRef
import Derived.Lib.SpaceR
import Derived.Test.YtbpbgiedemkciaaGreatDoorEh
import Derived.Test.YtbpbgiedemkciaaGreatDoorDo
namespace Go.AM
open Go.Proofs Cw
set_option maxRecDepth 10000
set_option maxHeartbeats 4000000
theorem unO_len (l : List Ordr) : (unO l).1.length ≤ l.length := by
 unfold unO
 split
 · simp
 · split
   · exact unusU_len _ _
   · simp
theorem WatchDecides_spec (nl : Bool) (l : List Ordr) (hnl : l = [] ∨ nl = false ∧ 7 = 7) (hw : wfO l) (hl : l.length ≤ 9223372036854775807) (nl2 : Bool) (m : List Ordr) (hnm : m = [] ∨ nl2 = false ∧ 7 = 7) (hwm : wfO m) (hm : m.length ≤ 9223372036854775807) (fs : Fs) :
   APure Tryz.prog 6 [.fslc nl false 7 (l.map encO), .fslc nl2 false 7 (m.map encO), encF fs] (bv true) := by
 intro h n
 have k0 := Go.Proofs.SAN.sanity_ok
 have k1 := few21 nl false 7 l hnl hw hl
 have k2 := few21 nl2 false 7 m hnm hwm hm
 refine ACalls.pure (ACalls.entry (by kernel_rfl) fun hb _ => zO Tryz.func6 rfl (by kernel_rfl) (by simp [Tryz.ntmps6]) ?_)
 by_cases h1 : fewO l = true
 · by_cases h2 : fewO m = true
   · rw [h1] at k1
     rw [h2] at k2
     have l1 := few_len h1
     have lu := unO_len l
     have k3 := Decide22 nl false 7 l hnl hw (few_sm h1) (by omega) fs
     have k4 := rDecide23 nl false 7 l hnl hw (few_sm h1) (by omega) fs
     have k5 := Unused24 nl false 7 l hnl hw h1
     have k6 := rUnused25 nl false 7 l hnl hw h1
     have k7 := SameOrders26 nl false 7 l hnl hw h1 nl2 false 7 m hnm hwm h2
     have k8 := rSameOrders27 nl false 7 l hnl hw h1 nl2 false 7 m hnm hwm h2
     have k9 := SameInts_row (unO l).1 (by omega)
     obtain ⟨r1, r2, r3, r4, hr⟩ : ∃ a b c d, rowF (unO l).1 = .fslc a b c d := by
       unfold rowF
       split <;> exact ⟨_, _, _, _, rfl⟩
     rw [hr] at k5 k6 k9
     clear hr lu l1 h1 h2 hnl hnm hw hwm hl hm
     generalize (decO l fs).1 = d1 at *
     generalize (decO l fs).2.1 = d2 at *
     generalize (decO l fs).2.2 = d3 at *
     generalize (unO l).2 = d4 at *
     generalize sameO l m = so at *
     obtain ⟨⟨f0, f1, f2, f3, f4⟩, is, e⟩ := so
     simp only [outDP, encF] at k3 k4 k5 k6 k7 k8 ⊢
     obtain ⟨g0, g1, g2, g3, g4⟩ := fs
     generalize List.map encO l = A at *
     generalize List.map encO m = B at *
     repeat' (first | (refine zD fun K hK => ?_) | (refine zA fun K hK => ?_; simp (disch := omega) [go_sem, *, Tryz.ntmps6 ]) | (apply Hide.out hK; clear hK K; try with_reducible dsimp only [zC]) | (apply Hide.out hf; clear ht hf Kt Kf) | (with_reducible refine APure.gcall (k0) ?_; try simp (disch := omega) [go_sem, *, zB ]) | (with_reducible refine APure.gcall (k1) ?_; try simp (disch := omega) [go_sem, * ]) | (with_reducible refine APure.gcall (k2) ?_; try simp (disch := omega) [go_sem, * ]) | (with_reducible refine APure.gcall (k3) ?_; try simp (disch := omega) [go_sem, * ]) | (with_reducible refine APure.gcall (k4) ?_; try simp (disch := omega) [go_sem, * ]) | (with_reducible refine APure.gcall (k5) ?_; try simp (disch := omega) [go_sem, * ]) | (with_reducible refine APure.gcall (k6) ?_; try simp (disch := omega) [go_sem, * ]) | (with_reducible refine APure.gcall (k7) ?_; try simp (disch := omega) [go_sem, * ]) | (with_reducible refine APure.gcall (k8) ?_; try simp (disch := omega) [go_sem, * ]) | (with_reducible refine APure.gcall (k9) ?_; try simp (disch := omega) [go_sem, *, zB ]) | (refine zI ?_; simp only [zC]) | (refine zE fun Kt Kf ht hf => ?_; simp (disch := omega) [go_sem, * ]; try (refine ⟨fun hc => ?_, fun hc => ?_⟩ <;> try (exfalso; omega))))
     (refine zM ?_; try dsimp only [zC, zF]; refine ⟨by simp, _, (by first | rfl | (simp (disch := omega) [go_sem, zB] <;> rfl)), ?_⟩; refine zJ ⟨fun k hk => (by first | rfl | (repeat rw [zB _ _ _ _ (by omega)])), (by simp [go_sem, below]), (by simp [go_sem] <;> omega), by simp, by simp⟩)
   · rw [h1] at k1
     rw [show fewO m = false by simpa using h2] at k2
     clear h1 h2 hnl hnm hw hwm hl hm
     simp only [encF] at k1 k2 ⊢
     obtain ⟨g0, g1, g2, g3, g4⟩ := fs
     generalize List.map encO l = A at *
     generalize List.map encO m = B at *
     repeat' (first | (refine zD fun K hK => ?_) | (refine zA fun K hK => ?_; simp (disch := omega) [go_sem, *, Tryz.ntmps6 ]) | (apply Hide.out hK; clear hK K; try with_reducible dsimp only [zC]) | (apply Hide.out ht; clear ht hf Kt Kf) | (with_reducible refine APure.gcall (k0) ?_; try simp (disch := omega) [go_sem, * ]) | (with_reducible refine APure.gcall (k1) ?_; try simp (disch := omega) [go_sem, * ]) | (with_reducible refine APure.gcall (k2) ?_; try simp (disch := omega) [go_sem, * ]) | (refine zE fun Kt Kf ht hf => ?_; simp (disch := omega) [go_sem, * ]; try (refine ⟨fun hc => ?_, fun hc => ?_⟩ <;> try (exfalso; omega))))
     (refine zM ?_; try dsimp only [zC, zF]; refine ⟨by simp, _, (by first | rfl | (simp (disch := omega) [go_sem, zB] <;> rfl)), ?_⟩; refine zJ ⟨fun k hk => (by first | rfl | (repeat rw [zB _ _ _ _ (by omega)])), (by simp [go_sem, below]), (by simp [go_sem] <;> omega), by simp, by simp⟩)
 · rw [show fewO l = false by simpa using h1] at k1
   clear k2 h1 hnl hnm hw hwm hl hm
   simp only [encF] at k1 ⊢
   obtain ⟨g0, g1, g2, g3, g4⟩ := fs
   generalize List.map encO l = A at *
   generalize List.map encO m = B at *
   repeat' (first | (refine zD fun K hK => ?_) | (refine zA fun K hK => ?_; simp (disch := omega) [go_sem, *, Tryz.ntmps6 ]) | (apply Hide.out hK; clear hK K; try with_reducible dsimp only [zC]) | (apply Hide.out ht; clear ht hf Kt Kf) | (with_reducible refine APure.gcall (k0) ?_; try simp (disch := omega) [go_sem, * ]) | (with_reducible refine APure.gcall (k1) ?_; try simp (disch := omega) [go_sem, * ]) | (refine zE fun Kt Kf ht hf => ?_; simp (disch := omega) [go_sem, * ]; try (refine ⟨fun hc => ?_, fun hc => ?_⟩ <;> try (exfalso; omega))))
   (refine zM ?_; try dsimp only [zC, zF]; refine ⟨by simp, _, (by first | rfl | (simp (disch := omega) [go_sem, zB] <;> rfl)), ?_⟩; refine zJ ⟨fun k hk => (by first | rfl | (repeat rw [zB _ _ _ _ (by omega)])), (by simp [go_sem, below]), (by simp [go_sem] <;> omega), by simp, by simp⟩)
end Go.AM
namespace Go.Proofs.YtbpbgiedemkciaaGreatDoor
open Go.ChangeShapes Go.WideShapes Go.ChangeAt Go.RowKit Go.AM
theorem own : ownKnob Tryz.prog.godebug = none := by kernel_rfl
def rowOf : DataW Unit → Array Value
 | .agg l => (l.map fun d => match d with | .lit (.int k z) => Value.int k z | _ => .nilFunc).toArray
 | _ => #[]
theorem table {W : World} (h : laidMet Tryz.prog Rows.watchDecidesRow.laid W) : Lib.TabIs Tryz.prog W "strings.asciiSpace" .u8 Lib.asciiSpaceTab := by
 have h6 : laidMet Tryz.prog [("strings.asciiSpace", Rows.laid_strings_asciiSpace)] W := h.tail.tail.tail.tail.tail.tail
 have e : (Rows.laid_strings_asciiSpace : DataW Unit) = Lib.tabData .u8 Lib.asciiSpaceTab := by kernel_rfl
 rw [e] at h6
 exact Lib.tabIs_of_head (rest := []) gSpace gSpaceType und288 Tryz.underlying5 cells5 cells288 h6
noncomputable def laidWorld (os : Os) : World :=
 let N := (World.settled Tryz.prog os).heap.size
 let w0 := World.holding Tryz.prog os ⟨#[.cells #[.string ⟨#[105, 110, 118, 97, 108, 105, 100, 32, 115, 121, 110, 116, 97, 120]⟩] 315, .cells #[.string ⟨#[118, 97, 108, 117, 101, 32, 111, 117, 116, 32, 111, 102, 32, 114, 97, 110, 103, 101]⟩] 315,
   .cells (Lib.whiteT.map fun (z : Nat) => Value.int .u16 (z : Int)).toArray 324, .cells #[.slice (some ⟨N + 2, 0, none⟩) 7 7, .slice none 0 0, .int .i64 2] 321], #[], []⟩
 let put (h : Array Obj) (g : Nat) (cs : Array Value) : Array Obj := h.modify g fun
   | .cells _ t frozen => .cells cs t frozen
   | o => o
 let h0 := put w0.heap 0 (rowOf Rows.laid_internal_strconv_uint64pow10)
 let h1 := put h0 1 (rowOf Rows.laid_strings_asciiSpace)
 let h2 := put h1 2 #[.iface 313 (.pointer (some ⟨N, 0, none⟩))]
 let h3 := put h2 3 #[.iface 313 (.pointer (some ⟨N + 1, 0, none⟩))]
 let h5 := put h3 5 #[.pointer (some ⟨N + 3, 0, none⟩)]
 let h6 := put h5 6 (rowOf Rows.laid_math_bits_deBruijn32tab)
 let h7 := put h6 7 (rowOf Rows.laid_math_bits_deBruijn64tab)
 { w0 with heap := h7 }
def zArgs : Array Value := #[.slice none 0 0, .slice none 0 0, .agg #[.int .i64 0, .int .i64 0, .int .i64 0, .int .i64 0, .int .i64 0]]
theorem laid_met (os : Os) : laidMet Tryz.prog Rows.watchDecidesRow.laid ((laidWorld os).forCall (fun _ _ => 0) ⟨#[], zArgs, []⟩).memory :=
 laidMet_of_run' 12 (by kernel_rfl) (by kernel_rfl)
theorem reads (os : Os) {H : Type} (enc : TypeId × Value → H) : ∃ places, DataW.whole enc Tryz.prog ((laidWorld os).forCall (fun _ _ => 0) ⟨#[], zArgs, []⟩).memory Tryz.f6.params.toList Rows.watchDecidesSpec.vars false zArgs.toList 8 =
   some ([.nil, .nil, .agg [.lit (.int .i64 0), .lit (.int .i64 0), .lit (.int .i64 0), .lit (.int .i64 0), .lit (.int .i64 0)]], [], places) :=
 ⟨[], by kernel_rfl⟩
set_option maxRecDepth 100000 in
theorem contract (H : Type) (enc : TypeId × Value → H) (W : World) (base : Nat) (args : Array Value) (ds gs : List (DataW H)) (before : List MemPlace)
   (hval : ∀ (j : Nat) t v, Tryz.f6.params[j]? = some t → args[j]? = some v → Value.okWide Tryz.prog W .any base t v)
   (hW : DataW.Whole enc Tryz.prog Tryz.f6.params.toList Rows.watchDecidesSpec.vars false W args.toList ds gs before) (hL : laidMet Tryz.prog Rows.watchDecidesRow.laid W) :
   Calls Tryz.prog 6 args W fun e W' => ∃ v, e = .returned v ∧ Rows.watchDecidesSpec.post enc Tryz.prog Tryz.f6 false true false false W args v W' := by
 have hW' := hW
 obtain ⟨p, q, hA0, hV, rfl, _, _⟩ := hW
 have hA : DataW.TrodAll enc Tryz.prog W 0 (fun _ => true) true Tryz.f6.params.toList args.toList ds p := hA0
 have hA2 := hA
 rw [Tryz.params6] at hA hval
 obtain ⟨v0, vs0, d0, ds0, p0, q0, e0, rfl, rfl, h0, hA⟩ := trodAll_cons hA
 obtain ⟨v1, vs1, d1, ds1, p1, q1, rfl, rfl, rfl, h1, hA⟩ := trodAll_cons hA
 obtain ⟨v2, vs2, d2, ds2, p2, q2, rfl, rfl, rfl, h2, hA⟩ := trodAll_cons hA
 obtain ⟨rfl, rfl, rfl⟩ := trodAll_nil hA
 obtain ⟨rfl, rfl⟩ := trodVars_none hV
 obtain ⟨la⟩ := args
 have e0 : la = [v0, v1, v2] := e0
 subst e0
 obtain ⟨nl0, x0, a0, w0, b0, g0⟩ := rd_orders (hval 0 42 v0 rfl rfl) h0
 obtain ⟨nl1, x1, a1, w1, b1, g1⟩ := rd_orders (hval 1 42 v1 rfl rfl) h1
 obtain ⟨x2, g2⟩ := rd_facts (hval 2 25 v2 rfl rfl) h2
 refine (run_true (WatchDecides_spec nl0 x0 a0 w0 b0 nl1 x1 a1 w1 b1 x2) W (vars_of_table (table hL)) #[v0, v1, v2] ⟨_, _, rfl, g0, _, _, rfl, g1, _, _, rfl, g2, rfl⟩).mono fun e W' ⟨he, hb⟩ => ?_
 refine ⟨_, he, [d0, d1, d2], [], _, [], _, [], hW', trodAll_mk1 (shut_bool Tryz.underlying4 true), trodAll_below hb ?_ (fun x hx => hW'.lt x (List.mem_append.2 (.inl hx))) hA2, rfl, hb.frame _, fun h => by cases h⟩
 rw [Tryz.params6]
 intro t ht
 simp at ht
 rcases ht with rfl | rfl <;> exact ⟨by kernel_rfl, of_decide_eq_true (by kernel_rfl)⟩
set_option maxRecDepth 100000 in
theorem lifted (os : Os) (started : os.Started) (H : Type) (enc : TypeId × Value → H) (F : Stop.Interp) :
   ReturnsInHanded {} Tryz.checked os 6 .any ((OpenSpec.ofChange Rows.watchDecidesSpec).preRow enc Tryz.prog Tryz.f6 Rows.watchDecidesRow.domain false Rows.watchDecidesRow.laid) (((OpenSpec.ofChange Rows.watchDecidesSpec).at F).post enc Tryz.prog Tryz.f6 false true false false) := by
 obtain ⟨places, hx⟩ := reads os enc
 refine returnsInHanded_of_row (C := Tryz.checked) (s := OpenSpec.ofChange Rows.watchDecidesSpec) own started (by kernel_rfl) Tryz.func6
   (witness_row_atRef (enc := enc) (C := Tryz.checked) false (laidWorld os) zArgs rfl (by kernel_rfl) (by kernel_rfl) (by kernel_rfl)
     (OpenSpec.preRow_of_cond 8 hx (by kernel_rfl) (fun k hk => by cases hk) (by kernel_rfl) (laid_met os))) ?_
 intro W base args ds gs before hval hW _ _ _ hL _ _
 exact contract H enc W base args ds gs before hval hW hL
end Go.Proofs.YtbpbgiedemkciaaGreatDoor
