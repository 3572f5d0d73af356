/- The law WatchDuties returns true for every input that reads as data. Conditions: as each theorem says. -/
import Derived.Deep.DeepWitnessRowRef
import Derived.Lib.SpaceR
import Derived.Test.YtkbgmkhdjmkpdaaGreatDoorPc
import Derived.Test.YtkbgmkhdjmkpdaaGreatDoorPd
import Derived.Test.YtkbgmkhdjmkpdaaGreatDoorSe
import Derived.Test.YtkbgmkhdjmkpdaaGreatDoorDo
namespace Go.AM
open Go.Proofs Cw Du
set_option maxRecDepth 10000
set_option maxHeartbeats 4000000
theorem sameW (r : List ByteArray × Int) (hl : r.1.length ≤ 1000000) : APure Tryz.prog 15 [whoV r, whoV r] (bv true) := by
  unfold whoV
  split
  · exact sameT_gen true true 0 [] (.inl rfl) (by simp)
  · refine sameT_gen _ false 1 r.1 ?_ hl
    by_cases h : r.1 = []
    · exact .inl h
    · right; simp [h]
theorem outWho_len (ls : List Lin) (l : List Ordr) (d : Int) (t : ByteArray) : (outWho ls l d t).1.length ≤ ls.length := by
  have h1 := outDu_len ls l d
  unfold outWho
  split
  · simp
  · split
    · exact Nat.le_trans (whoT_len _ _) h1
    · simp
theorem fewW_sm {ls : List Lin} {l : List Ordr} (h : fewW ls l = true) (hL : ∀ x ∈ ls, wfLn x ∧ x.exc.length ≤ 9223372036854775807) (_hw : wfO l) : smL ls ∧ smO l ∧ ls.length ≤ 1000000 ∧ l.length ≤ 1000000 := by
  simp only [fewW, Bool.and_eq_true, List.all_eq_true] at h
  obtain ⟨⟨⟨h1, h2⟩, h3⟩, h4⟩ := h
  simp only [numW, Bool.or_eq_true, Bool.and_eq_true, decide_eq_true_eq] at h3 h4
  refine ⟨fun x hx => ?_, fun o ho => ?_, by omega, by omega⟩
  · have := h1 x hx
    simp only [litL, Bool.and_eq_true, decide_eq_true_eq] at this
    exact ⟨(hL x hx).1, by omega, by omega, by omega, by omega⟩
  · have := h2 o ho
    simp only [lit, Bool.and_eq_true, decide_eq_true_eq] at this
    exact ⟨by omega, by omega⟩
theorem WatchDuties_spec (nlL nl : Bool) (ls : List Lin) (l : List Ordr) (hnlL : ls = [] ∨ nlL = false ∧ 8 = 8) (hL : ∀ x ∈ ls, wfLn x ∧ x.exc.length ≤ 9223372036854775807) (hlL : ls.length ≤ 9223372036854775807) (hnl : l = [] ∨ nl = false ∧ 7 = 7) (hw : wfO l) (hl : l.length ≤ 9223372036854775807) (d : Int) (t : ByteArray) :
    APure Tryz.prog 3 [.agg [.fslc nlL false 8 (ls.map encLn), .fslc nl false 7 (l.map encO)], iv .i64 d, sv t] (bv true) := by
  intro h n
  have k0 := few_spec nlL false 8 ls hnlL hL hlL nl false 7 l hnl hw hl
  have k9 := Go.Proofs.SAN.sanity_ok
  refine ACalls.pure (ACalls.entry (by kernel_rfl) fun hb _ => calls_of Tryz.func3 rfl (by kernel_rfl) (by simp [Tryz.ntmps3]) ?_)
  cases hf : fewW ls l with
  | false =>
    rw [hf] at k0
    generalize List.map encLn ls = LL at *
    generalize List.map encO l = OO at *
    clear hf hnlL hL hlL hnl hw hl
    repeat' (first | (refine ac_seq_h fun K hK => ?_) | (refine ac_region_h fun K hK => ?_; simp (disch := omega) [go_sem, *, Tryz.ntmps3 ]) | (apply Hide.out hK; clear hK K; try with_reducible dsimp only [thenA]) | (apply Hide.out ht; clear ht hf Kt Kf) | (with_reducible refine APure.gcall (k0) ?_; try simp (disch := omega) [go_sem, * ]) | (with_reducible refine APure.gcall (k9) ?_; try simp (disch := omega) [go_sem, * ]) | (refine ac_cond_h fun Kt Kf ht hf => ?_; simp (disch := omega) [go_sem, * ]; try (refine ⟨fun hc => ?_, fun hc => ?_⟩ <;> try (exfalso; omega))))
    (refine ac_ret ?_; try dsimp only [thenA, blockA]; refine ⟨by simp, _, (by first | rfl | (simp (disch := omega) [go_sem, upd_ne] <;> rfl)), ?_⟩; refine ret_id ⟨fun k hk => (by first | rfl | (repeat rw [upd_ne _ _ _ _ (by omega)])), (by simp [go_sem, below]), (by simp [go_sem] <;> omega), by simp, by simp⟩)
  | true =>
    rw [hf] at k0
    obtain ⟨g1, g2, g3, g4⟩ := fewW_sm hf hL hw
    by_cases ht : t.size > 60
    · generalize List.map encLn ls = LL at *
      generalize List.map encO l = OO at *
      clear hf hnlL hL hlL hnl hw hl g1 g2 g3 g4
      repeat' (first | (refine ac_seq_h fun K hK => ?_) | (refine ac_region_h fun K hK => ?_; simp (disch := omega) [go_sem, *, Tryz.ntmps3 ]) | (apply Hide.out hK; clear hK K; try with_reducible dsimp only [thenA]) | (apply Hide.out ht; clear ht hf Kt Kf) | (with_reducible refine APure.gcall (k0) ?_; try simp (disch := omega) [go_sem, *, ilt_true ]) | (with_reducible refine APure.gcall (k9) ?_; try simp (disch := omega) [go_sem, * ]) | (refine ac_cond_h fun Kt Kf ht hf => ?_; simp (disch := omega) [go_sem, * ]; try (refine ⟨fun hc => ?_, fun hc => ?_⟩ <;> try (exfalso; omega))))
      (refine ac_ret ?_; try dsimp only [thenA, blockA]; refine ⟨by simp, _, (by first | rfl | (simp (disch := omega) [go_sem, upd_ne] <;> rfl)), ?_⟩; refine ret_id ⟨fun k hk => (by first | rfl | (repeat rw [upd_ne _ _ _ _ (by omega)])), (by simp [go_sem, below]), (by simp [go_sem] <;> omega), by simp, by simp⟩)
    · have k1 := Duties_spec nlL false 8 ls hnlL g1 g3 nl false 7 l hnl hw g2 g4 d
      have k2 := rDuties_spec nlL false 8 ls hnlL g1 g3 nl false 7 l hnl hw g2 g4 d
      have k3 := Who_spec nlL false 8 ls hnlL g1 g3 nl false 7 l hnl hw g2 g4 d t (by omega)
      have k4 := rWho_spec nlL false 8 ls hnlL g1 g3 nl false 7 l hnl hw g2 g4 d t (by omega)
      have k5 := sameD_spec d (outDu ls l d).1 (Nat.le_trans (outDu_len ls l d) g3)
      have k6 := sameW (outWho ls l d t) (Nat.le_trans (outWho_len ls l d t) g3)
      generalize (outDu ls l d).2 = e1 at *
      generalize (outWho ls l d t).2 = e2 at *
      obtain ⟨a1, a2, q1, _⟩ := dutF_is d (outDu ls l d).1
      rw [q1] at k1 k2 k5
      have hv : ∃ b1 b2 b3 bl, whoV (outWho ls l d t) = .fslc b1 b2 b3 bl := by
        unfold whoV; split
        · exact ⟨_, _, _, _, rfl⟩
        · exact ⟨_, _, _, _, rfl⟩
      obtain ⟨b1, b2, b3, bl, q2⟩ := hv
      rw [q2] at k3 k4 k6
      generalize List.map (dutyA d) (outDu ls l d).1 = DL at *
      generalize List.map encLn ls = LL at *
      generalize List.map encO l = OO at *
      clear hf hnlL hL hlL hnl hw hl g1 g2 g3 g4 q1 q2
      repeat' (first | (refine ac_seq_h fun K hK => ?_) | (refine ac_region_h fun K hK => ?_; simp (disch := omega) [go_sem, *, upd_ne, Tryz.ntmps3 ]) | (apply Hide.out hK; clear hK K; try with_reducible dsimp only [thenA]) | (apply Hide.out hf; clear ht hf Kt Kf) | (with_reducible refine APure.gcall (k0) ?_; try simp (disch := omega) [go_sem, *, ilt_false ]) | (with_reducible refine APure.gcall (k9) ?_; try simp (disch := omega) [go_sem, *, upd_ne ]) | (with_reducible refine APure.gcall (k1) ?_; try simp (disch := omega) [go_sem, * ]) | (with_reducible refine APure.gcall (k2) ?_; try simp (disch := omega) [go_sem, * ]) | (with_reducible refine APure.gcall (k3) ?_; try simp (disch := omega) [go_sem, * ]) | (with_reducible refine APure.gcall (k4) ?_; try simp (disch := omega) [go_sem, * ]) | (with_reducible refine APure.gcall (k5) ?_; try simp (disch := omega) [go_sem, *, upd_ne ]) | (with_reducible refine APure.gcall (k6) ?_; try simp (disch := omega) [go_sem, * ]) | (refine ac_skip ?_; simp only [thenA]) | (refine ac_cond_h fun Kt Kf ht hf => ?_; simp (disch := omega) [go_sem, * ]; try (refine ⟨fun hc => ?_, fun hc => ?_⟩ <;> try (exfalso; omega))))
      (refine ac_ret ?_; try dsimp only [thenA, blockA]; refine ⟨by simp, _, (by first | rfl | (simp (disch := omega) [go_sem, upd_ne] <;> rfl)), ?_⟩; refine ret_id ⟨fun k hk => (by first | rfl | (repeat rw [upd_ne _ _ _ _ (by omega)])), (by simp [go_sem, below]), (by simp [go_sem] <;> omega), by simp, by simp⟩)
end Go.AM

namespace Go.Proofs.YtkbgmkhdjmkpdaaGreatDoor
open Go.ChangeShapes Go.WideShapes Go.ChangeAt Go.RowKit Go.AM
theorem own : ownKnob Tryz.prog.godebug = none := by kernel_rfl
/-- a listed table's cells -/
def rowOf : DataW Unit → Array Value
  | .agg l => (l.map fun d => match d with | .lit (.int k z) => Value.int k z | _ => .nilFunc).toArray
  | _ => #[]
theorem table {W : World} (h : laidMet Tryz.prog Rows.watchDutiesRow.laid W) : Lib.TabIs Tryz.prog W "strings.asciiSpace" .u8 Lib.asciiSpaceTab := by
  have h6 : laidMet Tryz.prog [("strings.asciiSpace", Rows.laid_strings_asciiSpace)] W := h.tail.tail.tail.tail.tail.tail
  have e : (Rows.laid_strings_asciiSpace : DataW Unit) = Lib.tabData .u8 Lib.asciiSpaceTab := by kernel_rfl
  rw [e] at h6
  exact Lib.tabIs_of_head (rest := []) gSpace gSpaceType und288 Tryz.underlying5 cells5 cells288 h6
/-- a world in which all seven variables read as listed: the settled one, with four blocks more -/
noncomputable def laidWorld (os : Os) : World :=
  let N := (World.settled Tryz.prog os).heap.size
  let w0 := World.holding Tryz.prog os ⟨#[.cells #[.string ⟨#[105, 110, 118, 97, 108, 105, 100, 32, 115, 121, 110, 116, 97, 120]⟩] 328, .cells #[.string ⟨#[118, 97, 108, 117, 101, 32, 111, 117, 116, 32, 111, 102, 32, 114, 97, 110, 103, 101]⟩] 328,
    .cells (Lib.whiteT.map fun (z : Nat) => Value.int .u16 (z : Int)).toArray 320, .cells #[.slice (some ⟨N + 2, 0, none⟩) 7 7, .slice none 0 0, .int .i64 2] 317], #[], []⟩
  let put (h : Array Obj) (g : Nat) (cs : Array Value) : Array Obj := h.modify g fun
    | .cells _ t frozen => .cells cs t frozen
    | o => o
  let h0 := put w0.heap 1 (rowOf Rows.laid_internal_strconv_uint64pow10)
  let h1 := put h0 0 (rowOf Rows.laid_strings_asciiSpace)
  let h2 := put h1 3 #[.iface 326 (.pointer (some ⟨N, 0, none⟩))]
  let h3 := put h2 4 #[.iface 326 (.pointer (some ⟨N + 1, 0, none⟩))]
  let h5 := put h3 2 #[.pointer (some ⟨N + 3, 0, none⟩)]
  let h6 := put h5 6 (rowOf Rows.laid_math_bits_deBruijn32tab)
  let h7 := put h6 7 (rowOf Rows.laid_math_bits_deBruijn64tab)
  { w0 with heap := h7 }
def zArgs : Array Value := #[.agg #[.slice none 0 0, .slice none 0 0], .int .i64 0, .string ByteArray.empty]
theorem laid_met (os : Os) : laidMet Tryz.prog Rows.watchDutiesRow.laid ((laidWorld os).forCall (fun _ _ => 0) ⟨#[], zArgs, []⟩).memory :=
  laidMet_of_run' 12 (by kernel_rfl) (by kernel_rfl)
theorem reads (os : Os) {H : Type} (enc : TypeId × Value → H) : ∃ places, DataW.whole enc Tryz.prog ((laidWorld os).forCall (fun _ _ => 0) ⟨#[], zArgs, []⟩).memory Tryz.f3.params.toList Rows.watchDutiesSpec.vars false zArgs.toList 8 =
    some ([.agg [.nil, .nil], .lit (.int .i64 0), .lit (.string [])], [], places) :=
  ⟨[], by kernel_rfl⟩
set_option maxRecDepth 100000 in
theorem contract (H : Type) (enc : TypeId × Value → H) (W : World) (base : Nat) (args : Array Value) (ds gs : List (DataW H)) (before : List MemPlace)
    (hval : ∀ (j : Nat) t v, Tryz.f3.params[j]? = some t → args[j]? = some v → Value.okWide Tryz.prog W .any base t v)
    (hW : DataW.Whole enc Tryz.prog Tryz.f3.params.toList Rows.watchDutiesSpec.vars false W args.toList ds gs before) (hL : laidMet Tryz.prog Rows.watchDutiesRow.laid W) :
    Calls Tryz.prog 3 args W fun e W' => ∃ v, e = .returned v ∧ Rows.watchDutiesSpec.post enc Tryz.prog Tryz.f3 false true false false W args v W' := by
  have hW' := hW
  obtain ⟨p, q, hA0, hV, rfl, _, _⟩ := hW
  have hA : DataW.TrodAll enc Tryz.prog W 0 (fun _ => true) true Tryz.f3.params.toList args.toList ds p := hA0
  have hA2 := hA
  rw [Tryz.params3] at hA hval
  obtain ⟨v0, vs0, d0, ds0, p0, q0, e0, rfl, rfl, h0, hA⟩ := trodAll_cons hA
  obtain ⟨v1, vs1, d1, ds1, p1, q1, rfl, rfl, rfl, h1, hA⟩ := trodAll_cons hA
  obtain ⟨v2, vs2, d2, ds2, p2, q2, rfl, rfl, rfl, h2, hA⟩ := trodAll_cons hA
  obtain ⟨rfl, rfl, rfl⟩ := trodAll_nil hA
  obtain ⟨rfl, rfl⟩ := trodVars_none hV
  obtain ⟨la⟩ := args
  have e0 : la = [v0, v1, v2] := e0
  subst e0
  obtain ⟨nlL, nl, ls, l, a1, a2, a3, b1, b2, b3, g0⟩ := rd_watch (hval 0 25 v0 rfl rfl) h0
  obtain ⟨fu1, f1⟩ := h1
  obtain ⟨fu2, f2⟩ := h2
  obtain ⟨m1, rfl⟩ : ∃ m, v1 = .int .i64 m := by
    have := hval 1 3 v1 rfl rfl
    simp only [Value.okWide, Cell.okWide] at this
    rw [Tryz.underlying3] at this
    revert this
    cases v1 <;> intro this <;> first | exact ⟨_, rfl⟩ | (obtain ⟨e, _⟩ := this; subst e; exact ⟨_, rfl⟩) | exact this.elim
  obtain ⟨s2, rfl⟩ : ∃ s, v2 = .string s := by
    have := hval 2 9 v2 rfl rfl
    simp only [Value.okWide, Cell.okWide] at this
    rw [Tryz.underlying9] at this
    revert this
    cases v2 <;> intro this <;> first | exact ⟨_, rfl⟩ | (obtain ⟨e, _⟩ := this; subst e; exact ⟨_, rfl⟩) | exact this.elim
  refine (run_true (WatchDuties_spec nlL nl ls l a1 a2 a3 b1 b2 b3 m1 s2) W (vars_of_table (table hL)) #[v0, .int .i64 m1, .string s2] ⟨_, _, rfl, g0, _, _, rfl, by simp [Rv, Value.oneCell'], _, _, rfl, by simp [Rv, Value.oneCell'], rfl⟩).mono fun e W' ⟨he, hb⟩ => ?_
  refine ⟨_, he, [d0, d1, d2], [], _, [], _, [], hW', trodAll_mk1 (shut_bool Tryz.underlying4 true), trodAll_below hb ?_ (fun x hx => hW'.lt x (List.mem_append.2 (.inl hx))) hA2, rfl, hb.frame _, fun h => by cases h⟩
  rw [Tryz.params3]
  intro t ht
  simp at ht
  rcases ht with rfl | rfl | rfl <;> exact ⟨by kernel_rfl, of_decide_eq_true (by kernel_rfl)⟩
set_option maxRecDepth 100000 in
theorem lifted (os : Os) (started : os.Started) (H : Type) (enc : TypeId × Value → H) (F : Stop.Interp) :
    ReturnsInHanded {} Tryz.checked os 3 .any ((OpenSpec.ofChange Rows.watchDutiesSpec).preRow enc Tryz.prog Tryz.f3 Rows.watchDutiesRow.domain false Rows.watchDutiesRow.laid) (((OpenSpec.ofChange Rows.watchDutiesSpec).at F).post enc Tryz.prog Tryz.f3 false true false false) := by
  obtain ⟨places, hx⟩ := reads os enc
  refine returnsInHanded_of_row (C := Tryz.checked) (s := OpenSpec.ofChange Rows.watchDutiesSpec) own started (by kernel_rfl) Tryz.func3
    (witness_row_atRef (enc := enc) (C := Tryz.checked) false (laidWorld os) zArgs rfl (by kernel_rfl) (by kernel_rfl) (by kernel_rfl)
      (OpenSpec.preRow_of_cond 8 hx (by kernel_rfl) (fun k hk => by cases hk) (by kernel_rfl) (laid_met os))) ?_
  intro W base args ds gs before hval hW _ _ _ hL _ _
  exact contract H enc W base args ds gs before hval hW hL
end Go.Proofs.YtkbgmkhdjmkpdaaGreatDoor
