/-
  No cell of these rows narrows 'for every input' (looked for: loops, veiled, ifaces, maps, wideKeys, modest, calm, conditions, laid).
  DERIVED. THE GIVEN ROWS OF THIS SEAT. 7 by the template 'for every input the law returns true; each argument reads behind the call as it read before'; 0 by the template 'total and deterministic' (their statements: YtkhdnlojgoonkaaTotals.lean).
  GIVEN WITH THE SEED: the statements are not yours to turn. If you find one false, say at which input.
  Laid BY PROGRAM, IN A SANDBOX (cutbox-rows.mjs): the forced cells as the released guide's own fill.sh prints them over the translation c13a7ff09bb00477… (all of the seat's roots in one cut). By AI agents, Wed Nov 11 2026. No macro, syntax, notation, axiom, sorry.
-/
import Derived.Test.YtkhdnlojgoonkaaChecked
import GoSem.Claim
import GoSem.ClaimJoined
import GoSem.ClaimMapViews
import Derived.JoinedTies
import Derived.KernelRfl
namespace Go.Proofs.Ytkhdnlojgoonkaa
/- THE CELL 'sum', in the pinned program and in every row, IS THE sha256 OF THE DUMP (.gsa) THAT YtkhdnlojgoonkaaProg.lean LOADS. Nothing in Lean hashes anything: it is a label: what it is worth is what the hold of that sum in a sandbox is worth. -/
noncomputable def Try.pinned : Pinned := { name := "ytkhdnlojgoonkaa", sum := "c13a7ff09bb00477dffca7b07c6fb37c68f0ce7d7e9ece1fb94e4f14d740b2f3", checked := Try.checked }
namespace Rows
def none {H : Type} : Left H := { results := [], args := [] }

/-- 'firetowerlaw02.RelayChecks': WHATEVER THE INPUT: true; the input reads as it did. -/
def relayChecksSpec : ChangeSpec := { name := "relayChecks", fn := fun _ => fun
  | [d1, d2, d3] => { results := [.lit (.bool true)], args := [d1, d2, d3] }
  | _ => none }
def relayChecksRow : OpenClaim := { program := "ytkhdnlojgoonkaa", sum := "c13a7ff09bb00477dffca7b07c6fb37c68f0ce7d7e9ece1fb94e4f14d740b2f3", func := "firetower/firetowerlaw02.RelayChecks", spec := "relayChecks", unfollowed := true, recurses := true, apart := false }
def RelayChecksSaid : Prop := relayChecksRow.holds Try.pinned (OpenSpec.ofChange relayChecksSpec)

/-- ITS FALSE NEIGHBOUR: 'it returns false'. Refute it at one input. -/
def relayChecksWrong : ChangeSpec := { name := "relayChecks", fn := fun _ => fun
  | [d1, d2, d3] => { results := [.lit (.bool false)], args := [d1, d2, d3] }
  | _ => none }
def RelayChecksWrongFalsely : Prop := relayChecksRow.holds Try.pinned (OpenSpec.ofChange relayChecksWrong)

/-- 'firetowerlaw02.RelayTimes': WHATEVER THE INPUT: true; the input reads as it did. -/
def relayTimesSpec : ChangeSpec := { name := "relayTimes", fn := fun _ => fun
  | [d1, d2, d3] => { results := [.lit (.bool true)], args := [d1, d2, d3] }
  | _ => none }
def relayTimesRow : OpenClaim := { program := "ytkhdnlojgoonkaa", sum := "c13a7ff09bb00477dffca7b07c6fb37c68f0ce7d7e9ece1fb94e4f14d740b2f3", func := "firetower/firetowerlaw02.RelayTimes", spec := "relayTimes", unfollowed := true, recurses := true, apart := false }
def RelayTimesSaid : Prop := relayTimesRow.holds Try.pinned (OpenSpec.ofChange relayTimesSpec)

/-- ITS FALSE NEIGHBOUR: 'it returns false'. Refute it at one input. -/
def relayTimesWrong : ChangeSpec := { name := "relayTimes", fn := fun _ => fun
  | [d1, d2, d3] => { results := [.lit (.bool false)], args := [d1, d2, d3] }
  | _ => none }
def RelayTimesWrongFalsely : Prop := relayTimesRow.holds Try.pinned (OpenSpec.ofChange relayTimesWrong)

/-- 'firetowerlaw02.RelayWays': WHATEVER THE INPUT: true; the input reads as it did. -/
def relayWaysSpec : ChangeSpec := { name := "relayWays", fn := fun _ => fun
  | [d1, d2, d3, d4, d5, d6] => { results := [.lit (.bool true)], args := [d1, d2, d3, d4, d5, d6] }
  | _ => none }
def relayWaysRow : OpenClaim := { program := "ytkhdnlojgoonkaa", sum := "c13a7ff09bb00477dffca7b07c6fb37c68f0ce7d7e9ece1fb94e4f14d740b2f3", func := "firetower/firetowerlaw02.RelayWays", spec := "relayWays", unfollowed := true, recurses := true, apart := false }
def RelayWaysSaid : Prop := relayWaysRow.holds Try.pinned (OpenSpec.ofChange relayWaysSpec)

/-- ITS FALSE NEIGHBOUR: 'it returns false'. Refute it at one input. -/
def relayWaysWrong : ChangeSpec := { name := "relayWays", fn := fun _ => fun
  | [d1, d2, d3, d4, d5, d6] => { results := [.lit (.bool false)], args := [d1, d2, d3, d4, d5, d6] }
  | _ => none }
def RelayWaysWrongFalsely : Prop := relayWaysRow.holds Try.pinned (OpenSpec.ofChange relayWaysWrong)

/-- 'firetowerlaw02.RelayProves': WHATEVER THE INPUT: true; the input reads as it did. -/
def relayProvesSpec : ChangeSpec := { name := "relayProves", fn := fun _ => fun
  | [d1, d2, d3, d4, d5, d6] => { results := [.lit (.bool true)], args := [d1, d2, d3, d4, d5, d6] }
  | _ => none }
def relayProvesRow : OpenClaim := { program := "ytkhdnlojgoonkaa", sum := "c13a7ff09bb00477dffca7b07c6fb37c68f0ce7d7e9ece1fb94e4f14d740b2f3", func := "firetower/firetowerlaw02.RelayProves", spec := "relayProves", unfollowed := true, recurses := true, apart := false }
def RelayProvesSaid : Prop := relayProvesRow.holds Try.pinned (OpenSpec.ofChange relayProvesSpec)

/-- ITS FALSE NEIGHBOUR: 'it returns false'. Refute it at one input. -/
def relayProvesWrong : ChangeSpec := { name := "relayProves", fn := fun _ => fun
  | [d1, d2, d3, d4, d5, d6] => { results := [.lit (.bool false)], args := [d1, d2, d3, d4, d5, d6] }
  | _ => none }
def RelayProvesWrongFalsely : Prop := relayProvesRow.holds Try.pinned (OpenSpec.ofChange relayProvesWrong)

/-- 'firetowerlaw02.RelayDual': WHATEVER THE INPUT: true; the input reads as it did. -/
def relayDualSpec : ChangeSpec := { name := "relayDual", fn := fun _ => fun
  | [d1, d2, d3, d4, d5, d6] => { results := [.lit (.bool true)], args := [d1, d2, d3, d4, d5, d6] }
  | _ => none }
def relayDualRow : OpenClaim := { program := "ytkhdnlojgoonkaa", sum := "c13a7ff09bb00477dffca7b07c6fb37c68f0ce7d7e9ece1fb94e4f14d740b2f3", func := "firetower/firetowerlaw02.RelayDual", spec := "relayDual", unfollowed := true, recurses := true, apart := false }
def RelayDualSaid : Prop := relayDualRow.holds Try.pinned (OpenSpec.ofChange relayDualSpec)

/-- ITS FALSE NEIGHBOUR: 'it returns false'. Refute it at one input. -/
def relayDualWrong : ChangeSpec := { name := "relayDual", fn := fun _ => fun
  | [d1, d2, d3, d4, d5, d6] => { results := [.lit (.bool false)], args := [d1, d2, d3, d4, d5, d6] }
  | _ => none }
def RelayDualWrongFalsely : Prop := relayDualRow.holds Try.pinned (OpenSpec.ofChange relayDualWrong)

/-- 'firetowerlaw02.RelayEdits': WHATEVER THE INPUT: true; the input reads as it did. -/
def relayEditsSpec : ChangeSpec := { name := "relayEdits", fn := fun _ => fun
  | [d1, d2, d3, d4, d5] => { results := [.lit (.bool true)], args := [d1, d2, d3, d4, d5] }
  | _ => none }
def relayEditsRow : OpenClaim := { program := "ytkhdnlojgoonkaa", sum := "c13a7ff09bb00477dffca7b07c6fb37c68f0ce7d7e9ece1fb94e4f14d740b2f3", func := "firetower/firetowerlaw02.RelayEdits", spec := "relayEdits", unfollowed := true, recurses := true, apart := false }
def RelayEditsSaid : Prop := relayEditsRow.holds Try.pinned (OpenSpec.ofChange relayEditsSpec)

/-- ITS FALSE NEIGHBOUR: 'it returns false'. Refute it at one input. -/
def relayEditsWrong : ChangeSpec := { name := "relayEdits", fn := fun _ => fun
  | [d1, d2, d3, d4, d5] => { results := [.lit (.bool false)], args := [d1, d2, d3, d4, d5] }
  | _ => none }
def RelayEditsWrongFalsely : Prop := relayEditsRow.holds Try.pinned (OpenSpec.ofChange relayEditsWrong)

/-- 'firetowerlaw02.RelayFewer': WHATEVER THE INPUT: true; the input reads as it did. -/
def relayFewerSpec : ChangeSpec := { name := "relayFewer", fn := fun _ => fun
  | [d1, d2, d3, d4, d5, d6] => { results := [.lit (.bool true)], args := [d1, d2, d3, d4, d5, d6] }
  | _ => none }
def relayFewerRow : OpenClaim := { program := "ytkhdnlojgoonkaa", sum := "c13a7ff09bb00477dffca7b07c6fb37c68f0ce7d7e9ece1fb94e4f14d740b2f3", func := "firetower/firetowerlaw02.RelayFewer", spec := "relayFewer", unfollowed := true, recurses := true, apart := false }
def RelayFewerSaid : Prop := relayFewerRow.holds Try.pinned (OpenSpec.ofChange relayFewerSpec)

/-- ITS FALSE NEIGHBOUR: 'it returns false'. Refute it at one input. -/
def relayFewerWrong : ChangeSpec := { name := "relayFewer", fn := fun _ => fun
  | [d1, d2, d3, d4, d5, d6] => { results := [.lit (.bool false)], args := [d1, d2, d3, d4, d5, d6] }
  | _ => none }
def RelayFewerWrongFalsely : Prop := relayFewerRow.holds Try.pinned (OpenSpec.ofChange relayFewerWrong)

/- THE SECOND FORM. 'bulk': how many values and letters a reading holds, each counted each time it is reached (what is shared counts as often as it is met; a slice's spare places count too). A statement '..UptoSaid' is the law's where the arguments, and the package variables that the reading takes, are together of bulk at most 1048576: NARROWER than '..Said'. Prove '..Said' where nothing that the law and all that it calls make is longer than what came in: it says more and counts as full. Else prove '..UptoSaid'. A law counts once. -/
mutual
def uptoBulk {H : Type} : DataW H → Nat
  | .lit (.string bytes) => bytes.length + 1
  | .lit _ => 1
  | .nil => 1
  | .ptr d => uptoBulk d + 1
  | .slice elems spare => uptoBulkAll elems + uptoBulkAll spare + 1
  | .agg parts => uptoBulkAll parts + 1
  | .iface _ d => uptoBulk d + 1
  | .map entries => uptoBulkEntries entries + 1
  | .held _ => 1
def uptoBulkAll {H : Type} : List (DataW H) → Nat
  | [] => 0
  | d :: r => uptoBulk d + uptoBulkAll r
def uptoBulkEntries {H : Type} : List (Lit × DataW H) → Nat
  | [] => 0
  | x :: r => uptoBulkEntry x + uptoBulkEntries r
def uptoBulkEntry {H : Type} : Lit × DataW H → Nat
  | (.string bytes, d) => bytes.length + uptoBulk d + 1
  | (_, d) => uptoBulk d + 1
 end
def uptoSmall : (H : Type) → List (DataW H) → Bool := fun _ ds => decide (uptoBulkAll ds ≤ 1048576)
def OpenSpec.upto (s : _root_.Go.ChangeSpec) : _root_.Go.OpenSpec := { _root_.Go.OpenSpec.ofChange s with cond := some uptoSmall }

/-- 'firetowerlaw02.RelayChecks', WHERE WHAT IT READS IS OF BULK AT MOST 1048576: true; the input reads as it did. -/
def relayChecksUptoRow : OpenClaim := { program := "ytkhdnlojgoonkaa", sum := "c13a7ff09bb00477dffca7b07c6fb37c68f0ce7d7e9ece1fb94e4f14d740b2f3", func := "firetower/firetowerlaw02.RelayChecks", spec := "relayChecks", unfollowed := true, recurses := true, apart := false, narrowed := true }
def RelayChecksUptoSaid : Prop := relayChecksUptoRow.holds Try.pinned (OpenSpec.upto relayChecksSpec)

/-- 'firetowerlaw02.RelayTimes', WHERE WHAT IT READS IS OF BULK AT MOST 1048576: true; the input reads as it did. -/
def relayTimesUptoRow : OpenClaim := { program := "ytkhdnlojgoonkaa", sum := "c13a7ff09bb00477dffca7b07c6fb37c68f0ce7d7e9ece1fb94e4f14d740b2f3", func := "firetower/firetowerlaw02.RelayTimes", spec := "relayTimes", unfollowed := true, recurses := true, apart := false, narrowed := true }
def RelayTimesUptoSaid : Prop := relayTimesUptoRow.holds Try.pinned (OpenSpec.upto relayTimesSpec)

/-- 'firetowerlaw02.RelayWays', WHERE WHAT IT READS IS OF BULK AT MOST 1048576: true; the input reads as it did. -/
def relayWaysUptoRow : OpenClaim := { program := "ytkhdnlojgoonkaa", sum := "c13a7ff09bb00477dffca7b07c6fb37c68f0ce7d7e9ece1fb94e4f14d740b2f3", func := "firetower/firetowerlaw02.RelayWays", spec := "relayWays", unfollowed := true, recurses := true, apart := false, narrowed := true }
def RelayWaysUptoSaid : Prop := relayWaysUptoRow.holds Try.pinned (OpenSpec.upto relayWaysSpec)

/-- 'firetowerlaw02.RelayProves', WHERE WHAT IT READS IS OF BULK AT MOST 1048576: true; the input reads as it did. -/
def relayProvesUptoRow : OpenClaim := { program := "ytkhdnlojgoonkaa", sum := "c13a7ff09bb00477dffca7b07c6fb37c68f0ce7d7e9ece1fb94e4f14d740b2f3", func := "firetower/firetowerlaw02.RelayProves", spec := "relayProves", unfollowed := true, recurses := true, apart := false, narrowed := true }
def RelayProvesUptoSaid : Prop := relayProvesUptoRow.holds Try.pinned (OpenSpec.upto relayProvesSpec)

/-- 'firetowerlaw02.RelayDual', WHERE WHAT IT READS IS OF BULK AT MOST 1048576: true; the input reads as it did. -/
def relayDualUptoRow : OpenClaim := { program := "ytkhdnlojgoonkaa", sum := "c13a7ff09bb00477dffca7b07c6fb37c68f0ce7d7e9ece1fb94e4f14d740b2f3", func := "firetower/firetowerlaw02.RelayDual", spec := "relayDual", unfollowed := true, recurses := true, apart := false, narrowed := true }
def RelayDualUptoSaid : Prop := relayDualUptoRow.holds Try.pinned (OpenSpec.upto relayDualSpec)

/-- 'firetowerlaw02.RelayEdits', WHERE WHAT IT READS IS OF BULK AT MOST 1048576: true; the input reads as it did. -/
def relayEditsUptoRow : OpenClaim := { program := "ytkhdnlojgoonkaa", sum := "c13a7ff09bb00477dffca7b07c6fb37c68f0ce7d7e9ece1fb94e4f14d740b2f3", func := "firetower/firetowerlaw02.RelayEdits", spec := "relayEdits", unfollowed := true, recurses := true, apart := false, narrowed := true }
def RelayEditsUptoSaid : Prop := relayEditsUptoRow.holds Try.pinned (OpenSpec.upto relayEditsSpec)

/-- 'firetowerlaw02.RelayFewer', WHERE WHAT IT READS IS OF BULK AT MOST 1048576: true; the input reads as it did. -/
def relayFewerUptoRow : OpenClaim := { program := "ytkhdnlojgoonkaa", sum := "c13a7ff09bb00477dffca7b07c6fb37c68f0ce7d7e9ece1fb94e4f14d740b2f3", func := "firetower/firetowerlaw02.RelayFewer", spec := "relayFewer", unfollowed := true, recurses := true, apart := false, narrowed := true }
def RelayFewerUptoSaid : Prop := relayFewerUptoRow.holds Try.pinned (OpenSpec.upto relayFewerSpec)

end Rows
end Go.Proofs.Ytkhdnlojgoonkaa
