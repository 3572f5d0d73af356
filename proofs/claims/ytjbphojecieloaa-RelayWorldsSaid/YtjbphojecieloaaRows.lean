/-
  No cell of these rows narrows 'for every input' (looked for: loops, veiled, ifaces, maps, wideKeys, modest, calm, conditions, laid).
  DERIVED. THE GIVEN ROWS OF THIS SEAT. 4 by the template 'for every input the law returns true; each argument reads behind the call as it read before'; 0 by the template 'total and deterministic' (their statements: YtjbphojecieloaaTotals.lean).
  GIVEN WITH THE SEED: the statements are not yours to turn. If you find one false, say at which input.
  Laid BY PROGRAM, IN A SANDBOX (cutbox-rows.mjs): the forced cells as the released guide's own fill.sh prints them over the translation 1952223f4a6d7054… (all of the seat's roots in one cut). By AI agents, Wed Nov 11 2026. No macro, syntax, notation, axiom, sorry.
-/
import Derived.Test.YtjbphojecieloaaChecked
import GoSem.Claim
import GoSem.ClaimJoined
import GoSem.ClaimMapViews
import Derived.JoinedTies
import Derived.KernelRfl
namespace Go.Proofs.Ytjbphojecieloaa
/- THE CELL 'sum', in the pinned program and in every row, IS THE sha256 OF THE DUMP (.gsa) THAT YtjbphojecieloaaProg.lean LOADS. Nothing in Lean hashes anything: it is a label: what it is worth is what the hold of that sum in a sandbox is worth. -/
noncomputable def Try.pinned : Pinned := { name := "ytjbphojecieloaa", sum := "1952223f4a6d7054b277e04954b09ee6a07ec9c832711880ddb40213c0a12dbb", checked := Try.checked }
namespace Rows
def none {H : Type} : Left H := { results := [], args := [] }

/-- 'firetowerlaw02.RelayAlone': WHATEVER THE INPUT: true; the input reads as it did. -/
def relayAloneSpec : ChangeSpec := { name := "relayAlone", fn := fun _ => fun
  | [d1, d2, d3, d4, d5] => { results := [.lit (.bool true)], args := [d1, d2, d3, d4, d5] }
  | _ => none }
def relayAloneRow : OpenClaim := { program := "ytjbphojecieloaa", sum := "1952223f4a6d7054b277e04954b09ee6a07ec9c832711880ddb40213c0a12dbb", func := "firetower/firetowerlaw02.RelayAlone", spec := "relayAlone", unfollowed := true, recurses := true, plainKeys := false, apart := false }
def RelayAloneSaid : Prop := relayAloneRow.holds Try.pinned (OpenSpec.ofChange relayAloneSpec)

/-- ITS FALSE NEIGHBOUR: 'it returns false'. Refute it at one input. -/
def relayAloneWrong : ChangeSpec := { name := "relayAlone", fn := fun _ => fun
  | [d1, d2, d3, d4, d5] => { results := [.lit (.bool false)], args := [d1, d2, d3, d4, d5] }
  | _ => none }
def RelayAloneWrongFalsely : Prop := relayAloneRow.holds Try.pinned (OpenSpec.ofChange relayAloneWrong)

/-- 'firetowerlaw02.RelayOnce': WHATEVER THE INPUT: true; the input reads as it did. -/
def relayOnceSpec : ChangeSpec := { name := "relayOnce", fn := fun _ => fun
  | [d1, d2, d3] => { results := [.lit (.bool true)], args := [d1, d2, d3] }
  | _ => none }
def relayOnceRow : OpenClaim := { program := "ytjbphojecieloaa", sum := "1952223f4a6d7054b277e04954b09ee6a07ec9c832711880ddb40213c0a12dbb", func := "firetower/firetowerlaw02.RelayOnce", spec := "relayOnce", unfollowed := true, recurses := true, plainKeys := false, apart := false }
def RelayOnceSaid : Prop := relayOnceRow.holds Try.pinned (OpenSpec.ofChange relayOnceSpec)

/-- ITS FALSE NEIGHBOUR: 'it returns false'. Refute it at one input. -/
def relayOnceWrong : ChangeSpec := { name := "relayOnce", fn := fun _ => fun
  | [d1, d2, d3] => { results := [.lit (.bool false)], args := [d1, d2, d3] }
  | _ => none }
def RelayOnceWrongFalsely : Prop := relayOnceRow.holds Try.pinned (OpenSpec.ofChange relayOnceWrong)

/-- 'firetowerlaw02.RelayWorlds': WHATEVER THE INPUT: true; the input reads as it did. -/
def relayWorldsSpec : ChangeSpec := { name := "relayWorlds", fn := fun _ => fun
  | [d1, d2, d3, d4, d5] => { results := [.lit (.bool true)], args := [d1, d2, d3, d4, d5] }
  | _ => none }
def relayWorldsRow : OpenClaim := { program := "ytjbphojecieloaa", sum := "1952223f4a6d7054b277e04954b09ee6a07ec9c832711880ddb40213c0a12dbb", func := "firetower/firetowerlaw02.RelayWorlds", spec := "relayWorlds", unfollowed := true, recurses := true, plainKeys := false, apart := false }
def RelayWorldsSaid : Prop := relayWorldsRow.holds Try.pinned (OpenSpec.ofChange relayWorldsSpec)

/-- ITS FALSE NEIGHBOUR: 'it returns false'. Refute it at one input. -/
def relayWorldsWrong : ChangeSpec := { name := "relayWorlds", fn := fun _ => fun
  | [d1, d2, d3, d4, d5] => { results := [.lit (.bool false)], args := [d1, d2, d3, d4, d5] }
  | _ => none }
def RelayWorldsWrongFalsely : Prop := relayWorldsRow.holds Try.pinned (OpenSpec.ofChange relayWorldsWrong)

/-- 'firetowerlaw02.RelayInTheEnd': WHATEVER THE INPUT: true; the input reads as it did. -/
def relayInTheEndSpec : ChangeSpec := { name := "relayInTheEnd", fn := fun _ => fun
  | [d1, d2, d3, d4] => { results := [.lit (.bool true)], args := [d1, d2, d3, d4] }
  | _ => none }
def relayInTheEndRow : OpenClaim := { program := "ytjbphojecieloaa", sum := "1952223f4a6d7054b277e04954b09ee6a07ec9c832711880ddb40213c0a12dbb", func := "firetower/firetowerlaw02.RelayInTheEnd", spec := "relayInTheEnd", unfollowed := true, recurses := true, plainKeys := false, apart := false }
def RelayInTheEndSaid : Prop := relayInTheEndRow.holds Try.pinned (OpenSpec.ofChange relayInTheEndSpec)

/-- ITS FALSE NEIGHBOUR: 'it returns false'. Refute it at one input. -/
def relayInTheEndWrong : ChangeSpec := { name := "relayInTheEnd", fn := fun _ => fun
  | [d1, d2, d3, d4] => { results := [.lit (.bool false)], args := [d1, d2, d3, d4] }
  | _ => none }
def RelayInTheEndWrongFalsely : Prop := relayInTheEndRow.holds Try.pinned (OpenSpec.ofChange relayInTheEndWrong)

/- THE SECOND FORM. 'bulk': how many values and letters a reading holds, each counted each time it is reached (what is shared counts as often as it is met; a slice's spare places count too). A statement '..UptoSaid' is the law's where the arguments, and the package variables that the reading takes, are together of bulk at most 1048576: NARROWER than '..Said'. Prove '..Said' where nothing that the law and all that it calls make is longer than what came in: it says more and counts as full. Else prove '..UptoSaid'. A law counts once. -/
mutual
def uptoBulk {H : Type} : DataW H → Nat
  | .lit (.string bytes) => bytes.length + 1
  | .lit _ => 1
  | .nil => 1
  | .ptr d => uptoBulk d + 1
  | .slice elems spare => uptoBulkAll elems + uptoBulkAll spare + 1
  | .agg parts => uptoBulkAll parts + 1
  | .iface _ d => uptoBulk d + 1
  | .map entries => uptoBulkEntries entries + 1
  | .held _ => 1
def uptoBulkAll {H : Type} : List (DataW H) → Nat
  | [] => 0
  | d :: r => uptoBulk d + uptoBulkAll r
def uptoBulkEntries {H : Type} : List (Lit × DataW H) → Nat
  | [] => 0
  | x :: r => uptoBulkEntry x + uptoBulkEntries r
def uptoBulkEntry {H : Type} : Lit × DataW H → Nat
  | (.string bytes, d) => bytes.length + uptoBulk d + 1
  | (_, d) => uptoBulk d + 1
 end
def uptoSmall : (H : Type) → List (DataW H) → Bool := fun _ ds => decide (uptoBulkAll ds ≤ 1048576)
def OpenSpec.upto (s : _root_.Go.ChangeSpec) : _root_.Go.OpenSpec := { _root_.Go.OpenSpec.ofChange s with cond := some uptoSmall }

/-- 'firetowerlaw02.RelayAlone', WHERE WHAT IT READS IS OF BULK AT MOST 1048576: true; the input reads as it did. -/
def relayAloneUptoRow : OpenClaim := { program := "ytjbphojecieloaa", sum := "1952223f4a6d7054b277e04954b09ee6a07ec9c832711880ddb40213c0a12dbb", func := "firetower/firetowerlaw02.RelayAlone", spec := "relayAlone", unfollowed := true, recurses := true, plainKeys := false, apart := false, narrowed := true }
def RelayAloneUptoSaid : Prop := relayAloneUptoRow.holds Try.pinned (OpenSpec.upto relayAloneSpec)

/-- 'firetowerlaw02.RelayOnce', WHERE WHAT IT READS IS OF BULK AT MOST 1048576: true; the input reads as it did. -/
def relayOnceUptoRow : OpenClaim := { program := "ytjbphojecieloaa", sum := "1952223f4a6d7054b277e04954b09ee6a07ec9c832711880ddb40213c0a12dbb", func := "firetower/firetowerlaw02.RelayOnce", spec := "relayOnce", unfollowed := true, recurses := true, plainKeys := false, apart := false, narrowed := true }
def RelayOnceUptoSaid : Prop := relayOnceUptoRow.holds Try.pinned (OpenSpec.upto relayOnceSpec)

/-- 'firetowerlaw02.RelayWorlds', WHERE WHAT IT READS IS OF BULK AT MOST 1048576: true; the input reads as it did. -/
def relayWorldsUptoRow : OpenClaim := { program := "ytjbphojecieloaa", sum := "1952223f4a6d7054b277e04954b09ee6a07ec9c832711880ddb40213c0a12dbb", func := "firetower/firetowerlaw02.RelayWorlds", spec := "relayWorlds", unfollowed := true, recurses := true, plainKeys := false, apart := false, narrowed := true }
def RelayWorldsUptoSaid : Prop := relayWorldsUptoRow.holds Try.pinned (OpenSpec.upto relayWorldsSpec)

/-- 'firetowerlaw02.RelayInTheEnd', WHERE WHAT IT READS IS OF BULK AT MOST 1048576: true; the input reads as it did. -/
def relayInTheEndUptoRow : OpenClaim := { program := "ytjbphojecieloaa", sum := "1952223f4a6d7054b277e04954b09ee6a07ec9c832711880ddb40213c0a12dbb", func := "firetower/firetowerlaw02.RelayInTheEnd", spec := "relayInTheEnd", unfollowed := true, recurses := true, plainKeys := false, apart := false, narrowed := true }
def RelayInTheEndUptoSaid : Prop := relayInTheEndUptoRow.holds Try.pinned (OpenSpec.upto relayInTheEndSpec)

end Rows
end Go.Proofs.Ytjbphojecieloaa
