/-
  DERIVED. GIVEN WITH THE SEED: THE CARDS: each row of YtbpbgiedemkciaaGreatDoorRows.lean that lists a variable, with what it lists TIED to the program's text (the seventh form; the later family's looks); each row that meets fmt, with fmt's text TOLD by the authors' own Lean function (tested against real Go, not proved from fmt's source: count such statements apart). THE CARD IS WHAT COUNTS. Prove the row's statement (the work); the ties are given (YtbpbgiedemkciaaGreatDoorTie.lean); close each card by the builder's one call (the guide's Derived/Test/ToyasCard.lean, 'card_holds'). Laid BY PROGRAM, IN A SANDBOX (cutbox-door.mjs). By AI agents, Wed Nov 11 2026. No macro, syntax, notation, axiom, sorry.
-/
import Derived.Test.YtbpbgiedemkciaaGreatDoorRows
import GoSem.ClaimSeven
namespace Go.Proofs.YtbpbgiedemkciaaGreatDoor
namespace Rows

/-- THE TIED CARD OF 'firetowerlaw08.WatchHolds'. -/
def watchHoldsCard : Claim7 := { stood := { row := watchHoldsRow, standIns := [], harness := (true, "7f88af9706763dd879e04b5b5c056214a3188392401f3d49669e03c3f4c7aeac"), looks := true }, kinds := [], alts := [], laidByText := true, laidKinds := [.data, .data, .data, .sentinel, .sentinel, .listed, .data], laidTests := true, laidLooks := .later }
def WatchHoldsCardSaid : Prop := Claim7.holds Tryz.pinned (.plain (OpenSpec.ofChange watchHoldsSpec)) watchHoldsCard

/-- THE TIED CARD OF 'firetowerlaw08.WatchCompares'. -/
def watchComparesCard : Claim7 := { stood := { row := watchComparesRow, standIns := [], harness := (true, "7f88af9706763dd879e04b5b5c056214a3188392401f3d49669e03c3f4c7aeac"), looks := true }, kinds := [], alts := [], laidByText := true, laidKinds := [.data, .data, .data, .sentinel, .sentinel, .listed, .data], laidTests := true, laidLooks := .later }
def WatchComparesCardSaid : Prop := Claim7.holds Tryz.pinned (.plain (OpenSpec.ofChange watchComparesSpec)) watchComparesCard

/-- THE TIED CARD OF 'firetowerlaw08.WatchInward'. -/
def watchInwardCard : Claim7 := { stood := { row := watchInwardRow, standIns := [], harness := (true, "7f88af9706763dd879e04b5b5c056214a3188392401f3d49669e03c3f4c7aeac"), looks := true }, kinds := [], alts := [], laidByText := true, laidKinds := [.data, .data, .data, .sentinel, .sentinel, .listed, .data], laidTests := true, laidLooks := .later }
def WatchInwardCardSaid : Prop := Claim7.holds Tryz.pinned (.plain (OpenSpec.ofChange watchInwardSpec)) watchInwardCard

/-- THE TIED CARD OF 'firetowerlaw08.WatchDecides'. -/
def watchDecidesCard : Claim7 := { stood := { row := watchDecidesRow, standIns := [], harness := (true, "7f88af9706763dd879e04b5b5c056214a3188392401f3d49669e03c3f4c7aeac"), looks := true }, kinds := [], alts := [], laidByText := true, laidKinds := [.data, .data, .data, .sentinel, .sentinel, .listed, .data], laidTests := true, laidLooks := .later }
def WatchDecidesCardSaid : Prop := Claim7.holds Tryz.pinned (.plain (OpenSpec.ofChange watchDecidesSpec)) watchDecidesCard

/-- THE TIED CARD OF 'firetowerlaw08.WatchOrders'. -/
def watchOrdersCard : Claim7 := { stood := { row := watchOrdersRow, standIns := [], harness := (true, "7f88af9706763dd879e04b5b5c056214a3188392401f3d49669e03c3f4c7aeac"), looks := true }, kinds := [], alts := [], laidByText := true, laidKinds := [.data, .data, .data, .sentinel, .sentinel, .listed, .data], laidTests := true, laidLooks := .later }
def WatchOrdersCardSaid : Prop := Claim7.holds Tryz.pinned (.plain (OpenSpec.ofChange watchOrdersSpec)) watchOrdersCard

/-- THE SECOND FORM's CARD OF 'firetowerlaw08.WatchHolds'. -/
def watchHoldsUptoCard : Claim7 := { stood := { row := watchHoldsUptoRow, standIns := [], harness := (true, "7f88af9706763dd879e04b5b5c056214a3188392401f3d49669e03c3f4c7aeac"), looks := true }, kinds := [], alts := [], laidByText := true, laidKinds := [.data, .data, .data, .sentinel, .sentinel, .listed, .data], laidTests := true, laidLooks := .later }
def WatchHoldsUptoCardSaid : Prop := Claim7.holds Tryz.pinned (.plain (OpenSpec.upto watchHoldsSpec)) watchHoldsUptoCard

/-- THE SECOND FORM's CARD OF 'firetowerlaw08.WatchCompares'. -/
def watchComparesUptoCard : Claim7 := { stood := { row := watchComparesUptoRow, standIns := [], harness := (true, "7f88af9706763dd879e04b5b5c056214a3188392401f3d49669e03c3f4c7aeac"), looks := true }, kinds := [], alts := [], laidByText := true, laidKinds := [.data, .data, .data, .sentinel, .sentinel, .listed, .data], laidTests := true, laidLooks := .later }
def WatchComparesUptoCardSaid : Prop := Claim7.holds Tryz.pinned (.plain (OpenSpec.upto watchComparesSpec)) watchComparesUptoCard

/-- THE SECOND FORM's CARD OF 'firetowerlaw08.WatchInward'. -/
def watchInwardUptoCard : Claim7 := { stood := { row := watchInwardUptoRow, standIns := [], harness := (true, "7f88af9706763dd879e04b5b5c056214a3188392401f3d49669e03c3f4c7aeac"), looks := true }, kinds := [], alts := [], laidByText := true, laidKinds := [.data, .data, .data, .sentinel, .sentinel, .listed, .data], laidTests := true, laidLooks := .later }
def WatchInwardUptoCardSaid : Prop := Claim7.holds Tryz.pinned (.plain (OpenSpec.upto watchInwardSpec)) watchInwardUptoCard

/-- THE SECOND FORM's CARD OF 'firetowerlaw08.WatchDecides'. -/
def watchDecidesUptoCard : Claim7 := { stood := { row := watchDecidesUptoRow, standIns := [], harness := (true, "7f88af9706763dd879e04b5b5c056214a3188392401f3d49669e03c3f4c7aeac"), looks := true }, kinds := [], alts := [], laidByText := true, laidKinds := [.data, .data, .data, .sentinel, .sentinel, .listed, .data], laidTests := true, laidLooks := .later }
def WatchDecidesUptoCardSaid : Prop := Claim7.holds Tryz.pinned (.plain (OpenSpec.upto watchDecidesSpec)) watchDecidesUptoCard

/-- THE SECOND FORM's CARD OF 'firetowerlaw08.WatchOrders'. -/
def watchOrdersUptoCard : Claim7 := { stood := { row := watchOrdersUptoRow, standIns := [], harness := (true, "7f88af9706763dd879e04b5b5c056214a3188392401f3d49669e03c3f4c7aeac"), looks := true }, kinds := [], alts := [], laidByText := true, laidKinds := [.data, .data, .data, .sentinel, .sentinel, .listed, .data], laidTests := true, laidLooks := .later }
def WatchOrdersUptoCardSaid : Prop := Claim7.holds Tryz.pinned (.plain (OpenSpec.upto watchOrdersSpec)) watchOrdersUptoCard
end Rows
end Go.Proofs.YtbpbgiedemkciaaGreatDoor
