/-
  DERIVED. GIVEN WITH THE SEED: THE CARDS: each row of YtkbgmkhdjmkpdaaGreatDoorRows.lean that lists a variable, with what it lists TIED to the program's text (the seventh form; the later family's looks); each row that meets fmt, with fmt's text TOLD by the authors' own Lean function (tested against real Go, not proved from fmt's source: count such statements apart). THE CARD IS WHAT COUNTS. Prove the row's statement (the work); the ties are given (YtkbgmkhdjmkpdaaGreatDoorTie.lean); close each card by the builder's one call (the guide's Derived/Test/ToyasCard.lean, 'card_holds'). Laid BY PROGRAM, IN A SANDBOX (cutbox-door.mjs). By AI agents, Wed Nov 11 2026. No macro, syntax, notation, axiom, sorry.
-/
import Derived.Test.YtkbgmkhdjmkpdaaGreatDoorRows
import GoSem.ClaimSeven
namespace Go.Proofs.YtkbgmkhdjmkpdaaGreatDoor
namespace Rows

/-- THE TIED CARD OF 'firetowerlaw08.WatchDuties'. -/
def watchDutiesCard : Claim7 := { stood := { row := watchDutiesRow, standIns := [], harness := (true, "ad49ae23bb6be3db8212b746a1fb08a029b97aebebca6f3eca121ef139cc400f"), looks := true }, kinds := [], alts := [], laidByText := true, laidKinds := [.data, .data, .data, .sentinel, .sentinel, .listed, .data], laidTests := true, laidLooks := .later }
def WatchDutiesCardSaid : Prop := Claim7.holds Tryz.pinned (.plain (OpenSpec.ofChange watchDutiesSpec)) watchDutiesCard

/-- THE TIED CARD OF 'firetowerlaw08.WatchCounts'. -/
def watchCountsCard : Claim7 := { stood := { row := watchCountsRow, standIns := [], harness := (true, "ad49ae23bb6be3db8212b746a1fb08a029b97aebebca6f3eca121ef139cc400f"), looks := true }, kinds := [], alts := [], laidByText := true, laidKinds := [.data, .data, .data, .sentinel, .sentinel, .listed, .data], laidTests := true, laidLooks := .later }
def WatchCountsCardSaid : Prop := Claim7.holds Tryz.pinned (.plain (OpenSpec.ofChange watchCountsSpec)) watchCountsCard

/-- THE TIED CARD OF 'firetowerlaw08.WatchRosters'. -/
def watchRostersCard : Claim7 := { stood := { row := watchRostersRow, standIns := [], harness := (true, "ad49ae23bb6be3db8212b746a1fb08a029b97aebebca6f3eca121ef139cc400f"), looks := true }, kinds := [], alts := [], laidByText := true, laidKinds := [.data, .data, .data, .sentinel, .sentinel, .listed, .data], laidTests := true, laidLooks := .later }
def WatchRostersCardSaid : Prop := Claim7.holds Tryz.pinned (.plain (OpenSpec.ofChange watchRostersSpec)) watchRostersCard

/-- THE TIED CARD OF 'firetowerlaw08.WatchPlain'. -/
def watchPlainCard : Claim7 := { stood := { row := watchPlainRow, standIns := [], harness := (true, "ad49ae23bb6be3db8212b746a1fb08a029b97aebebca6f3eca121ef139cc400f"), looks := true }, kinds := [], alts := [], laidByText := true, laidKinds := [.data, .data, .data, .sentinel, .sentinel, .listed, .data], laidTests := true, laidLooks := .later }
def WatchPlainCardSaid : Prop := Claim7.holds Tryz.pinned (.plain (OpenSpec.ofChange watchPlainSpec)) watchPlainCard

/-- THE TIED CARD OF 'firetowerlaw08.WatchLooks'. -/
def watchLooksCard : Claim7 := { stood := { row := watchLooksRow, standIns := [], harness := (true, "ad49ae23bb6be3db8212b746a1fb08a029b97aebebca6f3eca121ef139cc400f"), looks := true }, kinds := [], alts := [], laidByText := true, laidKinds := [.data, .data, .data, .sentinel, .sentinel, .listed, .data], laidTests := true, laidLooks := .later }
def WatchLooksCardSaid : Prop := Claim7.holds Tryz.pinned (.plain (OpenSpec.ofChange watchLooksSpec)) watchLooksCard

/-- THE SECOND FORM's CARD OF 'firetowerlaw08.WatchDuties'. -/
def watchDutiesUptoCard : Claim7 := { stood := { row := watchDutiesUptoRow, standIns := [], harness := (true, "ad49ae23bb6be3db8212b746a1fb08a029b97aebebca6f3eca121ef139cc400f"), looks := true }, kinds := [], alts := [], laidByText := true, laidKinds := [.data, .data, .data, .sentinel, .sentinel, .listed, .data], laidTests := true, laidLooks := .later }
def WatchDutiesUptoCardSaid : Prop := Claim7.holds Tryz.pinned (.plain (OpenSpec.upto watchDutiesSpec)) watchDutiesUptoCard

/-- THE SECOND FORM's CARD OF 'firetowerlaw08.WatchCounts'. -/
def watchCountsUptoCard : Claim7 := { stood := { row := watchCountsUptoRow, standIns := [], harness := (true, "ad49ae23bb6be3db8212b746a1fb08a029b97aebebca6f3eca121ef139cc400f"), looks := true }, kinds := [], alts := [], laidByText := true, laidKinds := [.data, .data, .data, .sentinel, .sentinel, .listed, .data], laidTests := true, laidLooks := .later }
def WatchCountsUptoCardSaid : Prop := Claim7.holds Tryz.pinned (.plain (OpenSpec.upto watchCountsSpec)) watchCountsUptoCard

/-- THE SECOND FORM's CARD OF 'firetowerlaw08.WatchRosters'. -/
def watchRostersUptoCard : Claim7 := { stood := { row := watchRostersUptoRow, standIns := [], harness := (true, "ad49ae23bb6be3db8212b746a1fb08a029b97aebebca6f3eca121ef139cc400f"), looks := true }, kinds := [], alts := [], laidByText := true, laidKinds := [.data, .data, .data, .sentinel, .sentinel, .listed, .data], laidTests := true, laidLooks := .later }
def WatchRostersUptoCardSaid : Prop := Claim7.holds Tryz.pinned (.plain (OpenSpec.upto watchRostersSpec)) watchRostersUptoCard

/-- THE SECOND FORM's CARD OF 'firetowerlaw08.WatchPlain'. -/
def watchPlainUptoCard : Claim7 := { stood := { row := watchPlainUptoRow, standIns := [], harness := (true, "ad49ae23bb6be3db8212b746a1fb08a029b97aebebca6f3eca121ef139cc400f"), looks := true }, kinds := [], alts := [], laidByText := true, laidKinds := [.data, .data, .data, .sentinel, .sentinel, .listed, .data], laidTests := true, laidLooks := .later }
def WatchPlainUptoCardSaid : Prop := Claim7.holds Tryz.pinned (.plain (OpenSpec.upto watchPlainSpec)) watchPlainUptoCard

/-- THE SECOND FORM's CARD OF 'firetowerlaw08.WatchLooks'. -/
def watchLooksUptoCard : Claim7 := { stood := { row := watchLooksUptoRow, standIns := [], harness := (true, "ad49ae23bb6be3db8212b746a1fb08a029b97aebebca6f3eca121ef139cc400f"), looks := true }, kinds := [], alts := [], laidByText := true, laidKinds := [.data, .data, .data, .sentinel, .sentinel, .listed, .data], laidTests := true, laidLooks := .later }
def WatchLooksUptoCardSaid : Prop := Claim7.holds Tryz.pinned (.plain (OpenSpec.upto watchLooksSpec)) watchLooksUptoCard
end Rows
end Go.Proofs.YtkbgmkhdjmkpdaaGreatDoor
