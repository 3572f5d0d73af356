/-
  DERIVED. GIVEN WITH THE SEED: THE CARDS: each row of YtabidiilbgakoaaGreatDoorRows.lean that lists a variable, with what it lists TIED to the program's text (the seventh form; the later family's looks); each row that meets fmt, with fmt's text TOLD by the authors' own Lean function (tested against real Go, not proved from fmt's source: count such statements apart). THE CARD IS WHAT COUNTS. Prove the row's statement (the work); the ties are given (YtabidiilbgakoaaGreatDoorTie.lean); close each card by the builder's one call (the guide's Derived/Test/ToyasCard.lean, 'card_holds'). Laid BY PROGRAM, IN A SANDBOX (cutbox-door.mjs). By AI agents, Wed Nov 11 2026. No macro, syntax, notation, axiom, sorry.
-/
import Derived.Test.YtabidiilbgakoaaGreatDoorRows
import GoSem.ClaimSeven
namespace Go.Proofs.YtabidiilbgakoaaGreatDoor
namespace Rows

/-- THE TIED CARD OF 'firetowerlaw08.WatchVersions'. -/
def watchVersionsCard : Claim7 := { stood := { row := watchVersionsRow, standIns := [], harness := (true, "922ef50c5f81644739a0b131fa3a65a64f4f44ff822d58a7aa50b306f32e7076"), looks := true }, kinds := [], alts := [], laidByText := true, laidKinds := [.data, .data, .data, .sentinel, .sentinel, .listed, .data], laidTests := true, laidLooks := .later }
def WatchVersionsCardSaid : Prop := Claim7.holds Tryz.pinned (.plain (OpenSpec.ofChange watchVersionsSpec)) watchVersionsCard

/-- THE TIED CARD OF 'firetowerlaw08.WatchAdds'. -/
def watchAddsCard : Claim7 := { stood := { row := watchAddsRow, standIns := [], harness := (true, "922ef50c5f81644739a0b131fa3a65a64f4f44ff822d58a7aa50b306f32e7076"), looks := true }, kinds := [], alts := [], laidByText := true, laidKinds := [.data, .data, .data, .sentinel, .sentinel, .listed, .data], laidTests := true, laidLooks := .later }
def WatchAddsCardSaid : Prop := Claim7.holds Tryz.pinned (.plain (OpenSpec.ofChange watchAddsSpec)) watchAddsCard

/-- THE TIED CARD OF 'firetowerlaw08.WatchReads'. -/
def watchReadsCard : Claim7 := { stood := { row := watchReadsRow, standIns := [], harness := (true, "922ef50c5f81644739a0b131fa3a65a64f4f44ff822d58a7aa50b306f32e7076"), looks := true }, kinds := [], alts := [], laidByText := true, laidKinds := [.data, .data, .data, .sentinel, .sentinel, .listed, .data], laidTests := true, laidLooks := .later }
def WatchReadsCardSaid : Prop := Claim7.holds Tryz.pinned (.plain (OpenSpec.ofChange watchReadsSpec)) watchReadsCard

/-- THE TIED CARD OF 'firetowerlaw08.WatchPrints'. -/
def watchPrintsCard : Claim7 := { stood := { row := watchPrintsRow, standIns := [], harness := (true, "922ef50c5f81644739a0b131fa3a65a64f4f44ff822d58a7aa50b306f32e7076"), looks := true }, kinds := [], alts := [], laidByText := true, laidKinds := [.data, .data, .data, .sentinel, .sentinel, .listed, .data], laidTests := true, laidLooks := .later }
def WatchPrintsCardSaid : Prop := Claim7.holds Tryz.pinned (.plain (OpenSpec.ofChange watchPrintsSpec)) watchPrintsCard

/-- THE TIED CARD OF 'firetowerlaw08.WatchTexts'. -/
def watchTextsCard : Claim7 := { stood := { row := watchTextsRow, standIns := [], harness := (true, "922ef50c5f81644739a0b131fa3a65a64f4f44ff822d58a7aa50b306f32e7076"), looks := true }, kinds := [], alts := [], laidByText := true, laidKinds := [.data, .data, .data, .sentinel, .sentinel, .listed, .data], laidTests := true, laidLooks := .later }
def WatchTextsCardSaid : Prop := Claim7.holds Tryz.pinned (.plain (OpenSpec.ofChange watchTextsSpec)) watchTextsCard

/-- THE SECOND FORM's CARD OF 'firetowerlaw08.WatchVersions'. -/
def watchVersionsUptoCard : Claim7 := { stood := { row := watchVersionsUptoRow, standIns := [], harness := (true, "922ef50c5f81644739a0b131fa3a65a64f4f44ff822d58a7aa50b306f32e7076"), looks := true }, kinds := [], alts := [], laidByText := true, laidKinds := [.data, .data, .data, .sentinel, .sentinel, .listed, .data], laidTests := true, laidLooks := .later }
def WatchVersionsUptoCardSaid : Prop := Claim7.holds Tryz.pinned (.plain (OpenSpec.upto watchVersionsSpec)) watchVersionsUptoCard

/-- THE SECOND FORM's CARD OF 'firetowerlaw08.WatchAdds'. -/
def watchAddsUptoCard : Claim7 := { stood := { row := watchAddsUptoRow, standIns := [], harness := (true, "922ef50c5f81644739a0b131fa3a65a64f4f44ff822d58a7aa50b306f32e7076"), looks := true }, kinds := [], alts := [], laidByText := true, laidKinds := [.data, .data, .data, .sentinel, .sentinel, .listed, .data], laidTests := true, laidLooks := .later }
def WatchAddsUptoCardSaid : Prop := Claim7.holds Tryz.pinned (.plain (OpenSpec.upto watchAddsSpec)) watchAddsUptoCard

/-- THE SECOND FORM's CARD OF 'firetowerlaw08.WatchReads'. -/
def watchReadsUptoCard : Claim7 := { stood := { row := watchReadsUptoRow, standIns := [], harness := (true, "922ef50c5f81644739a0b131fa3a65a64f4f44ff822d58a7aa50b306f32e7076"), looks := true }, kinds := [], alts := [], laidByText := true, laidKinds := [.data, .data, .data, .sentinel, .sentinel, .listed, .data], laidTests := true, laidLooks := .later }
def WatchReadsUptoCardSaid : Prop := Claim7.holds Tryz.pinned (.plain (OpenSpec.upto watchReadsSpec)) watchReadsUptoCard

/-- THE SECOND FORM's CARD OF 'firetowerlaw08.WatchPrints'. -/
def watchPrintsUptoCard : Claim7 := { stood := { row := watchPrintsUptoRow, standIns := [], harness := (true, "922ef50c5f81644739a0b131fa3a65a64f4f44ff822d58a7aa50b306f32e7076"), looks := true }, kinds := [], alts := [], laidByText := true, laidKinds := [.data, .data, .data, .sentinel, .sentinel, .listed, .data], laidTests := true, laidLooks := .later }
def WatchPrintsUptoCardSaid : Prop := Claim7.holds Tryz.pinned (.plain (OpenSpec.upto watchPrintsSpec)) watchPrintsUptoCard

/-- THE SECOND FORM's CARD OF 'firetowerlaw08.WatchTexts'. -/
def watchTextsUptoCard : Claim7 := { stood := { row := watchTextsUptoRow, standIns := [], harness := (true, "922ef50c5f81644739a0b131fa3a65a64f4f44ff822d58a7aa50b306f32e7076"), looks := true }, kinds := [], alts := [], laidByText := true, laidKinds := [.data, .data, .data, .sentinel, .sentinel, .listed, .data], laidTests := true, laidLooks := .later }
def WatchTextsUptoCardSaid : Prop := Claim7.holds Tryz.pinned (.plain (OpenSpec.upto watchTextsSpec)) watchTextsUptoCard
end Rows
end Go.Proofs.YtabidiilbgakoaaGreatDoor
