/-
  DERIVED. GIVEN WITH THE SEED: THE CARDS: each row of YtdjdhecanjmchaaGreatDoorRows.lean that lists a variable, with what it lists TIED to the program's text (the seventh form; the later family's looks); each row that meets fmt, with fmt's text TOLD by the authors' own Lean function (tested against real Go, not proved from fmt's source: count such statements apart). THE CARD IS WHAT COUNTS. Prove the row's statement (the work); the ties are given (YtdjdhecanjmchaaGreatDoorTie.lean); close each card by the builder's one call (the guide's Derived/Test/ToyasCard.lean, 'card_holds'). Laid BY PROGRAM, IN A SANDBOX (cutbox-door.mjs). By AI agents, Wed Nov 11 2026. No macro, syntax, notation, axiom, sorry.
-/
import Derived.Test.YtdjdhecanjmchaaGreatDoorRows
import GoSem.ClaimSeven
namespace Go.Proofs.YtdjdhecanjmchaaGreatDoor
namespace Rows

/-- THE TIED CARD OF 'asoflaw29.DatasetMakes'. -/
def datasetMakesCard : Claim7 := { stood := { row := datasetMakesRow, standIns := [], harness := (true, "1eb533d5aa8f51eae6762b144fccefb55269821328c5f7d2b88666c0f68b7033"), looks := true }, kinds := [], alts := [], laidByText := true, laidKinds := [.data, .data, .data], laidTests := true, laidLooks := .later }
def DatasetMakesCardSaid : Prop := Claim7.holds Tryz.pinned (.plain (OpenSpec.ofChange datasetMakesSpec)) datasetMakesCard

/-- THE TIED CARD OF 'asoflaw29.DatasetPrints'. -/
def datasetPrintsCard : Claim7 := { stood := { row := datasetPrintsRow, standIns := [], harness := (true, "1eb533d5aa8f51eae6762b144fccefb55269821328c5f7d2b88666c0f68b7033"), looks := true }, kinds := [], alts := [], laidByText := true, laidKinds := [.data, .data, .data], laidTests := true, laidLooks := .later }
def DatasetPrintsCardSaid : Prop := Claim7.holds Tryz.pinned (.plain (OpenSpec.ofChange datasetPrintsSpec)) datasetPrintsCard

/-- THE TIED CARD OF 'asoflaw29.DatasetBack'. -/
def datasetBackCard : Claim7 := { stood := { row := datasetBackRow, standIns := [], harness := (true, "1eb533d5aa8f51eae6762b144fccefb55269821328c5f7d2b88666c0f68b7033"), looks := true }, kinds := [], alts := [], laidByText := true, laidKinds := [.data, .data, .data], laidTests := true, laidLooks := .later }
def DatasetBackCardSaid : Prop := Claim7.holds Tryz.pinned (.plain (OpenSpec.ofChange datasetBackSpec)) datasetBackCard

/-- THE TIED CARD OF 'asoflaw29.DatasetDamage'. -/
def datasetDamageCard : Claim7 := { stood := { row := datasetDamageRow, standIns := [], harness := (true, "1eb533d5aa8f51eae6762b144fccefb55269821328c5f7d2b88666c0f68b7033"), looks := true }, kinds := [], alts := [], laidByText := true, laidKinds := [.data, .data, .data], laidTests := true, laidLooks := .later }
def DatasetDamageCardSaid : Prop := Claim7.holds Tryz.pinned (.plain (OpenSpec.ofChange datasetDamageSpec)) datasetDamageCard

/-- THE TIED CARD OF 'asoflaw29.DatasetLabels'. -/
def datasetLabelsCard : Claim7 := { stood := { row := datasetLabelsRow, standIns := [], harness := (true, "1eb533d5aa8f51eae6762b144fccefb55269821328c5f7d2b88666c0f68b7033"), looks := true }, kinds := [], alts := [], laidByText := true, laidKinds := [.data, .data, .data], laidTests := true, laidLooks := .later }
def DatasetLabelsCardSaid : Prop := Claim7.holds Tryz.pinned (.plain (OpenSpec.ofChange datasetLabelsSpec)) datasetLabelsCard

/-- THE TIED CARD OF 'asoflaw29.DatasetBytes'. -/
def datasetBytesCard : Claim7 := { stood := { row := datasetBytesRow, standIns := [], harness := (true, "1eb533d5aa8f51eae6762b144fccefb55269821328c5f7d2b88666c0f68b7033"), looks := true }, kinds := [], alts := [], laidByText := true, laidKinds := [.data, .data, .data], laidTests := true, laidLooks := .later }
def DatasetBytesCardSaid : Prop := Claim7.holds Tryz.pinned (.plain (OpenSpec.ofChange datasetBytesSpec)) datasetBytesCard

/-- THE TIED CARD OF 'asoflaw29.DatasetDiffers'. -/
def datasetDiffersCard : Claim7 := { stood := { row := datasetDiffersRow, standIns := [], harness := (true, "1eb533d5aa8f51eae6762b144fccefb55269821328c5f7d2b88666c0f68b7033"), looks := true }, kinds := [], alts := [], laidByText := true, laidKinds := [.data, .data, .data], laidTests := true, laidLooks := .later }
def DatasetDiffersCardSaid : Prop := Claim7.holds Tryz.pinned (.plain (OpenSpec.ofChange datasetDiffersSpec)) datasetDiffersCard

/-- THE TIED CARD OF 'asoflaw29.DatasetLines'. -/
def datasetLinesCard : Claim7 := { stood := { row := datasetLinesRow, standIns := [], harness := (true, "1eb533d5aa8f51eae6762b144fccefb55269821328c5f7d2b88666c0f68b7033"), looks := true }, kinds := [], alts := [], laidByText := true, laidKinds := [.data, .data, .data, .data, .sentinel, .sentinel, .data, .pinned], laidTests := true, laidLooks := .later }
def DatasetLinesCardSaid : Prop := Claim7.holds Tryz.pinned (.plain (OpenSpec.ofChange datasetLinesSpec)) datasetLinesCard

/-- THE SECOND FORM's CARD OF 'asoflaw29.DatasetMakes'. -/
def datasetMakesUptoCard : Claim7 := { stood := { row := datasetMakesUptoRow, standIns := [], harness := (true, "1eb533d5aa8f51eae6762b144fccefb55269821328c5f7d2b88666c0f68b7033"), looks := true }, kinds := [], alts := [], laidByText := true, laidKinds := [.data, .data, .data], laidTests := true, laidLooks := .later }
def DatasetMakesUptoCardSaid : Prop := Claim7.holds Tryz.pinned (.plain (OpenSpec.upto datasetMakesSpec)) datasetMakesUptoCard

/-- THE SECOND FORM's CARD OF 'asoflaw29.DatasetPrints'. -/
def datasetPrintsUptoCard : Claim7 := { stood := { row := datasetPrintsUptoRow, standIns := [], harness := (true, "1eb533d5aa8f51eae6762b144fccefb55269821328c5f7d2b88666c0f68b7033"), looks := true }, kinds := [], alts := [], laidByText := true, laidKinds := [.data, .data, .data], laidTests := true, laidLooks := .later }
def DatasetPrintsUptoCardSaid : Prop := Claim7.holds Tryz.pinned (.plain (OpenSpec.upto datasetPrintsSpec)) datasetPrintsUptoCard

/-- THE SECOND FORM's CARD OF 'asoflaw29.DatasetBack'. -/
def datasetBackUptoCard : Claim7 := { stood := { row := datasetBackUptoRow, standIns := [], harness := (true, "1eb533d5aa8f51eae6762b144fccefb55269821328c5f7d2b88666c0f68b7033"), looks := true }, kinds := [], alts := [], laidByText := true, laidKinds := [.data, .data, .data], laidTests := true, laidLooks := .later }
def DatasetBackUptoCardSaid : Prop := Claim7.holds Tryz.pinned (.plain (OpenSpec.upto datasetBackSpec)) datasetBackUptoCard

/-- THE SECOND FORM's CARD OF 'asoflaw29.DatasetDamage'. -/
def datasetDamageUptoCard : Claim7 := { stood := { row := datasetDamageUptoRow, standIns := [], harness := (true, "1eb533d5aa8f51eae6762b144fccefb55269821328c5f7d2b88666c0f68b7033"), looks := true }, kinds := [], alts := [], laidByText := true, laidKinds := [.data, .data, .data], laidTests := true, laidLooks := .later }
def DatasetDamageUptoCardSaid : Prop := Claim7.holds Tryz.pinned (.plain (OpenSpec.upto datasetDamageSpec)) datasetDamageUptoCard

/-- THE SECOND FORM's CARD OF 'asoflaw29.DatasetLabels'. -/
def datasetLabelsUptoCard : Claim7 := { stood := { row := datasetLabelsUptoRow, standIns := [], harness := (true, "1eb533d5aa8f51eae6762b144fccefb55269821328c5f7d2b88666c0f68b7033"), looks := true }, kinds := [], alts := [], laidByText := true, laidKinds := [.data, .data, .data], laidTests := true, laidLooks := .later }
def DatasetLabelsUptoCardSaid : Prop := Claim7.holds Tryz.pinned (.plain (OpenSpec.upto datasetLabelsSpec)) datasetLabelsUptoCard

/-- THE SECOND FORM's CARD OF 'asoflaw29.DatasetBytes'. -/
def datasetBytesUptoCard : Claim7 := { stood := { row := datasetBytesUptoRow, standIns := [], harness := (true, "1eb533d5aa8f51eae6762b144fccefb55269821328c5f7d2b88666c0f68b7033"), looks := true }, kinds := [], alts := [], laidByText := true, laidKinds := [.data, .data, .data], laidTests := true, laidLooks := .later }
def DatasetBytesUptoCardSaid : Prop := Claim7.holds Tryz.pinned (.plain (OpenSpec.upto datasetBytesSpec)) datasetBytesUptoCard

/-- THE SECOND FORM's CARD OF 'asoflaw29.DatasetDiffers'. -/
def datasetDiffersUptoCard : Claim7 := { stood := { row := datasetDiffersUptoRow, standIns := [], harness := (true, "1eb533d5aa8f51eae6762b144fccefb55269821328c5f7d2b88666c0f68b7033"), looks := true }, kinds := [], alts := [], laidByText := true, laidKinds := [.data, .data, .data], laidTests := true, laidLooks := .later }
def DatasetDiffersUptoCardSaid : Prop := Claim7.holds Tryz.pinned (.plain (OpenSpec.upto datasetDiffersSpec)) datasetDiffersUptoCard

/-- THE SECOND FORM's CARD OF 'asoflaw29.DatasetLines'. -/
def datasetLinesUptoCard : Claim7 := { stood := { row := datasetLinesUptoRow, standIns := [], harness := (true, "1eb533d5aa8f51eae6762b144fccefb55269821328c5f7d2b88666c0f68b7033"), looks := true }, kinds := [], alts := [], laidByText := true, laidKinds := [.data, .data, .data, .data, .sentinel, .sentinel, .data, .pinned], laidTests := true, laidLooks := .later }
def DatasetLinesUptoCardSaid : Prop := Claim7.holds Tryz.pinned (.plain (OpenSpec.upto datasetLinesSpec)) datasetLinesUptoCard
end Rows
end Go.Proofs.YtdjdhecanjmchaaGreatDoor
