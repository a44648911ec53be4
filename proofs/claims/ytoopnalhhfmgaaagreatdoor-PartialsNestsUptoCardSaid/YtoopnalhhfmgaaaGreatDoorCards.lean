/-
  DERIVED. GIVEN WITH THE SEED: THE CARDS: each row of YtoopnalhhfmgaaaGreatDoorRows.lean that lists a variable, with what it lists TIED to the program's text (the seventh form; the later family's looks); each row that meets fmt, with fmt's text TOLD by the authors' own Lean function (tested against real Go, not proved from fmt's source: count such statements apart). THE CARD IS WHAT COUNTS. Prove the row's statement (the work); the ties are given (YtoopnalhhfmgaaaGreatDoorTie.lean); close each card by the builder's one call (the guide's Derived/Test/ToyasCard.lean, 'card_holds'). Laid BY PROGRAM, IN A SANDBOX (cutbox-door.mjs). By AI agents, Wed Nov 11 2026. No macro, syntax, notation, axiom, sorry.
-/
import Derived.Test.YtoopnalhhfmgaaaGreatDoorRows
import GoSem.ClaimSeven
namespace Go.Proofs.YtoopnalhhfmgaaaGreatDoor
namespace Rows

/-- THE TIED CARD OF 'asoflaw26.PartialsNests'. -/
def partialsNestsCard : Claim7 := { stood := { row := partialsNestsRow, standIns := [], harness := (true, "e401b391de3aca88e23b0d6bd9ceb26a4dbdc08c0b3855adbd6af2ce48e2cc5d"), looks := false }, kinds := [], alts := [], laidByText := true, laidKinds := [.widerDeep, .widerDeep, .widerDeep], laidTests := true, laidLooks := .later }
def PartialsNestsCardSaid : Prop := Claim7.holds Tryz.pinned (.plain (OpenSpec.ofChange partialsNestsSpec)) partialsNestsCard

/-- THE SECOND FORM's CARD OF 'asoflaw26.PartialsNests'. -/
def partialsNestsUptoCard : Claim7 := { stood := { row := partialsNestsUptoRow, standIns := [], harness := (true, "e401b391de3aca88e23b0d6bd9ceb26a4dbdc08c0b3855adbd6af2ce48e2cc5d"), looks := false }, kinds := [], alts := [], laidByText := true, laidKinds := [.widerDeep, .widerDeep, .widerDeep], laidTests := true, laidLooks := .later }
def PartialsNestsUptoCardSaid : Prop := Claim7.holds Tryz.pinned (.plain (OpenSpec.upto partialsNestsSpec)) partialsNestsUptoCard
end Rows
end Go.Proofs.YtoopnalhhfmgaaaGreatDoor
