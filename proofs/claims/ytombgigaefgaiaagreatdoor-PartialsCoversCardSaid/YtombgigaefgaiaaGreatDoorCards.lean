/-
  DERIVED. GIVEN WITH THE SEED: THE CARDS: each row of YtombgigaefgaiaaGreatDoorRows.lean that lists a variable, with what it lists TIED to the program's text (the seventh form; the later family's looks); each row that meets fmt, with fmt's text TOLD by the authors' own Lean function (tested against real Go, not proved from fmt's source: count such statements apart). THE CARD IS WHAT COUNTS. Prove the row's statement (the work); the ties are given (YtombgigaefgaiaaGreatDoorTie.lean); close each card by the builder's one call (the guide's Derived/Test/ToyasCard.lean, 'card_holds'). Laid BY PROGRAM, IN A SANDBOX (cutbox-door.mjs). By AI agents, Wed Nov 11 2026. No macro, syntax, notation, axiom, sorry.
-/
import Derived.Test.YtombgigaefgaiaaGreatDoorRows
import GoSem.ClaimSeven
namespace Go.Proofs.YtombgigaefgaiaaGreatDoor
namespace Rows

/-- THE TIED CARD OF 'asoflaw26.PartialsCovers'. -/
def partialsCoversCard : Claim7 := { stood := { row := partialsCoversRow, standIns := [], harness := (true, "f6ad0df869620a08cf12e3eaa78f33e3e743f6397462f16e1a0527149f450c07"), looks := false }, kinds := [], alts := [], laidByText := true, laidKinds := [.widerDeep, .widerDeep, .widerDeep], laidTests := true, laidLooks := .later }
def PartialsCoversCardSaid : Prop := Claim7.holds Tryz.pinned (.plain (OpenSpec.ofChange partialsCoversSpec)) partialsCoversCard

/-- THE SECOND FORM's CARD OF 'asoflaw26.PartialsCovers'. -/
def partialsCoversUptoCard : Claim7 := { stood := { row := partialsCoversUptoRow, standIns := [], harness := (true, "f6ad0df869620a08cf12e3eaa78f33e3e743f6397462f16e1a0527149f450c07"), looks := false }, kinds := [], alts := [], laidByText := true, laidKinds := [.widerDeep, .widerDeep, .widerDeep], laidTests := true, laidLooks := .later }
def PartialsCoversUptoCardSaid : Prop := Claim7.holds Tryz.pinned (.plain (OpenSpec.upto partialsCoversSpec)) partialsCoversUptoCard
end Rows
end Go.Proofs.YtombgigaefgaiaaGreatDoor
