/-
  DERIVED. GIVEN WITH THE SEED: THE CARDS: each row of YthijminlalddcaaGreatDoorRows.lean that lists a variable, with what it lists TIED to the program's text (the seventh form; the later family's looks); each row that meets fmt, with fmt's text TOLD by the authors' own Lean function (tested against real Go, not proved from fmt's source: count such statements apart). THE CARD IS WHAT COUNTS. Prove the row's statement (the work); the ties are given (YthijminlalddcaaGreatDoorTie.lean); close each card by the builder's one call (the guide's Derived/Test/ToyasCard.lean, 'card_holds'). Laid BY PROGRAM, IN A SANDBOX (cutbox-door.mjs). By AI agents, Wed Nov 11 2026. No macro, syntax, notation, axiom, sorry.
-/
import Derived.Test.YthijminlalddcaaGreatDoorRows
import GoSem.ClaimSeven
namespace Go.Proofs.YthijminlalddcaaGreatDoor
namespace Rows

/-- THE TIED CARD OF 'taffraillaw12.IpcDoes'. -/
def ipcDoesCard : Claim7 := { stood := { row := ipcDoesRow, standIns := [], harness := (true, "e7b87cf444b1b163e461d5f373e79f7eb6788df8ffd1539b0e87e1ddb2fb3cf3"), looks := true }, kinds := [], alts := [], laidByText := true, laidKinds := [.handle], laidTests := true, laidLooks := .later }
def IpcDoesCardSaid : Prop := Claim7.holds Tryz.pinned (.plain (OpenSpec.ofChange ipcDoesSpec)) ipcDoesCard

/-- THE SECOND FORM's CARD OF 'taffraillaw12.IpcDoes'. -/
def ipcDoesUptoCard : Claim7 := { stood := { row := ipcDoesUptoRow, standIns := [], harness := (true, "e7b87cf444b1b163e461d5f373e79f7eb6788df8ffd1539b0e87e1ddb2fb3cf3"), looks := true }, kinds := [], alts := [], laidByText := true, laidKinds := [.handle], laidTests := true, laidLooks := .later }
def IpcDoesUptoCardSaid : Prop := Claim7.holds Tryz.pinned (.plain (OpenSpec.upto ipcDoesSpec)) ipcDoesUptoCard
end Rows
end Go.Proofs.YthijminlalddcaaGreatDoor
