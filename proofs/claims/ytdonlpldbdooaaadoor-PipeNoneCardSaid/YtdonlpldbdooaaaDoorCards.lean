/-
  DERIVED. GIVEN WITH THE SEED: THE CARDS: each row of YtdonlpldbdooaaaDoorRows.lean that lists a variable, with what it lists TIED to the program's text (the seventh form; the later family's looks); each row that meets fmt, with fmt's text TOLD by the authors' own Lean function (tested against real Go, not proved from fmt's source: count such statements apart). THE CARD IS WHAT COUNTS. Prove the row's statement (the work); the ties are given (YtdonlpldbdooaaaDoorTie.lean); close each card by the builder's one call (the guide's Derived/Test/ToyasCard.lean, 'card_holds'). Laid BY PROGRAM, IN A SANDBOX (cutbox-door.mjs). By AI agents, Wed Nov 11 2026. No macro, syntax, notation, axiom, sorry.
-/
import Derived.Test.YtdonlpldbdooaaaDoorRows
import GoSem.ClaimSeven
namespace Go.Proofs.YtdonlpldbdooaaaDoor
namespace Rows

/-- THE TIED CARD OF 'taffraillaw10.PipeStreams'. -/
def pipeStreamsCard : Claim7 := { stood := { row := pipeStreamsRow, standIns := [], harness := (true, "d0c64c0f792d4b209115563d5b10f51e35805b629f6994b640c0b3fe1bfcb367"), looks := true }, kinds := [], alts := [], laidByText := true, laidKinds := [.sentinel, .sentinel], laidTests := true, laidLooks := .later }
def PipeStreamsCardSaid : Prop := Claim7.holds Tryd.pinned (.plain (OpenSpec.ofChange pipeStreamsSpec)) pipeStreamsCard

/-- THE TIED CARD OF 'taffraillaw10.PipeFull'. -/
def pipeFullCard : Claim7 := { stood := { row := pipeFullRow, standIns := [], harness := (true, "d0c64c0f792d4b209115563d5b10f51e35805b629f6994b640c0b3fe1bfcb367"), looks := true }, kinds := [], alts := [], laidByText := true, laidKinds := [.sentinel, .sentinel], laidTests := true, laidLooks := .later }
def PipeFullCardSaid : Prop := Claim7.holds Tryd.pinned (.plain (OpenSpec.ofChange pipeFullSpec)) pipeFullCard

/-- THE TIED CARD OF 'taffraillaw10.PipeWaits'. -/
def pipeWaitsCard : Claim7 := { stood := { row := pipeWaitsRow, standIns := [], harness := (true, "d0c64c0f792d4b209115563d5b10f51e35805b629f6994b640c0b3fe1bfcb367"), looks := true }, kinds := [], alts := [], laidByText := true, laidKinds := [.sentinel, .sentinel], laidTests := true, laidLooks := .later }
def PipeWaitsCardSaid : Prop := Claim7.holds Tryd.pinned (.plain (OpenSpec.ofChange pipeWaitsSpec)) pipeWaitsCard

/-- THE TIED CARD OF 'taffraillaw10.PipeBroken'. -/
def pipeBrokenCard : Claim7 := { stood := { row := pipeBrokenRow, standIns := [], harness := (true, "d0c64c0f792d4b209115563d5b10f51e35805b629f6994b640c0b3fe1bfcb367"), looks := true }, kinds := [], alts := [], laidByText := true, laidKinds := [.sentinel, .sentinel], laidTests := true, laidLooks := .later }
def PipeBrokenCardSaid : Prop := Claim7.holds Tryd.pinned (.plain (OpenSpec.ofChange pipeBrokenSpec)) pipeBrokenCard

/-- THE TIED CARD OF 'taffraillaw10.PipeDoes'. -/
def pipeDoesCard : Claim7 := { stood := { row := pipeDoesRow, standIns := [], harness := (true, "d0c64c0f792d4b209115563d5b10f51e35805b629f6994b640c0b3fe1bfcb367"), looks := true }, kinds := [], alts := [], laidByText := true, laidKinds := [.sentinel, .sentinel], laidTests := true, laidLooks := .later }
def PipeDoesCardSaid : Prop := Claim7.holds Tryd.pinned (.plain (OpenSpec.ofChange pipeDoesSpec)) pipeDoesCard

/-- THE TIED CARD OF 'taffraillaw10.PipeNone'. -/
def pipeNoneCard : Claim7 := { stood := { row := pipeNoneRow, standIns := [], harness := (true, "d0c64c0f792d4b209115563d5b10f51e35805b629f6994b640c0b3fe1bfcb367"), looks := true }, kinds := [], alts := [], laidByText := true, laidKinds := [.sentinel, .sentinel], laidTests := true, laidLooks := .later }
def PipeNoneCardSaid : Prop := Claim7.holds Tryd.pinned (.plain (OpenSpec.ofChange pipeNoneSpec)) pipeNoneCard

/-- THE TIED CARD OF 'taffraillaw10.PipeEnds'. -/
def pipeEndsCard : Claim7 := { stood := { row := pipeEndsRow, standIns := [], harness := (true, "d0c64c0f792d4b209115563d5b10f51e35805b629f6994b640c0b3fe1bfcb367"), looks := true }, kinds := [], alts := [], laidByText := true, laidKinds := [.sentinel, .sentinel], laidTests := true, laidLooks := .later }
def PipeEndsCardSaid : Prop := Claim7.holds Tryd.pinned (.plain (OpenSpec.ofChange pipeEndsSpec)) pipeEndsCard

/-- THE SECOND FORM's CARD OF 'taffraillaw10.PipeStreams'. -/
def pipeStreamsUptoCard : Claim7 := { stood := { row := pipeStreamsUptoRow, standIns := [], harness := (true, "d0c64c0f792d4b209115563d5b10f51e35805b629f6994b640c0b3fe1bfcb367"), looks := true }, kinds := [], alts := [], laidByText := true, laidKinds := [.sentinel, .sentinel], laidTests := true, laidLooks := .later }
def PipeStreamsUptoCardSaid : Prop := Claim7.holds Tryd.pinned (.plain (OpenSpec.upto pipeStreamsSpec)) pipeStreamsUptoCard

/-- THE SECOND FORM's CARD OF 'taffraillaw10.PipeFull'. -/
def pipeFullUptoCard : Claim7 := { stood := { row := pipeFullUptoRow, standIns := [], harness := (true, "d0c64c0f792d4b209115563d5b10f51e35805b629f6994b640c0b3fe1bfcb367"), looks := true }, kinds := [], alts := [], laidByText := true, laidKinds := [.sentinel, .sentinel], laidTests := true, laidLooks := .later }
def PipeFullUptoCardSaid : Prop := Claim7.holds Tryd.pinned (.plain (OpenSpec.upto pipeFullSpec)) pipeFullUptoCard

/-- THE SECOND FORM's CARD OF 'taffraillaw10.PipeWaits'. -/
def pipeWaitsUptoCard : Claim7 := { stood := { row := pipeWaitsUptoRow, standIns := [], harness := (true, "d0c64c0f792d4b209115563d5b10f51e35805b629f6994b640c0b3fe1bfcb367"), looks := true }, kinds := [], alts := [], laidByText := true, laidKinds := [.sentinel, .sentinel], laidTests := true, laidLooks := .later }
def PipeWaitsUptoCardSaid : Prop := Claim7.holds Tryd.pinned (.plain (OpenSpec.upto pipeWaitsSpec)) pipeWaitsUptoCard

/-- THE SECOND FORM's CARD OF 'taffraillaw10.PipeBroken'. -/
def pipeBrokenUptoCard : Claim7 := { stood := { row := pipeBrokenUptoRow, standIns := [], harness := (true, "d0c64c0f792d4b209115563d5b10f51e35805b629f6994b640c0b3fe1bfcb367"), looks := true }, kinds := [], alts := [], laidByText := true, laidKinds := [.sentinel, .sentinel], laidTests := true, laidLooks := .later }
def PipeBrokenUptoCardSaid : Prop := Claim7.holds Tryd.pinned (.plain (OpenSpec.upto pipeBrokenSpec)) pipeBrokenUptoCard

/-- THE SECOND FORM's CARD OF 'taffraillaw10.PipeDoes'. -/
def pipeDoesUptoCard : Claim7 := { stood := { row := pipeDoesUptoRow, standIns := [], harness := (true, "d0c64c0f792d4b209115563d5b10f51e35805b629f6994b640c0b3fe1bfcb367"), looks := true }, kinds := [], alts := [], laidByText := true, laidKinds := [.sentinel, .sentinel], laidTests := true, laidLooks := .later }
def PipeDoesUptoCardSaid : Prop := Claim7.holds Tryd.pinned (.plain (OpenSpec.upto pipeDoesSpec)) pipeDoesUptoCard

/-- THE SECOND FORM's CARD OF 'taffraillaw10.PipeNone'. -/
def pipeNoneUptoCard : Claim7 := { stood := { row := pipeNoneUptoRow, standIns := [], harness := (true, "d0c64c0f792d4b209115563d5b10f51e35805b629f6994b640c0b3fe1bfcb367"), looks := true }, kinds := [], alts := [], laidByText := true, laidKinds := [.sentinel, .sentinel], laidTests := true, laidLooks := .later }
def PipeNoneUptoCardSaid : Prop := Claim7.holds Tryd.pinned (.plain (OpenSpec.upto pipeNoneSpec)) pipeNoneUptoCard

/-- THE SECOND FORM's CARD OF 'taffraillaw10.PipeEnds'. -/
def pipeEndsUptoCard : Claim7 := { stood := { row := pipeEndsUptoRow, standIns := [], harness := (true, "d0c64c0f792d4b209115563d5b10f51e35805b629f6994b640c0b3fe1bfcb367"), looks := true }, kinds := [], alts := [], laidByText := true, laidKinds := [.sentinel, .sentinel], laidTests := true, laidLooks := .later }
def PipeEndsUptoCardSaid : Prop := Claim7.holds Tryd.pinned (.plain (OpenSpec.upto pipeEndsSpec)) pipeEndsUptoCard
end Rows
end Go.Proofs.YtdonlpldbdooaaaDoor
