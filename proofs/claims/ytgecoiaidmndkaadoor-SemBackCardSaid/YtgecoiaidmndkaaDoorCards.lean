/-
  DERIVED. GIVEN WITH THE SEED: THE CARDS: each row of YtgecoiaidmndkaaDoorRows.lean that lists a variable, with what it lists TIED to the program's text (the seventh form; the later family's looks); each row that meets fmt, with fmt's text TOLD by the authors' own Lean function (tested against real Go, not proved from fmt's source: count such statements apart). THE CARD IS WHAT COUNTS. Prove the row's statement (the work); the ties are given (YtgecoiaidmndkaaDoorTie.lean); close each card by the builder's one call (the guide's Derived/Test/ToyasCard.lean, 'card_holds'). Laid BY PROGRAM, IN A SANDBOX (cutbox-door.mjs). By AI agents, Wed Nov 11 2026. No macro, syntax, notation, axiom, sorry.
-/
import Derived.Test.YtgecoiaidmndkaaDoorRows
import GoSem.ClaimSeven
namespace Go.Proofs.YtgecoiaidmndkaaDoor
namespace Rows

/-- THE TIED CARD OF 'taffraillaw13.SemAll'. -/
def semAllCard : Claim7 := { stood := { row := semAllRow, standIns := [], harness := (true, "e01b0dbe1a050a44239fde9f04b3377ad2ccd6ee453bb902d100b1bb49e7fc48"), looks := true }, kinds := [], alts := [], laidByText := true, laidKinds := [.sentinel, .sentinel, .sentinel], laidTests := true, laidLooks := .later }
def SemAllCardSaid : Prop := Claim7.holds Tryd.pinned (.plain (OpenSpec.ofChange semAllSpec)) semAllCard

/-- THE TIED CARD OF 'taffraillaw13.SemOne'. -/
def semOneCard : Claim7 := { stood := { row := semOneRow, standIns := [], harness := (true, "e01b0dbe1a050a44239fde9f04b3377ad2ccd6ee453bb902d100b1bb49e7fc48"), looks := true }, kinds := [], alts := [], laidByText := true, laidKinds := [.sentinel, .sentinel, .sentinel], laidTests := true, laidLooks := .later }
def SemOneCardSaid : Prop := Claim7.holds Tryd.pinned (.plain (OpenSpec.ofChange semOneSpec)) semOneCard

/-- THE TIED CARD OF 'taffraillaw13.SemBack'. -/
def semBackCard : Claim7 := { stood := { row := semBackRow, standIns := [], harness := (true, "e01b0dbe1a050a44239fde9f04b3377ad2ccd6ee453bb902d100b1bb49e7fc48"), looks := true }, kinds := [], alts := [], laidByText := true, laidKinds := [.sentinel, .sentinel, .sentinel], laidTests := true, laidLooks := .later }
def SemBackCardSaid : Prop := Claim7.holds Tryd.pinned (.plain (OpenSpec.ofChange semBackSpec)) semBackCard

/-- THE TIED CARD OF 'taffraillaw13.SemFlags'. -/
def semFlagsCard : Claim7 := { stood := { row := semFlagsRow, standIns := [], harness := (true, "e01b0dbe1a050a44239fde9f04b3377ad2ccd6ee453bb902d100b1bb49e7fc48"), looks := true }, kinds := [], alts := [], laidByText := true, laidKinds := [.sentinel, .sentinel, .sentinel], laidTests := true, laidLooks := .later }
def SemFlagsCardSaid : Prop := Claim7.holds Tryd.pinned (.plain (OpenSpec.ofChange semFlagsSpec)) semFlagsCard

/-- THE TIED CARD OF 'taffraillaw13.SemWaits'. -/
def semWaitsCard : Claim7 := { stood := { row := semWaitsRow, standIns := [], harness := (true, "e01b0dbe1a050a44239fde9f04b3377ad2ccd6ee453bb902d100b1bb49e7fc48"), looks := true }, kinds := [], alts := [], laidByText := true, laidKinds := [.sentinel, .sentinel, .sentinel], laidTests := true, laidLooks := .later }
def SemWaitsCardSaid : Prop := Claim7.holds Tryd.pinned (.plain (OpenSpec.ofChange semWaitsSpec)) semWaitsCard

/-- THE TIED CARD OF 'taffraillaw13.SemTries'. -/
def semTriesCard : Claim7 := { stood := { row := semTriesRow, standIns := [], harness := (true, "e01b0dbe1a050a44239fde9f04b3377ad2ccd6ee453bb902d100b1bb49e7fc48"), looks := true }, kinds := [], alts := [], laidByText := true, laidKinds := [.sentinel, .sentinel, .sentinel], laidTests := true, laidLooks := .later }
def SemTriesCardSaid : Prop := Claim7.holds Tryd.pinned (.plain (OpenSpec.ofChange semTriesSpec)) semTriesCard

/-- THE TIED CARD OF 'taffraillaw13.SemOwn'. -/
def semOwnCard : Claim7 := { stood := { row := semOwnRow, standIns := [], harness := (true, "e01b0dbe1a050a44239fde9f04b3377ad2ccd6ee453bb902d100b1bb49e7fc48"), looks := true }, kinds := [], alts := [], laidByText := true, laidKinds := [.sentinel, .sentinel, .sentinel], laidTests := true, laidLooks := .later }
def SemOwnCardSaid : Prop := Claim7.holds Tryd.pinned (.plain (OpenSpec.ofChange semOwnSpec)) semOwnCard

/-- THE TIED CARD OF 'taffraillaw13.SemSets'. -/
def semSetsCard : Claim7 := { stood := { row := semSetsRow, standIns := [], harness := (true, "e01b0dbe1a050a44239fde9f04b3377ad2ccd6ee453bb902d100b1bb49e7fc48"), looks := true }, kinds := [], alts := [], laidByText := true, laidKinds := [.sentinel, .sentinel, .sentinel], laidTests := true, laidLooks := .later }
def SemSetsCardSaid : Prop := Claim7.holds Tryd.pinned (.plain (OpenSpec.ofChange semSetsSpec)) semSetsCard

/-- THE SECOND FORM's CARD OF 'taffraillaw13.SemAll'. -/
def semAllUptoCard : Claim7 := { stood := { row := semAllUptoRow, standIns := [], harness := (true, "e01b0dbe1a050a44239fde9f04b3377ad2ccd6ee453bb902d100b1bb49e7fc48"), looks := true }, kinds := [], alts := [], laidByText := true, laidKinds := [.sentinel, .sentinel, .sentinel], laidTests := true, laidLooks := .later }
def SemAllUptoCardSaid : Prop := Claim7.holds Tryd.pinned (.plain (OpenSpec.upto semAllSpec)) semAllUptoCard

/-- THE SECOND FORM's CARD OF 'taffraillaw13.SemOne'. -/
def semOneUptoCard : Claim7 := { stood := { row := semOneUptoRow, standIns := [], harness := (true, "e01b0dbe1a050a44239fde9f04b3377ad2ccd6ee453bb902d100b1bb49e7fc48"), looks := true }, kinds := [], alts := [], laidByText := true, laidKinds := [.sentinel, .sentinel, .sentinel], laidTests := true, laidLooks := .later }
def SemOneUptoCardSaid : Prop := Claim7.holds Tryd.pinned (.plain (OpenSpec.upto semOneSpec)) semOneUptoCard

/-- THE SECOND FORM's CARD OF 'taffraillaw13.SemBack'. -/
def semBackUptoCard : Claim7 := { stood := { row := semBackUptoRow, standIns := [], harness := (true, "e01b0dbe1a050a44239fde9f04b3377ad2ccd6ee453bb902d100b1bb49e7fc48"), looks := true }, kinds := [], alts := [], laidByText := true, laidKinds := [.sentinel, .sentinel, .sentinel], laidTests := true, laidLooks := .later }
def SemBackUptoCardSaid : Prop := Claim7.holds Tryd.pinned (.plain (OpenSpec.upto semBackSpec)) semBackUptoCard

/-- THE SECOND FORM's CARD OF 'taffraillaw13.SemFlags'. -/
def semFlagsUptoCard : Claim7 := { stood := { row := semFlagsUptoRow, standIns := [], harness := (true, "e01b0dbe1a050a44239fde9f04b3377ad2ccd6ee453bb902d100b1bb49e7fc48"), looks := true }, kinds := [], alts := [], laidByText := true, laidKinds := [.sentinel, .sentinel, .sentinel], laidTests := true, laidLooks := .later }
def SemFlagsUptoCardSaid : Prop := Claim7.holds Tryd.pinned (.plain (OpenSpec.upto semFlagsSpec)) semFlagsUptoCard

/-- THE SECOND FORM's CARD OF 'taffraillaw13.SemWaits'. -/
def semWaitsUptoCard : Claim7 := { stood := { row := semWaitsUptoRow, standIns := [], harness := (true, "e01b0dbe1a050a44239fde9f04b3377ad2ccd6ee453bb902d100b1bb49e7fc48"), looks := true }, kinds := [], alts := [], laidByText := true, laidKinds := [.sentinel, .sentinel, .sentinel], laidTests := true, laidLooks := .later }
def SemWaitsUptoCardSaid : Prop := Claim7.holds Tryd.pinned (.plain (OpenSpec.upto semWaitsSpec)) semWaitsUptoCard

/-- THE SECOND FORM's CARD OF 'taffraillaw13.SemTries'. -/
def semTriesUptoCard : Claim7 := { stood := { row := semTriesUptoRow, standIns := [], harness := (true, "e01b0dbe1a050a44239fde9f04b3377ad2ccd6ee453bb902d100b1bb49e7fc48"), looks := true }, kinds := [], alts := [], laidByText := true, laidKinds := [.sentinel, .sentinel, .sentinel], laidTests := true, laidLooks := .later }
def SemTriesUptoCardSaid : Prop := Claim7.holds Tryd.pinned (.plain (OpenSpec.upto semTriesSpec)) semTriesUptoCard

/-- THE SECOND FORM's CARD OF 'taffraillaw13.SemOwn'. -/
def semOwnUptoCard : Claim7 := { stood := { row := semOwnUptoRow, standIns := [], harness := (true, "e01b0dbe1a050a44239fde9f04b3377ad2ccd6ee453bb902d100b1bb49e7fc48"), looks := true }, kinds := [], alts := [], laidByText := true, laidKinds := [.sentinel, .sentinel, .sentinel], laidTests := true, laidLooks := .later }
def SemOwnUptoCardSaid : Prop := Claim7.holds Tryd.pinned (.plain (OpenSpec.upto semOwnSpec)) semOwnUptoCard

/-- THE SECOND FORM's CARD OF 'taffraillaw13.SemSets'. -/
def semSetsUptoCard : Claim7 := { stood := { row := semSetsUptoRow, standIns := [], harness := (true, "e01b0dbe1a050a44239fde9f04b3377ad2ccd6ee453bb902d100b1bb49e7fc48"), looks := true }, kinds := [], alts := [], laidByText := true, laidKinds := [.sentinel, .sentinel, .sentinel], laidTests := true, laidLooks := .later }
def SemSetsUptoCardSaid : Prop := Claim7.holds Tryd.pinned (.plain (OpenSpec.upto semSetsSpec)) semSetsUptoCard
end Rows
end Go.Proofs.YtgecoiaidmndkaaDoor
