/-
  DERIVED. GIVEN WITH THE SEED: THE CARDS: each row of YthijminlalddcaaDoorRows.lean that lists a variable, with what it lists TIED to the program's text (the seventh form; the later family's looks); each row that meets fmt, with fmt's text TOLD by the authors' own Lean function (tested against real Go, not proved from fmt's source: count such statements apart). THE CARD IS WHAT COUNTS. Prove the row's statement (the work); the ties are given (YthijminlalddcaaDoorTie.lean); close each card by the builder's one call (the guide's Derived/Test/ToyasCard.lean, 'card_holds'). Laid BY PROGRAM, IN A SANDBOX (cutbox-door.mjs). By AI agents, Wed Nov 11 2026. No macro, syntax, notation, axiom, sorry.
-/
import Derived.Test.YthijminlalddcaaDoorRows
import GoSem.ClaimSeven
namespace Go.Proofs.YthijminlalddcaaDoor
namespace Rows

/-- THE TIED CARD OF 'taffraillaw12.IpcGone'. -/
def ipcGoneCard : Claim7 := { stood := { row := ipcGoneRow, standIns := [], harness := (true, "ed620f7bd3dda03155e3446365c753510ef968360e0044e085b653d2fea186d2"), looks := true }, kinds := [], alts := [], laidByText := true, laidKinds := [.handle], laidTests := true, laidLooks := .later }
def IpcGoneCardSaid : Prop := Claim7.holds Tryd.pinned (.plain (OpenSpec.ofChange ipcGoneSpec)) ipcGoneCard

/-- THE TIED CARD OF 'taffraillaw12.IpcModes'. -/
def ipcModesCard : Claim7 := { stood := { row := ipcModesRow, standIns := [], harness := (true, "ed620f7bd3dda03155e3446365c753510ef968360e0044e085b653d2fea186d2"), looks := true }, kinds := [], alts := [], laidByText := true, laidKinds := [.handle], laidTests := true, laidLooks := .later }
def IpcModesCardSaid : Prop := Claim7.holds Tryd.pinned (.plain (OpenSpec.ofChange ipcModesSpec)) ipcModesCard

/-- THE TIED CARD OF 'taffraillaw12.IpcKeys'. -/
def ipcKeysCard : Claim7 := { stood := { row := ipcKeysRow, standIns := [], harness := (true, "ed620f7bd3dda03155e3446365c753510ef968360e0044e085b653d2fea186d2"), looks := true }, kinds := [], alts := [], laidByText := true, laidKinds := [.handle], laidTests := true, laidLooks := .later }
def IpcKeysCardSaid : Prop := Claim7.holds Tryd.pinned (.plain (OpenSpec.ofChange ipcKeysSpec)) ipcKeysCard

/-- THE TIED CARD OF 'taffraillaw12.IpcOwners'. -/
def ipcOwnersCard : Claim7 := { stood := { row := ipcOwnersRow, standIns := [], harness := (true, "ed620f7bd3dda03155e3446365c753510ef968360e0044e085b653d2fea186d2"), looks := true }, kinds := [], alts := [], laidByText := true, laidKinds := [.handle], laidTests := true, laidLooks := .later }
def IpcOwnersCardSaid : Prop := Claim7.holds Tryd.pinned (.plain (OpenSpec.ofChange ipcOwnersSpec)) ipcOwnersCard

/-- THE TIED CARD OF 'taffraillaw12.IpcRefuses'. -/
def ipcRefusesCard : Claim7 := { stood := { row := ipcRefusesRow, standIns := [], harness := (true, "ed620f7bd3dda03155e3446365c753510ef968360e0044e085b653d2fea186d2"), looks := true }, kinds := [], alts := [], laidByText := true, laidKinds := [.handle], laidTests := true, laidLooks := .later }
def IpcRefusesCardSaid : Prop := Claim7.holds Tryd.pinned (.plain (OpenSpec.ofChange ipcRefusesSpec)) ipcRefusesCard

/-- THE TIED CARD OF 'taffraillaw12.IpcNone'. -/
def ipcNoneCard : Claim7 := { stood := { row := ipcNoneRow, standIns := [], harness := (true, "ed620f7bd3dda03155e3446365c753510ef968360e0044e085b653d2fea186d2"), looks := true }, kinds := [], alts := [], laidByText := true, laidKinds := [.handle], laidTests := true, laidLooks := .later }
def IpcNoneCardSaid : Prop := Claim7.holds Tryd.pinned (.plain (OpenSpec.ofChange ipcNoneSpec)) ipcNoneCard

/-- THE SECOND FORM's CARD OF 'taffraillaw12.IpcGone'. -/
def ipcGoneUptoCard : Claim7 := { stood := { row := ipcGoneUptoRow, standIns := [], harness := (true, "ed620f7bd3dda03155e3446365c753510ef968360e0044e085b653d2fea186d2"), looks := true }, kinds := [], alts := [], laidByText := true, laidKinds := [.handle], laidTests := true, laidLooks := .later }
def IpcGoneUptoCardSaid : Prop := Claim7.holds Tryd.pinned (.plain (OpenSpec.upto ipcGoneSpec)) ipcGoneUptoCard

/-- THE SECOND FORM's CARD OF 'taffraillaw12.IpcModes'. -/
def ipcModesUptoCard : Claim7 := { stood := { row := ipcModesUptoRow, standIns := [], harness := (true, "ed620f7bd3dda03155e3446365c753510ef968360e0044e085b653d2fea186d2"), looks := true }, kinds := [], alts := [], laidByText := true, laidKinds := [.handle], laidTests := true, laidLooks := .later }
def IpcModesUptoCardSaid : Prop := Claim7.holds Tryd.pinned (.plain (OpenSpec.upto ipcModesSpec)) ipcModesUptoCard

/-- THE SECOND FORM's CARD OF 'taffraillaw12.IpcKeys'. -/
def ipcKeysUptoCard : Claim7 := { stood := { row := ipcKeysUptoRow, standIns := [], harness := (true, "ed620f7bd3dda03155e3446365c753510ef968360e0044e085b653d2fea186d2"), looks := true }, kinds := [], alts := [], laidByText := true, laidKinds := [.handle], laidTests := true, laidLooks := .later }
def IpcKeysUptoCardSaid : Prop := Claim7.holds Tryd.pinned (.plain (OpenSpec.upto ipcKeysSpec)) ipcKeysUptoCard

/-- THE SECOND FORM's CARD OF 'taffraillaw12.IpcOwners'. -/
def ipcOwnersUptoCard : Claim7 := { stood := { row := ipcOwnersUptoRow, standIns := [], harness := (true, "ed620f7bd3dda03155e3446365c753510ef968360e0044e085b653d2fea186d2"), looks := true }, kinds := [], alts := [], laidByText := true, laidKinds := [.handle], laidTests := true, laidLooks := .later }
def IpcOwnersUptoCardSaid : Prop := Claim7.holds Tryd.pinned (.plain (OpenSpec.upto ipcOwnersSpec)) ipcOwnersUptoCard

/-- THE SECOND FORM's CARD OF 'taffraillaw12.IpcRefuses'. -/
def ipcRefusesUptoCard : Claim7 := { stood := { row := ipcRefusesUptoRow, standIns := [], harness := (true, "ed620f7bd3dda03155e3446365c753510ef968360e0044e085b653d2fea186d2"), looks := true }, kinds := [], alts := [], laidByText := true, laidKinds := [.handle], laidTests := true, laidLooks := .later }
def IpcRefusesUptoCardSaid : Prop := Claim7.holds Tryd.pinned (.plain (OpenSpec.upto ipcRefusesSpec)) ipcRefusesUptoCard

/-- THE SECOND FORM's CARD OF 'taffraillaw12.IpcNone'. -/
def ipcNoneUptoCard : Claim7 := { stood := { row := ipcNoneUptoRow, standIns := [], harness := (true, "ed620f7bd3dda03155e3446365c753510ef968360e0044e085b653d2fea186d2"), looks := true }, kinds := [], alts := [], laidByText := true, laidKinds := [.handle], laidTests := true, laidLooks := .later }
def IpcNoneUptoCardSaid : Prop := Claim7.holds Tryd.pinned (.plain (OpenSpec.upto ipcNoneSpec)) ipcNoneUptoCard
end Rows
end Go.Proofs.YthijminlalddcaaDoor
