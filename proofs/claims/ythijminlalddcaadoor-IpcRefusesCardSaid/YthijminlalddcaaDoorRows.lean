/-
  NARROWER THAN 'FOR EVERY INPUT', by the rows' own cells (each row's printed sentence says how): IpcGone: laid · IpcModes: laid · IpcKeys: laid · IpcOwners: laid · IpcRefuses: laid · IpcNone: laid.
  DERIVED. THE GIVEN ROWS OF THIS SEAT. 6 by the template 'for every input the law returns true; each argument reads behind the call as it read before'; 0 by the template 'total and deterministic' (their statements: YthijminlalddcaaDoorTotals.lean).
  GIVEN WITH THE SEED: the statements are not yours to turn. If you find one false, say at which input.
  Laid BY PROGRAM, IN A SANDBOX (cutbox-rows.mjs): the forced cells as the released guide's own fill.sh prints them over the translation d86e22ef2a863082… (all of the seat's roots in one cut). By AI agents, Wed Nov 11 2026. No macro, syntax, notation, axiom, sorry.
-/
import Derived.Test.YthijminlalddcaaDoorChecked
import GoSem.Claim
import GoSem.ClaimJoined
import GoSem.ClaimMapViews
import Derived.JoinedTies
import Derived.KernelRfl
namespace Go.Proofs.YthijminlalddcaaDoor
/- THE CELL 'sum', in the pinned program and in every row, IS THE sha256 OF THE DUMP (.gsa) THAT YthijminlalddcaaDoorProg.lean LOADS. Nothing in Lean hashes anything: it is a label: what it is worth is what the hold of that sum in a sandbox is worth. -/
noncomputable def Tryd.pinned : Pinned := { name := "ythijminlalddcaadoor", sum := "d86e22ef2a863082aee54e2eb1b29d290012ef490e2a2939e73a5a9294a5b70e", checked := Tryd.checked }
namespace Rows
def none {H : Type} : Left H := { results := [], args := [] }

/- WHAT THE LISTED PACKAGE-LEVEL VARIABLES READ AS WHEN THE CALL BEGINS. Each datum BY PROGRAM (the guide's laid-datum.mjs) off the statement by which the dump's own 'gosem.cut.vars' lays the variable. In a bare row this is a premise. The card (YthijminlalddcaaDoorCards.lean) ties it to the program's text. -/
def laid_errors_errorType {H : Type} : DataW H := .iface "internal/reflectlite.rtype" (.agg [.ptr (.lit (.string [101, 114, 114, 111, 114]))])

/-- 'taffraillaw12.IpcGone': WHATEVER THE INPUT: true; the input reads as it did. -/
def ipcGoneSpec : ChangeSpec := { name := "ipcGone", fn := fun _ => fun
  | [d1, d2, d3] => { results := [.lit (.bool true)], args := [d1, d2, d3] }
  | _ => none }
def ipcGoneRow : OpenClaim := { program := "ythijminlalddcaadoor", sum := "d86e22ef2a863082aee54e2eb1b29d290012ef490e2a2939e73a5a9294a5b70e", func := "taffrail/taffraillaw12.IpcGone", spec := "ipcGone", inPlace := ["internal/reflectlite.ValueOf", "(internal/reflectlite.Value).Type", "(internal/reflectlite.Value).IsNil", "internal/reflectlite.TypeOf", "(internal/reflectlite.Value).Elem", "(internal/reflectlite.Value).Set"], unfollowed := true, recurses := true, named := ["errors.errorType"], apart := false, laid := [("errors.errorType", laid_errors_errorType)] }
def IpcGoneSaid : Prop := ipcGoneRow.holds Tryd.pinned (OpenSpec.ofChange ipcGoneSpec)

/-- ITS FALSE NEIGHBOUR: 'it returns false'. Refute it at one input. -/
def ipcGoneWrong : ChangeSpec := { name := "ipcGone", fn := fun _ => fun
  | [d1, d2, d3] => { results := [.lit (.bool false)], args := [d1, d2, d3] }
  | _ => none }
def IpcGoneWrongFalsely : Prop := ipcGoneRow.holds Tryd.pinned (OpenSpec.ofChange ipcGoneWrong)

/-- 'taffraillaw12.IpcModes': WHATEVER THE INPUT: true; the input reads as it did. -/
def ipcModesSpec : ChangeSpec := { name := "ipcModes", fn := fun _ => fun
  | [d1, d2, d3, d4] => { results := [.lit (.bool true)], args := [d1, d2, d3, d4] }
  | _ => none }
def ipcModesRow : OpenClaim := { program := "ythijminlalddcaadoor", sum := "d86e22ef2a863082aee54e2eb1b29d290012ef490e2a2939e73a5a9294a5b70e", func := "taffrail/taffraillaw12.IpcModes", spec := "ipcModes", inPlace := ["internal/reflectlite.ValueOf", "(internal/reflectlite.Value).Type", "(internal/reflectlite.Value).IsNil", "internal/reflectlite.TypeOf", "(internal/reflectlite.Value).Elem", "(internal/reflectlite.Value).Set"], unfollowed := true, recurses := true, named := ["errors.errorType"], apart := false, laid := [("errors.errorType", laid_errors_errorType)] }
def IpcModesSaid : Prop := ipcModesRow.holds Tryd.pinned (OpenSpec.ofChange ipcModesSpec)

/-- ITS FALSE NEIGHBOUR: 'it returns false'. Refute it at one input. -/
def ipcModesWrong : ChangeSpec := { name := "ipcModes", fn := fun _ => fun
  | [d1, d2, d3, d4] => { results := [.lit (.bool false)], args := [d1, d2, d3, d4] }
  | _ => none }
def IpcModesWrongFalsely : Prop := ipcModesRow.holds Tryd.pinned (OpenSpec.ofChange ipcModesWrong)

/-- 'taffraillaw12.IpcKeys': WHATEVER THE INPUT: true; the input reads as it did. -/
def ipcKeysSpec : ChangeSpec := { name := "ipcKeys", fn := fun _ => fun
  | [d1, d2, d3] => { results := [.lit (.bool true)], args := [d1, d2, d3] }
  | _ => none }
def ipcKeysRow : OpenClaim := { program := "ythijminlalddcaadoor", sum := "d86e22ef2a863082aee54e2eb1b29d290012ef490e2a2939e73a5a9294a5b70e", func := "taffrail/taffraillaw12.IpcKeys", spec := "ipcKeys", inPlace := ["internal/reflectlite.ValueOf", "(internal/reflectlite.Value).Type", "(internal/reflectlite.Value).IsNil", "internal/reflectlite.TypeOf", "(internal/reflectlite.Value).Elem", "(internal/reflectlite.Value).Set"], unfollowed := true, recurses := true, named := ["errors.errorType"], apart := false, laid := [("errors.errorType", laid_errors_errorType)] }
def IpcKeysSaid : Prop := ipcKeysRow.holds Tryd.pinned (OpenSpec.ofChange ipcKeysSpec)

/-- ITS FALSE NEIGHBOUR: 'it returns false'. Refute it at one input. -/
def ipcKeysWrong : ChangeSpec := { name := "ipcKeys", fn := fun _ => fun
  | [d1, d2, d3] => { results := [.lit (.bool false)], args := [d1, d2, d3] }
  | _ => none }
def IpcKeysWrongFalsely : Prop := ipcKeysRow.holds Tryd.pinned (OpenSpec.ofChange ipcKeysWrong)

/-- 'taffraillaw12.IpcOwners': WHATEVER THE INPUT: true; the input reads as it did. -/
def ipcOwnersSpec : ChangeSpec := { name := "ipcOwners", fn := fun _ => fun
  | [d1, d2, d3] => { results := [.lit (.bool true)], args := [d1, d2, d3] }
  | _ => none }
def ipcOwnersRow : OpenClaim := { program := "ythijminlalddcaadoor", sum := "d86e22ef2a863082aee54e2eb1b29d290012ef490e2a2939e73a5a9294a5b70e", func := "taffrail/taffraillaw12.IpcOwners", spec := "ipcOwners", inPlace := ["internal/reflectlite.ValueOf", "(internal/reflectlite.Value).Type", "(internal/reflectlite.Value).IsNil", "internal/reflectlite.TypeOf", "(internal/reflectlite.Value).Elem", "(internal/reflectlite.Value).Set"], unfollowed := true, recurses := true, named := ["errors.errorType"], apart := false, laid := [("errors.errorType", laid_errors_errorType)] }
def IpcOwnersSaid : Prop := ipcOwnersRow.holds Tryd.pinned (OpenSpec.ofChange ipcOwnersSpec)

/-- ITS FALSE NEIGHBOUR: 'it returns false'. Refute it at one input. -/
def ipcOwnersWrong : ChangeSpec := { name := "ipcOwners", fn := fun _ => fun
  | [d1, d2, d3] => { results := [.lit (.bool false)], args := [d1, d2, d3] }
  | _ => none }
def IpcOwnersWrongFalsely : Prop := ipcOwnersRow.holds Tryd.pinned (OpenSpec.ofChange ipcOwnersWrong)

/-- 'taffraillaw12.IpcRefuses': WHATEVER THE INPUT: true; the input reads as it did. -/
def ipcRefusesSpec : ChangeSpec := { name := "ipcRefuses", fn := fun _ => fun
  | [d] => { results := [.lit (.bool true)], args := [d] }
  | _ => none }
def ipcRefusesRow : OpenClaim := { program := "ythijminlalddcaadoor", sum := "d86e22ef2a863082aee54e2eb1b29d290012ef490e2a2939e73a5a9294a5b70e", func := "taffrail/taffraillaw12.IpcRefuses", spec := "ipcRefuses", inPlace := ["internal/reflectlite.ValueOf", "(internal/reflectlite.Value).Type", "(internal/reflectlite.Value).IsNil", "internal/reflectlite.TypeOf", "(internal/reflectlite.Value).Elem", "(internal/reflectlite.Value).Set"], unfollowed := true, recurses := true, named := ["errors.errorType"], apart := false, laid := [("errors.errorType", laid_errors_errorType)] }
def IpcRefusesSaid : Prop := ipcRefusesRow.holds Tryd.pinned (OpenSpec.ofChange ipcRefusesSpec)

/-- ITS FALSE NEIGHBOUR: 'it returns false'. Refute it at one input. -/
def ipcRefusesWrong : ChangeSpec := { name := "ipcRefuses", fn := fun _ => fun
  | [d] => { results := [.lit (.bool false)], args := [d] }
  | _ => none }
def IpcRefusesWrongFalsely : Prop := ipcRefusesRow.holds Tryd.pinned (OpenSpec.ofChange ipcRefusesWrong)

/-- 'taffraillaw12.IpcNone': WHATEVER THE INPUT: true; the input reads as it did. -/
def ipcNoneSpec : ChangeSpec := { name := "ipcNone", fn := fun _ => fun
  | [d] => { results := [.lit (.bool true)], args := [d] }
  | _ => none }
def ipcNoneRow : OpenClaim := { program := "ythijminlalddcaadoor", sum := "d86e22ef2a863082aee54e2eb1b29d290012ef490e2a2939e73a5a9294a5b70e", func := "taffrail/taffraillaw12.IpcNone", spec := "ipcNone", inPlace := ["internal/reflectlite.ValueOf", "(internal/reflectlite.Value).Type", "(internal/reflectlite.Value).IsNil", "internal/reflectlite.TypeOf", "(internal/reflectlite.Value).Elem", "(internal/reflectlite.Value).Set"], unfollowed := true, recurses := true, named := ["errors.errorType"], apart := false, laid := [("errors.errorType", laid_errors_errorType)] }
def IpcNoneSaid : Prop := ipcNoneRow.holds Tryd.pinned (OpenSpec.ofChange ipcNoneSpec)

/-- ITS FALSE NEIGHBOUR: 'it returns false'. Refute it at one input. -/
def ipcNoneWrong : ChangeSpec := { name := "ipcNone", fn := fun _ => fun
  | [d] => { results := [.lit (.bool false)], args := [d] }
  | _ => none }
def IpcNoneWrongFalsely : Prop := ipcNoneRow.holds Tryd.pinned (OpenSpec.ofChange ipcNoneWrong)

/- THE SECOND FORM. 'bulk': how many values and letters a reading holds, each counted each time it is reached (what is shared counts as often as it is met; a slice's spare places count too). A statement '..UptoSaid' is the law's where the arguments, and the package variables that the reading takes, are together of bulk at most 1048576: NARROWER than '..Said'. Prove '..Said' where nothing that the law and all that it calls make is longer than what came in: it says more and counts as full. Else prove '..UptoSaid'. A law counts once. -/
mutual
def uptoBulk {H : Type} : DataW H → Nat
  | .lit (.string bytes) => bytes.length + 1
  | .lit _ => 1
  | .nil => 1
  | .ptr d => uptoBulk d + 1
  | .slice elems spare => uptoBulkAll elems + uptoBulkAll spare + 1
  | .agg parts => uptoBulkAll parts + 1
  | .iface _ d => uptoBulk d + 1
  | .map entries => uptoBulkEntries entries + 1
  | .held _ => 1
def uptoBulkAll {H : Type} : List (DataW H) → Nat
  | [] => 0
  | d :: r => uptoBulk d + uptoBulkAll r
def uptoBulkEntries {H : Type} : List (Lit × DataW H) → Nat
  | [] => 0
  | x :: r => uptoBulkEntry x + uptoBulkEntries r
def uptoBulkEntry {H : Type} : Lit × DataW H → Nat
  | (.string bytes, d) => bytes.length + uptoBulk d + 1
  | (_, d) => uptoBulk d + 1
 end
def uptoSmall : (H : Type) → List (DataW H) → Bool := fun _ ds => decide (uptoBulkAll ds ≤ 1048576)
def OpenSpec.upto (s : _root_.Go.ChangeSpec) : _root_.Go.OpenSpec := { _root_.Go.OpenSpec.ofChange s with cond := some uptoSmall }

/-- 'taffraillaw12.IpcGone', WHERE WHAT IT READS IS OF BULK AT MOST 1048576: true; the input reads as it did. -/
def ipcGoneUptoRow : OpenClaim := { program := "ythijminlalddcaadoor", sum := "d86e22ef2a863082aee54e2eb1b29d290012ef490e2a2939e73a5a9294a5b70e", func := "taffrail/taffraillaw12.IpcGone", spec := "ipcGone", inPlace := ["internal/reflectlite.ValueOf", "(internal/reflectlite.Value).Type", "(internal/reflectlite.Value).IsNil", "internal/reflectlite.TypeOf", "(internal/reflectlite.Value).Elem", "(internal/reflectlite.Value).Set"], unfollowed := true, recurses := true, named := ["errors.errorType"], apart := false, laid := [("errors.errorType", laid_errors_errorType)], narrowed := true }
def IpcGoneUptoSaid : Prop := ipcGoneUptoRow.holds Tryd.pinned (OpenSpec.upto ipcGoneSpec)

/-- 'taffraillaw12.IpcModes', WHERE WHAT IT READS IS OF BULK AT MOST 1048576: true; the input reads as it did. -/
def ipcModesUptoRow : OpenClaim := { program := "ythijminlalddcaadoor", sum := "d86e22ef2a863082aee54e2eb1b29d290012ef490e2a2939e73a5a9294a5b70e", func := "taffrail/taffraillaw12.IpcModes", spec := "ipcModes", inPlace := ["internal/reflectlite.ValueOf", "(internal/reflectlite.Value).Type", "(internal/reflectlite.Value).IsNil", "internal/reflectlite.TypeOf", "(internal/reflectlite.Value).Elem", "(internal/reflectlite.Value).Set"], unfollowed := true, recurses := true, named := ["errors.errorType"], apart := false, laid := [("errors.errorType", laid_errors_errorType)], narrowed := true }
def IpcModesUptoSaid : Prop := ipcModesUptoRow.holds Tryd.pinned (OpenSpec.upto ipcModesSpec)

/-- 'taffraillaw12.IpcKeys', WHERE WHAT IT READS IS OF BULK AT MOST 1048576: true; the input reads as it did. -/
def ipcKeysUptoRow : OpenClaim := { program := "ythijminlalddcaadoor", sum := "d86e22ef2a863082aee54e2eb1b29d290012ef490e2a2939e73a5a9294a5b70e", func := "taffrail/taffraillaw12.IpcKeys", spec := "ipcKeys", inPlace := ["internal/reflectlite.ValueOf", "(internal/reflectlite.Value).Type", "(internal/reflectlite.Value).IsNil", "internal/reflectlite.TypeOf", "(internal/reflectlite.Value).Elem", "(internal/reflectlite.Value).Set"], unfollowed := true, recurses := true, named := ["errors.errorType"], apart := false, laid := [("errors.errorType", laid_errors_errorType)], narrowed := true }
def IpcKeysUptoSaid : Prop := ipcKeysUptoRow.holds Tryd.pinned (OpenSpec.upto ipcKeysSpec)

/-- 'taffraillaw12.IpcOwners', WHERE WHAT IT READS IS OF BULK AT MOST 1048576: true; the input reads as it did. -/
def ipcOwnersUptoRow : OpenClaim := { program := "ythijminlalddcaadoor", sum := "d86e22ef2a863082aee54e2eb1b29d290012ef490e2a2939e73a5a9294a5b70e", func := "taffrail/taffraillaw12.IpcOwners", spec := "ipcOwners", inPlace := ["internal/reflectlite.ValueOf", "(internal/reflectlite.Value).Type", "(internal/reflectlite.Value).IsNil", "internal/reflectlite.TypeOf", "(internal/reflectlite.Value).Elem", "(internal/reflectlite.Value).Set"], unfollowed := true, recurses := true, named := ["errors.errorType"], apart := false, laid := [("errors.errorType", laid_errors_errorType)], narrowed := true }
def IpcOwnersUptoSaid : Prop := ipcOwnersUptoRow.holds Tryd.pinned (OpenSpec.upto ipcOwnersSpec)

/-- 'taffraillaw12.IpcRefuses', WHERE WHAT IT READS IS OF BULK AT MOST 1048576: true; the input reads as it did. -/
def ipcRefusesUptoRow : OpenClaim := { program := "ythijminlalddcaadoor", sum := "d86e22ef2a863082aee54e2eb1b29d290012ef490e2a2939e73a5a9294a5b70e", func := "taffrail/taffraillaw12.IpcRefuses", spec := "ipcRefuses", inPlace := ["internal/reflectlite.ValueOf", "(internal/reflectlite.Value).Type", "(internal/reflectlite.Value).IsNil", "internal/reflectlite.TypeOf", "(internal/reflectlite.Value).Elem", "(internal/reflectlite.Value).Set"], unfollowed := true, recurses := true, named := ["errors.errorType"], apart := false, laid := [("errors.errorType", laid_errors_errorType)], narrowed := true }
def IpcRefusesUptoSaid : Prop := ipcRefusesUptoRow.holds Tryd.pinned (OpenSpec.upto ipcRefusesSpec)

/-- 'taffraillaw12.IpcNone', WHERE WHAT IT READS IS OF BULK AT MOST 1048576: true; the input reads as it did. -/
def ipcNoneUptoRow : OpenClaim := { program := "ythijminlalddcaadoor", sum := "d86e22ef2a863082aee54e2eb1b29d290012ef490e2a2939e73a5a9294a5b70e", func := "taffrail/taffraillaw12.IpcNone", spec := "ipcNone", inPlace := ["internal/reflectlite.ValueOf", "(internal/reflectlite.Value).Type", "(internal/reflectlite.Value).IsNil", "internal/reflectlite.TypeOf", "(internal/reflectlite.Value).Elem", "(internal/reflectlite.Value).Set"], unfollowed := true, recurses := true, named := ["errors.errorType"], apart := false, laid := [("errors.errorType", laid_errors_errorType)], narrowed := true }
def IpcNoneUptoSaid : Prop := ipcNoneUptoRow.holds Tryd.pinned (OpenSpec.upto ipcNoneSpec)

end Rows
end Go.Proofs.YthijminlalddcaaDoor
