/-
  NARROWER THAN 'FOR EVERY INPUT', by the rows' own cells (each row's printed sentence says how): PipeStreams: laid · PipeFull: laid · PipeWaits: laid · PipeBroken: laid · PipeDoes: laid · PipeNone: laid · PipeEnds: laid.
  DERIVED. THE GIVEN ROWS OF THIS SEAT. 7 by the template 'for every input the law returns true; each argument reads behind the call as it read before'; 0 by the template 'total and deterministic' (their statements: YtdonlpldbdooaaaDoorTotals.lean).
  GIVEN WITH THE SEED: the statements are not yours to turn. If you find one false, say at which input.
  Laid BY PROGRAM, IN A SANDBOX (cutbox-rows.mjs): the forced cells as the released guide's own fill.sh prints them over the translation 42075d8f61e81be5… (all of the seat's roots in one cut). By AI agents, Wed Nov 11 2026. No macro, syntax, notation, axiom, sorry.
-/
import Derived.Test.YtdonlpldbdooaaaDoorChecked
import GoSem.Claim
import GoSem.ClaimJoined
import GoSem.ClaimMapViews
import Derived.JoinedTies
import Derived.KernelRfl
namespace Go.Proofs.YtdonlpldbdooaaaDoor
/- THE CELL 'sum', in the pinned program and in every row, IS THE sha256 OF THE DUMP (.gsa) THAT YtdonlpldbdooaaaDoorProg.lean LOADS. Nothing in Lean hashes anything: it is a label: what it is worth is what the hold of that sum in a sandbox is worth. -/
noncomputable def Tryd.pinned : Pinned := { name := "ytdonlpldbdooaaadoor", sum := "42075d8f61e81be59048ee6b66072daabcc8d1af58825f409b751a8c41c01623", checked := Tryd.checked }
namespace Rows
def none {H : Type} : Left H := { results := [], args := [] }

/- WHAT THE LISTED PACKAGE-LEVEL VARIABLES READ AS WHEN THE CALL BEGINS. Each datum BY PROGRAM (the guide's laid-datum.mjs) off the statement by which the dump's own 'gosem.cut.vars' lays the variable. In a bare row this is a premise. The card (YtdonlpldbdooaaaDoorCards.lean) ties it to the program's text. -/
def laid_taffrail_pipe_errWait {H : Type} : DataW H := .iface "*errors.errorString" (.ptr (.agg [.lit (.string [119, 97, 105, 116])]))
def laid_taffrail_pipe_errBroken {H : Type} : DataW H := .iface "*errors.errorString" (.ptr (.agg [.lit (.string [98, 114, 111, 107, 101, 110])]))

/-- 'taffraillaw10.PipeStreams': WHATEVER THE INPUT: true; the input reads as it did. -/
def pipeStreamsSpec : ChangeSpec := { name := "pipeStreams", fn := fun _ => fun
  | [d] => { results := [.lit (.bool true)], args := [d] }
  | _ => none }
def pipeStreamsRow : OpenClaim := { program := "ytdonlpldbdooaaadoor", sum := "42075d8f61e81be59048ee6b66072daabcc8d1af58825f409b751a8c41c01623", func := "taffrail/taffraillaw10.PipeStreams", spec := "pipeStreams", inPlace := ["internal/reflectlite.TypeOf"], unfollowed := true, recurses := true, named := ["taffrail/pipe.errWait", "taffrail/pipe.errBroken"], apart := false, laid := [("taffrail/pipe.errWait", laid_taffrail_pipe_errWait), ("taffrail/pipe.errBroken", laid_taffrail_pipe_errBroken)] }
def PipeStreamsSaid : Prop := pipeStreamsRow.holds Tryd.pinned (OpenSpec.ofChange pipeStreamsSpec)

/-- ITS FALSE NEIGHBOUR: 'it returns false'. Refute it at one input. -/
def pipeStreamsWrong : ChangeSpec := { name := "pipeStreams", fn := fun _ => fun
  | [d] => { results := [.lit (.bool false)], args := [d] }
  | _ => none }
def PipeStreamsWrongFalsely : Prop := pipeStreamsRow.holds Tryd.pinned (OpenSpec.ofChange pipeStreamsWrong)

/-- 'taffraillaw10.PipeFull': WHATEVER THE INPUT: true; the input reads as it did. -/
def pipeFullSpec : ChangeSpec := { name := "pipeFull", fn := fun _ => fun
  | [d1, d2] => { results := [.lit (.bool true)], args := [d1, d2] }
  | _ => none }
def pipeFullRow : OpenClaim := { program := "ytdonlpldbdooaaadoor", sum := "42075d8f61e81be59048ee6b66072daabcc8d1af58825f409b751a8c41c01623", func := "taffrail/taffraillaw10.PipeFull", spec := "pipeFull", inPlace := ["internal/reflectlite.TypeOf"], unfollowed := true, recurses := true, named := ["taffrail/pipe.errWait", "taffrail/pipe.errBroken"], apart := false, laid := [("taffrail/pipe.errWait", laid_taffrail_pipe_errWait), ("taffrail/pipe.errBroken", laid_taffrail_pipe_errBroken)] }
def PipeFullSaid : Prop := pipeFullRow.holds Tryd.pinned (OpenSpec.ofChange pipeFullSpec)

/-- ITS FALSE NEIGHBOUR: 'it returns false'. Refute it at one input. -/
def pipeFullWrong : ChangeSpec := { name := "pipeFull", fn := fun _ => fun
  | [d1, d2] => { results := [.lit (.bool false)], args := [d1, d2] }
  | _ => none }
def PipeFullWrongFalsely : Prop := pipeFullRow.holds Tryd.pinned (OpenSpec.ofChange pipeFullWrong)

/-- 'taffraillaw10.PipeWaits': WHATEVER THE INPUT: true; the input reads as it did. -/
def pipeWaitsSpec : ChangeSpec := { name := "pipeWaits", fn := fun _ => fun
  | [d1, d2] => { results := [.lit (.bool true)], args := [d1, d2] }
  | _ => none }
def pipeWaitsRow : OpenClaim := { program := "ytdonlpldbdooaaadoor", sum := "42075d8f61e81be59048ee6b66072daabcc8d1af58825f409b751a8c41c01623", func := "taffrail/taffraillaw10.PipeWaits", spec := "pipeWaits", inPlace := ["internal/reflectlite.TypeOf"], unfollowed := true, recurses := true, named := ["taffrail/pipe.errWait", "taffrail/pipe.errBroken"], apart := false, laid := [("taffrail/pipe.errWait", laid_taffrail_pipe_errWait), ("taffrail/pipe.errBroken", laid_taffrail_pipe_errBroken)] }
def PipeWaitsSaid : Prop := pipeWaitsRow.holds Tryd.pinned (OpenSpec.ofChange pipeWaitsSpec)

/-- ITS FALSE NEIGHBOUR: 'it returns false'. Refute it at one input. -/
def pipeWaitsWrong : ChangeSpec := { name := "pipeWaits", fn := fun _ => fun
  | [d1, d2] => { results := [.lit (.bool false)], args := [d1, d2] }
  | _ => none }
def PipeWaitsWrongFalsely : Prop := pipeWaitsRow.holds Tryd.pinned (OpenSpec.ofChange pipeWaitsWrong)

/-- 'taffraillaw10.PipeBroken': WHATEVER THE INPUT: true; the input reads as it did. -/
def pipeBrokenSpec : ChangeSpec := { name := "pipeBroken", fn := fun _ => fun
  | [d1, d2] => { results := [.lit (.bool true)], args := [d1, d2] }
  | _ => none }
def pipeBrokenRow : OpenClaim := { program := "ytdonlpldbdooaaadoor", sum := "42075d8f61e81be59048ee6b66072daabcc8d1af58825f409b751a8c41c01623", func := "taffrail/taffraillaw10.PipeBroken", spec := "pipeBroken", inPlace := ["internal/reflectlite.TypeOf"], unfollowed := true, recurses := true, named := ["taffrail/pipe.errWait", "taffrail/pipe.errBroken"], apart := false, laid := [("taffrail/pipe.errWait", laid_taffrail_pipe_errWait), ("taffrail/pipe.errBroken", laid_taffrail_pipe_errBroken)] }
def PipeBrokenSaid : Prop := pipeBrokenRow.holds Tryd.pinned (OpenSpec.ofChange pipeBrokenSpec)

/-- ITS FALSE NEIGHBOUR: 'it returns false'. Refute it at one input. -/
def pipeBrokenWrong : ChangeSpec := { name := "pipeBroken", fn := fun _ => fun
  | [d1, d2] => { results := [.lit (.bool false)], args := [d1, d2] }
  | _ => none }
def PipeBrokenWrongFalsely : Prop := pipeBrokenRow.holds Tryd.pinned (OpenSpec.ofChange pipeBrokenWrong)

/-- 'taffraillaw10.PipeDoes': WHATEVER THE INPUT: true; the input reads as it did. -/
def pipeDoesSpec : ChangeSpec := { name := "pipeDoes", fn := fun _ => fun
  | [d] => { results := [.lit (.bool true)], args := [d] }
  | _ => none }
def pipeDoesRow : OpenClaim := { program := "ytdonlpldbdooaaadoor", sum := "42075d8f61e81be59048ee6b66072daabcc8d1af58825f409b751a8c41c01623", func := "taffrail/taffraillaw10.PipeDoes", spec := "pipeDoes", inPlace := ["internal/reflectlite.TypeOf"], unfollowed := true, recurses := true, named := ["taffrail/pipe.errWait", "taffrail/pipe.errBroken"], apart := false, laid := [("taffrail/pipe.errWait", laid_taffrail_pipe_errWait), ("taffrail/pipe.errBroken", laid_taffrail_pipe_errBroken)] }
def PipeDoesSaid : Prop := pipeDoesRow.holds Tryd.pinned (OpenSpec.ofChange pipeDoesSpec)

/-- ITS FALSE NEIGHBOUR: 'it returns false'. Refute it at one input. -/
def pipeDoesWrong : ChangeSpec := { name := "pipeDoes", fn := fun _ => fun
  | [d] => { results := [.lit (.bool false)], args := [d] }
  | _ => none }
def PipeDoesWrongFalsely : Prop := pipeDoesRow.holds Tryd.pinned (OpenSpec.ofChange pipeDoesWrong)

/-- 'taffraillaw10.PipeNone': WHATEVER THE INPUT: true; the input reads as it did. -/
def pipeNoneSpec : ChangeSpec := { name := "pipeNone", fn := fun _ => fun
  | [d] => { results := [.lit (.bool true)], args := [d] }
  | _ => none }
def pipeNoneRow : OpenClaim := { program := "ytdonlpldbdooaaadoor", sum := "42075d8f61e81be59048ee6b66072daabcc8d1af58825f409b751a8c41c01623", func := "taffrail/taffraillaw10.PipeNone", spec := "pipeNone", inPlace := ["internal/reflectlite.TypeOf"], unfollowed := true, recurses := true, named := ["taffrail/pipe.errWait", "taffrail/pipe.errBroken"], apart := false, laid := [("taffrail/pipe.errWait", laid_taffrail_pipe_errWait), ("taffrail/pipe.errBroken", laid_taffrail_pipe_errBroken)] }
def PipeNoneSaid : Prop := pipeNoneRow.holds Tryd.pinned (OpenSpec.ofChange pipeNoneSpec)

/-- ITS FALSE NEIGHBOUR: 'it returns false'. Refute it at one input. -/
def pipeNoneWrong : ChangeSpec := { name := "pipeNone", fn := fun _ => fun
  | [d] => { results := [.lit (.bool false)], args := [d] }
  | _ => none }
def PipeNoneWrongFalsely : Prop := pipeNoneRow.holds Tryd.pinned (OpenSpec.ofChange pipeNoneWrong)

/-- 'taffraillaw10.PipeEnds': WHATEVER THE INPUT: true; the input reads as it did. -/
def pipeEndsSpec : ChangeSpec := { name := "pipeEnds", fn := fun _ => fun
  | [d1, d2] => { results := [.lit (.bool true)], args := [d1, d2] }
  | _ => none }
def pipeEndsRow : OpenClaim := { program := "ytdonlpldbdooaaadoor", sum := "42075d8f61e81be59048ee6b66072daabcc8d1af58825f409b751a8c41c01623", func := "taffrail/taffraillaw10.PipeEnds", spec := "pipeEnds", inPlace := ["internal/reflectlite.TypeOf"], unfollowed := true, recurses := true, named := ["taffrail/pipe.errWait", "taffrail/pipe.errBroken"], apart := false, laid := [("taffrail/pipe.errWait", laid_taffrail_pipe_errWait), ("taffrail/pipe.errBroken", laid_taffrail_pipe_errBroken)] }
def PipeEndsSaid : Prop := pipeEndsRow.holds Tryd.pinned (OpenSpec.ofChange pipeEndsSpec)

/-- ITS FALSE NEIGHBOUR: 'it returns false'. Refute it at one input. -/
def pipeEndsWrong : ChangeSpec := { name := "pipeEnds", fn := fun _ => fun
  | [d1, d2] => { results := [.lit (.bool false)], args := [d1, d2] }
  | _ => none }
def PipeEndsWrongFalsely : Prop := pipeEndsRow.holds Tryd.pinned (OpenSpec.ofChange pipeEndsWrong)

/- THE SECOND FORM. 'bulk': how many values and letters a reading holds, each counted each time it is reached (what is shared counts as often as it is met; a slice's spare places count too). A statement '..UptoSaid' is the law's where the arguments, and the package variables that the reading takes, are together of bulk at most 1048576: NARROWER than '..Said'. Prove '..Said' where nothing that the law and all that it calls make is longer than what came in: it says more and counts as full. Else prove '..UptoSaid'. A law counts once. -/
mutual
def uptoBulk {H : Type} : DataW H → Nat
  | .lit (.string bytes) => bytes.length + 1
  | .lit _ => 1
  | .nil => 1
  | .ptr d => uptoBulk d + 1
  | .slice elems spare => uptoBulkAll elems + uptoBulkAll spare + 1
  | .agg parts => uptoBulkAll parts + 1
  | .iface _ d => uptoBulk d + 1
  | .map entries => uptoBulkEntries entries + 1
  | .held _ => 1
def uptoBulkAll {H : Type} : List (DataW H) → Nat
  | [] => 0
  | d :: r => uptoBulk d + uptoBulkAll r
def uptoBulkEntries {H : Type} : List (Lit × DataW H) → Nat
  | [] => 0
  | x :: r => uptoBulkEntry x + uptoBulkEntries r
def uptoBulkEntry {H : Type} : Lit × DataW H → Nat
  | (.string bytes, d) => bytes.length + uptoBulk d + 1
  | (_, d) => uptoBulk d + 1
 end
def uptoSmall : (H : Type) → List (DataW H) → Bool := fun _ ds => decide (uptoBulkAll ds ≤ 1048576)
def OpenSpec.upto (s : _root_.Go.ChangeSpec) : _root_.Go.OpenSpec := { _root_.Go.OpenSpec.ofChange s with cond := some uptoSmall }

/-- 'taffraillaw10.PipeStreams', WHERE WHAT IT READS IS OF BULK AT MOST 1048576: true; the input reads as it did. -/
def pipeStreamsUptoRow : OpenClaim := { program := "ytdonlpldbdooaaadoor", sum := "42075d8f61e81be59048ee6b66072daabcc8d1af58825f409b751a8c41c01623", func := "taffrail/taffraillaw10.PipeStreams", spec := "pipeStreams", inPlace := ["internal/reflectlite.TypeOf"], unfollowed := true, recurses := true, named := ["taffrail/pipe.errWait", "taffrail/pipe.errBroken"], apart := false, laid := [("taffrail/pipe.errWait", laid_taffrail_pipe_errWait), ("taffrail/pipe.errBroken", laid_taffrail_pipe_errBroken)], narrowed := true }
def PipeStreamsUptoSaid : Prop := pipeStreamsUptoRow.holds Tryd.pinned (OpenSpec.upto pipeStreamsSpec)

/-- 'taffraillaw10.PipeFull', WHERE WHAT IT READS IS OF BULK AT MOST 1048576: true; the input reads as it did. -/
def pipeFullUptoRow : OpenClaim := { program := "ytdonlpldbdooaaadoor", sum := "42075d8f61e81be59048ee6b66072daabcc8d1af58825f409b751a8c41c01623", func := "taffrail/taffraillaw10.PipeFull", spec := "pipeFull", inPlace := ["internal/reflectlite.TypeOf"], unfollowed := true, recurses := true, named := ["taffrail/pipe.errWait", "taffrail/pipe.errBroken"], apart := false, laid := [("taffrail/pipe.errWait", laid_taffrail_pipe_errWait), ("taffrail/pipe.errBroken", laid_taffrail_pipe_errBroken)], narrowed := true }
def PipeFullUptoSaid : Prop := pipeFullUptoRow.holds Tryd.pinned (OpenSpec.upto pipeFullSpec)

/-- 'taffraillaw10.PipeWaits', WHERE WHAT IT READS IS OF BULK AT MOST 1048576: true; the input reads as it did. -/
def pipeWaitsUptoRow : OpenClaim := { program := "ytdonlpldbdooaaadoor", sum := "42075d8f61e81be59048ee6b66072daabcc8d1af58825f409b751a8c41c01623", func := "taffrail/taffraillaw10.PipeWaits", spec := "pipeWaits", inPlace := ["internal/reflectlite.TypeOf"], unfollowed := true, recurses := true, named := ["taffrail/pipe.errWait", "taffrail/pipe.errBroken"], apart := false, laid := [("taffrail/pipe.errWait", laid_taffrail_pipe_errWait), ("taffrail/pipe.errBroken", laid_taffrail_pipe_errBroken)], narrowed := true }
def PipeWaitsUptoSaid : Prop := pipeWaitsUptoRow.holds Tryd.pinned (OpenSpec.upto pipeWaitsSpec)

/-- 'taffraillaw10.PipeBroken', WHERE WHAT IT READS IS OF BULK AT MOST 1048576: true; the input reads as it did. -/
def pipeBrokenUptoRow : OpenClaim := { program := "ytdonlpldbdooaaadoor", sum := "42075d8f61e81be59048ee6b66072daabcc8d1af58825f409b751a8c41c01623", func := "taffrail/taffraillaw10.PipeBroken", spec := "pipeBroken", inPlace := ["internal/reflectlite.TypeOf"], unfollowed := true, recurses := true, named := ["taffrail/pipe.errWait", "taffrail/pipe.errBroken"], apart := false, laid := [("taffrail/pipe.errWait", laid_taffrail_pipe_errWait), ("taffrail/pipe.errBroken", laid_taffrail_pipe_errBroken)], narrowed := true }
def PipeBrokenUptoSaid : Prop := pipeBrokenUptoRow.holds Tryd.pinned (OpenSpec.upto pipeBrokenSpec)

/-- 'taffraillaw10.PipeDoes', WHERE WHAT IT READS IS OF BULK AT MOST 1048576: true; the input reads as it did. -/
def pipeDoesUptoRow : OpenClaim := { program := "ytdonlpldbdooaaadoor", sum := "42075d8f61e81be59048ee6b66072daabcc8d1af58825f409b751a8c41c01623", func := "taffrail/taffraillaw10.PipeDoes", spec := "pipeDoes", inPlace := ["internal/reflectlite.TypeOf"], unfollowed := true, recurses := true, named := ["taffrail/pipe.errWait", "taffrail/pipe.errBroken"], apart := false, laid := [("taffrail/pipe.errWait", laid_taffrail_pipe_errWait), ("taffrail/pipe.errBroken", laid_taffrail_pipe_errBroken)], narrowed := true }
def PipeDoesUptoSaid : Prop := pipeDoesUptoRow.holds Tryd.pinned (OpenSpec.upto pipeDoesSpec)

/-- 'taffraillaw10.PipeNone', WHERE WHAT IT READS IS OF BULK AT MOST 1048576: true; the input reads as it did. -/
def pipeNoneUptoRow : OpenClaim := { program := "ytdonlpldbdooaaadoor", sum := "42075d8f61e81be59048ee6b66072daabcc8d1af58825f409b751a8c41c01623", func := "taffrail/taffraillaw10.PipeNone", spec := "pipeNone", inPlace := ["internal/reflectlite.TypeOf"], unfollowed := true, recurses := true, named := ["taffrail/pipe.errWait", "taffrail/pipe.errBroken"], apart := false, laid := [("taffrail/pipe.errWait", laid_taffrail_pipe_errWait), ("taffrail/pipe.errBroken", laid_taffrail_pipe_errBroken)], narrowed := true }
def PipeNoneUptoSaid : Prop := pipeNoneUptoRow.holds Tryd.pinned (OpenSpec.upto pipeNoneSpec)

/-- 'taffraillaw10.PipeEnds', WHERE WHAT IT READS IS OF BULK AT MOST 1048576: true; the input reads as it did. -/
def pipeEndsUptoRow : OpenClaim := { program := "ytdonlpldbdooaaadoor", sum := "42075d8f61e81be59048ee6b66072daabcc8d1af58825f409b751a8c41c01623", func := "taffrail/taffraillaw10.PipeEnds", spec := "pipeEnds", inPlace := ["internal/reflectlite.TypeOf"], unfollowed := true, recurses := true, named := ["taffrail/pipe.errWait", "taffrail/pipe.errBroken"], apart := false, laid := [("taffrail/pipe.errWait", laid_taffrail_pipe_errWait), ("taffrail/pipe.errBroken", laid_taffrail_pipe_errBroken)], narrowed := true }
def PipeEndsUptoSaid : Prop := pipeEndsUptoRow.holds Tryd.pinned (OpenSpec.upto pipeEndsSpec)

end Rows
end Go.Proofs.YtdonlpldbdooaaaDoor
