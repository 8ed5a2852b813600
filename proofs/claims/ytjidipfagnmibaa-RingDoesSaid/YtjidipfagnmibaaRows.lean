/-
  No cell of these rows narrows 'for every input' (looked for: loops, veiled, ifaces, maps, wideKeys, modest, calm, conditions, laid).
  DERIVED. THE GIVEN ROWS OF THIS SEAT. 6 by the template 'for every input the law returns true; each argument reads behind the call as it read before'; 0 by the template 'total and deterministic' (their statements: YtjidipfagnmibaaTotals.lean).
  GIVEN WITH THE SEED: the statements are not yours to turn. If you find one false, say at which input.
  Laid BY PROGRAM, IN A SANDBOX (cutbox-rows.mjs): the forced cells as the released guide's own fill.sh prints them over the translation 7fa004481feb82d6… (all of the seat's roots in one cut). By AI agents, Wed Nov 11 2026. No macro, syntax, notation, axiom, sorry.
-/
import Derived.Test.YtjidipfagnmibaaChecked
import GoSem.Claim
import GoSem.ClaimJoined
import GoSem.ClaimMapViews
import Derived.JoinedTies
import Derived.KernelRfl
namespace Go.Proofs.Ytjidipfagnmibaa
/- THE CELL 'sum', in the pinned program and in every row, IS THE sha256 OF THE DUMP (.gsa) THAT YtjidipfagnmibaaProg.lean LOADS. Nothing in Lean hashes anything: it is a label: what it is worth is what the hold of that sum in a sandbox is worth. -/
noncomputable def Try.pinned : Pinned := { name := "ytjidipfagnmibaa", sum := "7fa004481feb82d652c1f1eb0c536c74e594462f41d77f376c1d319e9ab4f8f6", checked := Try.checked }
namespace Rows
def none {H : Type} : Left H := { results := [], args := [] }

/-- 'taffraillaw08.RingParts': WHATEVER THE INPUT: true; the input reads as it did. -/
def ringPartsSpec : ChangeSpec := { name := "ringParts", fn := fun _ => fun
  | [d1, d2, d3, d4] => { results := [.lit (.bool true)], args := [d1, d2, d3, d4] }
  | _ => none }
def ringPartsRow : OpenClaim := { program := "ytjidipfagnmibaa", sum := "7fa004481feb82d652c1f1eb0c536c74e594462f41d77f376c1d319e9ab4f8f6", func := "taffrail/taffraillaw08.RingParts", spec := "ringParts", unfollowed := true, recurses := true, apart := false }
def RingPartsSaid : Prop := ringPartsRow.holds Try.pinned (OpenSpec.ofChange ringPartsSpec)

/-- ITS FALSE NEIGHBOUR: 'it returns false'. Refute it at one input. -/
def ringPartsWrong : ChangeSpec := { name := "ringParts", fn := fun _ => fun
  | [d1, d2, d3, d4] => { results := [.lit (.bool false)], args := [d1, d2, d3, d4] }
  | _ => none }
def RingPartsWrongFalsely : Prop := ringPartsRow.holds Try.pinned (OpenSpec.ofChange ringPartsWrong)

/-- 'taffraillaw08.RingDoes': WHATEVER THE INPUT: true; the input reads as it did. -/
def ringDoesSpec : ChangeSpec := { name := "ringDoes", fn := fun _ => fun
  | [d1, d2] => { results := [.lit (.bool true)], args := [d1, d2] }
  | _ => none }
def ringDoesRow : OpenClaim := { program := "ytjidipfagnmibaa", sum := "7fa004481feb82d652c1f1eb0c536c74e594462f41d77f376c1d319e9ab4f8f6", func := "taffrail/taffraillaw08.RingDoes", spec := "ringDoes", unfollowed := true, recurses := true, apart := false }
def RingDoesSaid : Prop := ringDoesRow.holds Try.pinned (OpenSpec.ofChange ringDoesSpec)

/-- ITS FALSE NEIGHBOUR: 'it returns false'. Refute it at one input. -/
def ringDoesWrong : ChangeSpec := { name := "ringDoes", fn := fun _ => fun
  | [d1, d2] => { results := [.lit (.bool false)], args := [d1, d2] }
  | _ => none }
def RingDoesWrongFalsely : Prop := ringDoesRow.holds Try.pinned (OpenSpec.ofChange ringDoesWrong)

/-- 'taffraillaw08.RingStreams': WHATEVER THE INPUT: true; the input reads as it did. -/
def ringStreamsSpec : ChangeSpec := { name := "ringStreams", fn := fun _ => fun
  | [d1, d2] => { results := [.lit (.bool true)], args := [d1, d2] }
  | _ => none }
def ringStreamsRow : OpenClaim := { program := "ytjidipfagnmibaa", sum := "7fa004481feb82d652c1f1eb0c536c74e594462f41d77f376c1d319e9ab4f8f6", func := "taffrail/taffraillaw08.RingStreams", spec := "ringStreams", unfollowed := true, recurses := true, apart := false }
def RingStreamsSaid : Prop := ringStreamsRow.holds Try.pinned (OpenSpec.ofChange ringStreamsSpec)

/-- ITS FALSE NEIGHBOUR: 'it returns false'. Refute it at one input. -/
def ringStreamsWrong : ChangeSpec := { name := "ringStreams", fn := fun _ => fun
  | [d1, d2] => { results := [.lit (.bool false)], args := [d1, d2] }
  | _ => none }
def RingStreamsWrongFalsely : Prop := ringStreamsRow.holds Try.pinned (OpenSpec.ofChange ringStreamsWrong)

/-- 'taffraillaw08.RingNone': WHATEVER THE INPUT: true; the input reads as it did. -/
def ringNoneSpec : ChangeSpec := { name := "ringNone", fn := fun _ => fun
  | [d] => { results := [.lit (.bool true)], args := [d] }
  | _ => none }
def ringNoneRow : OpenClaim := { program := "ytjidipfagnmibaa", sum := "7fa004481feb82d652c1f1eb0c536c74e594462f41d77f376c1d319e9ab4f8f6", func := "taffrail/taffraillaw08.RingNone", spec := "ringNone", unfollowed := true, recurses := true, apart := false }
def RingNoneSaid : Prop := ringNoneRow.holds Try.pinned (OpenSpec.ofChange ringNoneSpec)

/-- ITS FALSE NEIGHBOUR: 'it returns false'. Refute it at one input. -/
def ringNoneWrong : ChangeSpec := { name := "ringNone", fn := fun _ => fun
  | [d] => { results := [.lit (.bool false)], args := [d] }
  | _ => none }
def RingNoneWrongFalsely : Prop := ringNoneRow.holds Try.pinned (OpenSpec.ofChange ringNoneWrong)

/-- 'taffraillaw08.RingFull': WHATEVER THE INPUT: true; the input reads as it did. -/
def ringFullSpec : ChangeSpec := { name := "ringFull", fn := fun _ => fun
  | [d1, d2] => { results := [.lit (.bool true)], args := [d1, d2] }
  | _ => none }
def ringFullRow : OpenClaim := { program := "ytjidipfagnmibaa", sum := "7fa004481feb82d652c1f1eb0c536c74e594462f41d77f376c1d319e9ab4f8f6", func := "taffrail/taffraillaw08.RingFull", spec := "ringFull", unfollowed := true, recurses := true, apart := false }
def RingFullSaid : Prop := ringFullRow.holds Try.pinned (OpenSpec.ofChange ringFullSpec)

/-- ITS FALSE NEIGHBOUR: 'it returns false'. Refute it at one input. -/
def ringFullWrong : ChangeSpec := { name := "ringFull", fn := fun _ => fun
  | [d1, d2] => { results := [.lit (.bool false)], args := [d1, d2] }
  | _ => none }
def RingFullWrongFalsely : Prop := ringFullRow.holds Try.pinned (OpenSpec.ofChange ringFullWrong)

/-- 'taffraillaw08.RingRound': WHATEVER THE INPUT: true; the input reads as it did. -/
def ringRoundSpec : ChangeSpec := { name := "ringRound", fn := fun _ => fun
  | [d1, d2, d3] => { results := [.lit (.bool true)], args := [d1, d2, d3] }
  | _ => none }
def ringRoundRow : OpenClaim := { program := "ytjidipfagnmibaa", sum := "7fa004481feb82d652c1f1eb0c536c74e594462f41d77f376c1d319e9ab4f8f6", func := "taffrail/taffraillaw08.RingRound", spec := "ringRound", unfollowed := true, recurses := true, apart := false }
def RingRoundSaid : Prop := ringRoundRow.holds Try.pinned (OpenSpec.ofChange ringRoundSpec)

/-- ITS FALSE NEIGHBOUR: 'it returns false'. Refute it at one input. -/
def ringRoundWrong : ChangeSpec := { name := "ringRound", fn := fun _ => fun
  | [d1, d2, d3] => { results := [.lit (.bool false)], args := [d1, d2, d3] }
  | _ => none }
def RingRoundWrongFalsely : Prop := ringRoundRow.holds Try.pinned (OpenSpec.ofChange ringRoundWrong)

/- THE SECOND FORM. 'bulk': how many values and letters a reading holds, each counted each time it is reached (what is shared counts as often as it is met; a slice's spare places count too). A statement '..UptoSaid' is the law's where the arguments, and the package variables that the reading takes, are together of bulk at most 1048576: NARROWER than '..Said'. Prove '..Said' where nothing that the law and all that it calls make is longer than what came in: it says more and counts as full. Else prove '..UptoSaid'. A law counts once. -/
mutual
def uptoBulk {H : Type} : DataW H → Nat
  | .lit (.string bytes) => bytes.length + 1
  | .lit _ => 1
  | .nil => 1
  | .ptr d => uptoBulk d + 1
  | .slice elems spare => uptoBulkAll elems + uptoBulkAll spare + 1
  | .agg parts => uptoBulkAll parts + 1
  | .iface _ d => uptoBulk d + 1
  | .map entries => uptoBulkEntries entries + 1
  | .held _ => 1
def uptoBulkAll {H : Type} : List (DataW H) → Nat
  | [] => 0
  | d :: r => uptoBulk d + uptoBulkAll r
def uptoBulkEntries {H : Type} : List (Lit × DataW H) → Nat
  | [] => 0
  | x :: r => uptoBulkEntry x + uptoBulkEntries r
def uptoBulkEntry {H : Type} : Lit × DataW H → Nat
  | (.string bytes, d) => bytes.length + uptoBulk d + 1
  | (_, d) => uptoBulk d + 1
 end
def uptoSmall : (H : Type) → List (DataW H) → Bool := fun _ ds => decide (uptoBulkAll ds ≤ 1048576)
def OpenSpec.upto (s : _root_.Go.ChangeSpec) : _root_.Go.OpenSpec := { _root_.Go.OpenSpec.ofChange s with cond := some uptoSmall }

/-- 'taffraillaw08.RingParts', WHERE WHAT IT READS IS OF BULK AT MOST 1048576: true; the input reads as it did. -/
def ringPartsUptoRow : OpenClaim := { program := "ytjidipfagnmibaa", sum := "7fa004481feb82d652c1f1eb0c536c74e594462f41d77f376c1d319e9ab4f8f6", func := "taffrail/taffraillaw08.RingParts", spec := "ringParts", unfollowed := true, recurses := true, apart := false, narrowed := true }
def RingPartsUptoSaid : Prop := ringPartsUptoRow.holds Try.pinned (OpenSpec.upto ringPartsSpec)

/-- 'taffraillaw08.RingDoes', WHERE WHAT IT READS IS OF BULK AT MOST 1048576: true; the input reads as it did. -/
def ringDoesUptoRow : OpenClaim := { program := "ytjidipfagnmibaa", sum := "7fa004481feb82d652c1f1eb0c536c74e594462f41d77f376c1d319e9ab4f8f6", func := "taffrail/taffraillaw08.RingDoes", spec := "ringDoes", unfollowed := true, recurses := true, apart := false, narrowed := true }
def RingDoesUptoSaid : Prop := ringDoesUptoRow.holds Try.pinned (OpenSpec.upto ringDoesSpec)

/-- 'taffraillaw08.RingStreams', WHERE WHAT IT READS IS OF BULK AT MOST 1048576: true; the input reads as it did. -/
def ringStreamsUptoRow : OpenClaim := { program := "ytjidipfagnmibaa", sum := "7fa004481feb82d652c1f1eb0c536c74e594462f41d77f376c1d319e9ab4f8f6", func := "taffrail/taffraillaw08.RingStreams", spec := "ringStreams", unfollowed := true, recurses := true, apart := false, narrowed := true }
def RingStreamsUptoSaid : Prop := ringStreamsUptoRow.holds Try.pinned (OpenSpec.upto ringStreamsSpec)

/-- 'taffraillaw08.RingNone', WHERE WHAT IT READS IS OF BULK AT MOST 1048576: true; the input reads as it did. -/
def ringNoneUptoRow : OpenClaim := { program := "ytjidipfagnmibaa", sum := "7fa004481feb82d652c1f1eb0c536c74e594462f41d77f376c1d319e9ab4f8f6", func := "taffrail/taffraillaw08.RingNone", spec := "ringNone", unfollowed := true, recurses := true, apart := false, narrowed := true }
def RingNoneUptoSaid : Prop := ringNoneUptoRow.holds Try.pinned (OpenSpec.upto ringNoneSpec)

/-- 'taffraillaw08.RingFull', WHERE WHAT IT READS IS OF BULK AT MOST 1048576: true; the input reads as it did. -/
def ringFullUptoRow : OpenClaim := { program := "ytjidipfagnmibaa", sum := "7fa004481feb82d652c1f1eb0c536c74e594462f41d77f376c1d319e9ab4f8f6", func := "taffrail/taffraillaw08.RingFull", spec := "ringFull", unfollowed := true, recurses := true, apart := false, narrowed := true }
def RingFullUptoSaid : Prop := ringFullUptoRow.holds Try.pinned (OpenSpec.upto ringFullSpec)

/-- 'taffraillaw08.RingRound', WHERE WHAT IT READS IS OF BULK AT MOST 1048576: true; the input reads as it did. -/
def ringRoundUptoRow : OpenClaim := { program := "ytjidipfagnmibaa", sum := "7fa004481feb82d652c1f1eb0c536c74e594462f41d77f376c1d319e9ab4f8f6", func := "taffrail/taffraillaw08.RingRound", spec := "ringRound", unfollowed := true, recurses := true, apart := false, narrowed := true }
def RingRoundUptoSaid : Prop := ringRoundUptoRow.holds Try.pinned (OpenSpec.upto ringRoundSpec)

end Rows
end Go.Proofs.Ytjidipfagnmibaa
