/-
  No cell of these rows narrows 'for every input' (looked for: loops, veiled, ifaces, maps, wideKeys, modest, calm, conditions, laid).
  DERIVED. THE GIVEN ROWS OF THIS SEAT. 6 by the template 'for every input the law returns true; each argument reads behind the call as it read before'; 0 by the template 'total and deterministic' (their statements: YtmboefajlfgffaaTotals.lean).
  GIVEN WITH THE SEED: the statements are not yours to turn. If you find one false, say at which input.
  Laid BY PROGRAM, IN A SANDBOX (cutbox-rows.mjs): the forced cells as the released guide's own fill.sh prints them over the translation a73177a1c9f59e98… (all of the seat's roots in one cut). By AI agents, Wed Nov 11 2026. No macro, syntax, notation, axiom, sorry.
-/
import Derived.Test.YtmboefajlfgffaaChecked
import GoSem.Claim
import GoSem.ClaimJoined
import GoSem.ClaimMapViews
import Derived.JoinedTies
import Derived.KernelRfl
namespace Go.Proofs.Ytmboefajlfgffaa
/- THE CELL 'sum', in the pinned program and in every row, IS THE sha256 OF THE DUMP (.gsa) THAT YtmboefajlfgffaaProg.lean LOADS. Nothing in Lean hashes anything: it is a label: what it is worth is what the hold of that sum in a sandbox is worth. -/
noncomputable def Try.pinned : Pinned := { name := "ytmboefajlfgffaa", sum := "a73177a1c9f59e98f4e041eb7fc5f46a97e06f2a63b73e8b893dddecb4fcb516", checked := Try.checked }
namespace Rows
def none {H : Type} : Left H := { results := [], args := [] }

/-- 'taffraillaw11.SlotsRound': WHATEVER THE INPUT: true; the input reads as it did. -/
def slotsRoundSpec : ChangeSpec := { name := "slotsRound", fn := fun _ => fun
  | [d] => { results := [.lit (.bool true)], args := [d] }
  | _ => none }
def slotsRoundRow : OpenClaim := { program := "ytmboefajlfgffaa", sum := "a73177a1c9f59e98f4e041eb7fc5f46a97e06f2a63b73e8b893dddecb4fcb516", func := "taffrail/taffraillaw11.SlotsRound", spec := "slotsRound", unfollowed := true, recurses := true, apart := false }
def SlotsRoundSaid : Prop := slotsRoundRow.holds Try.pinned (OpenSpec.ofChange slotsRoundSpec)

/-- ITS FALSE NEIGHBOUR: 'it returns false'. Refute it at one input. -/
def slotsRoundWrong : ChangeSpec := { name := "slotsRound", fn := fun _ => fun
  | [d] => { results := [.lit (.bool false)], args := [d] }
  | _ => none }
def SlotsRoundWrongFalsely : Prop := slotsRoundRow.holds Try.pinned (OpenSpec.ofChange slotsRoundWrong)

/-- 'taffraillaw11.SlotsGone': WHATEVER THE INPUT: true; the input reads as it did. -/
def slotsGoneSpec : ChangeSpec := { name := "slotsGone", fn := fun _ => fun
  | [d1, d2] => { results := [.lit (.bool true)], args := [d1, d2] }
  | _ => none }
def slotsGoneRow : OpenClaim := { program := "ytmboefajlfgffaa", sum := "a73177a1c9f59e98f4e041eb7fc5f46a97e06f2a63b73e8b893dddecb4fcb516", func := "taffrail/taffraillaw11.SlotsGone", spec := "slotsGone", unfollowed := true, recurses := true, apart := false }
def SlotsGoneSaid : Prop := slotsGoneRow.holds Try.pinned (OpenSpec.ofChange slotsGoneSpec)

/-- ITS FALSE NEIGHBOUR: 'it returns false'. Refute it at one input. -/
def slotsGoneWrong : ChangeSpec := { name := "slotsGone", fn := fun _ => fun
  | [d1, d2] => { results := [.lit (.bool false)], args := [d1, d2] }
  | _ => none }
def SlotsGoneWrongFalsely : Prop := slotsGoneRow.holds Try.pinned (OpenSpec.ofChange slotsGoneWrong)

/-- 'taffraillaw11.SlotsPlaces': WHATEVER THE INPUT: true; the input reads as it did. -/
def slotsPlacesSpec : ChangeSpec := { name := "slotsPlaces", fn := fun _ => fun
  | [d] => { results := [.lit (.bool true)], args := [d] }
  | _ => none }
def slotsPlacesRow : OpenClaim := { program := "ytmboefajlfgffaa", sum := "a73177a1c9f59e98f4e041eb7fc5f46a97e06f2a63b73e8b893dddecb4fcb516", func := "taffrail/taffraillaw11.SlotsPlaces", spec := "slotsPlaces", unfollowed := true, recurses := true, apart := false }
def SlotsPlacesSaid : Prop := slotsPlacesRow.holds Try.pinned (OpenSpec.ofChange slotsPlacesSpec)

/-- ITS FALSE NEIGHBOUR: 'it returns false'. Refute it at one input. -/
def slotsPlacesWrong : ChangeSpec := { name := "slotsPlaces", fn := fun _ => fun
  | [d] => { results := [.lit (.bool false)], args := [d] }
  | _ => none }
def SlotsPlacesWrongFalsely : Prop := slotsPlacesRow.holds Try.pinned (OpenSpec.ofChange slotsPlacesWrong)

/-- 'taffraillaw11.SlotsDo': WHATEVER THE INPUT: true; the input reads as it did. -/
def slotsDoSpec : ChangeSpec := { name := "slotsDo", fn := fun _ => fun
  | [d] => { results := [.lit (.bool true)], args := [d] }
  | _ => none }
def slotsDoRow : OpenClaim := { program := "ytmboefajlfgffaa", sum := "a73177a1c9f59e98f4e041eb7fc5f46a97e06f2a63b73e8b893dddecb4fcb516", func := "taffrail/taffraillaw11.SlotsDo", spec := "slotsDo", unfollowed := true, recurses := true, apart := false }
def SlotsDoSaid : Prop := slotsDoRow.holds Try.pinned (OpenSpec.ofChange slotsDoSpec)

/-- ITS FALSE NEIGHBOUR: 'it returns false'. Refute it at one input. -/
def slotsDoWrong : ChangeSpec := { name := "slotsDo", fn := fun _ => fun
  | [d] => { results := [.lit (.bool false)], args := [d] }
  | _ => none }
def SlotsDoWrongFalsely : Prop := slotsDoRow.holds Try.pinned (OpenSpec.ofChange slotsDoWrong)

/-- 'taffraillaw11.SlotsTexts': WHATEVER THE INPUT: true; the input reads as it did. -/
def slotsTextsSpec : ChangeSpec := { name := "slotsTexts", fn := fun _ => fun
  | [d] => { results := [.lit (.bool true)], args := [d] }
  | _ => none }
def slotsTextsRow : OpenClaim := { program := "ytmboefajlfgffaa", sum := "a73177a1c9f59e98f4e041eb7fc5f46a97e06f2a63b73e8b893dddecb4fcb516", func := "taffrail/taffraillaw11.SlotsTexts", spec := "slotsTexts", unfollowed := true, recurses := true, apart := false }
def SlotsTextsSaid : Prop := slotsTextsRow.holds Try.pinned (OpenSpec.ofChange slotsTextsSpec)

/-- ITS FALSE NEIGHBOUR: 'it returns false'. Refute it at one input. -/
def slotsTextsWrong : ChangeSpec := { name := "slotsTexts", fn := fun _ => fun
  | [d] => { results := [.lit (.bool false)], args := [d] }
  | _ => none }
def SlotsTextsWrongFalsely : Prop := slotsTextsRow.holds Try.pinned (OpenSpec.ofChange slotsTextsWrong)

/-- 'taffraillaw11.SlotsFull': WHATEVER THE INPUT: true; the input reads as it did. -/
def slotsFullSpec : ChangeSpec := { name := "slotsFull", fn := fun _ => fun
  | [d] => { results := [.lit (.bool true)], args := [d] }
  | _ => none }
def slotsFullRow : OpenClaim := { program := "ytmboefajlfgffaa", sum := "a73177a1c9f59e98f4e041eb7fc5f46a97e06f2a63b73e8b893dddecb4fcb516", func := "taffrail/taffraillaw11.SlotsFull", spec := "slotsFull", unfollowed := true, recurses := true, apart := false }
def SlotsFullSaid : Prop := slotsFullRow.holds Try.pinned (OpenSpec.ofChange slotsFullSpec)

/-- ITS FALSE NEIGHBOUR: 'it returns false'. Refute it at one input. -/
def slotsFullWrong : ChangeSpec := { name := "slotsFull", fn := fun _ => fun
  | [d] => { results := [.lit (.bool false)], args := [d] }
  | _ => none }
def SlotsFullWrongFalsely : Prop := slotsFullRow.holds Try.pinned (OpenSpec.ofChange slotsFullWrong)

/- THE SECOND FORM. 'bulk': how many values and letters a reading holds, each counted each time it is reached (what is shared counts as often as it is met; a slice's spare places count too). A statement '..UptoSaid' is the law's where the arguments, and the package variables that the reading takes, are together of bulk at most 1048576: NARROWER than '..Said'. Prove '..Said' where nothing that the law and all that it calls make is longer than what came in: it says more and counts as full. Else prove '..UptoSaid'. A law counts once. -/
mutual
def uptoBulk {H : Type} : DataW H → Nat
  | .lit (.string bytes) => bytes.length + 1
  | .lit _ => 1
  | .nil => 1
  | .ptr d => uptoBulk d + 1
  | .slice elems spare => uptoBulkAll elems + uptoBulkAll spare + 1
  | .agg parts => uptoBulkAll parts + 1
  | .iface _ d => uptoBulk d + 1
  | .map entries => uptoBulkEntries entries + 1
  | .held _ => 1
def uptoBulkAll {H : Type} : List (DataW H) → Nat
  | [] => 0
  | d :: r => uptoBulk d + uptoBulkAll r
def uptoBulkEntries {H : Type} : List (Lit × DataW H) → Nat
  | [] => 0
  | x :: r => uptoBulkEntry x + uptoBulkEntries r
def uptoBulkEntry {H : Type} : Lit × DataW H → Nat
  | (.string bytes, d) => bytes.length + uptoBulk d + 1
  | (_, d) => uptoBulk d + 1
 end
def uptoSmall : (H : Type) → List (DataW H) → Bool := fun _ ds => decide (uptoBulkAll ds ≤ 1048576)
def OpenSpec.upto (s : _root_.Go.ChangeSpec) : _root_.Go.OpenSpec := { _root_.Go.OpenSpec.ofChange s with cond := some uptoSmall }

/-- 'taffraillaw11.SlotsRound', WHERE WHAT IT READS IS OF BULK AT MOST 1048576: true; the input reads as it did. -/
def slotsRoundUptoRow : OpenClaim := { program := "ytmboefajlfgffaa", sum := "a73177a1c9f59e98f4e041eb7fc5f46a97e06f2a63b73e8b893dddecb4fcb516", func := "taffrail/taffraillaw11.SlotsRound", spec := "slotsRound", unfollowed := true, recurses := true, apart := false, narrowed := true }
def SlotsRoundUptoSaid : Prop := slotsRoundUptoRow.holds Try.pinned (OpenSpec.upto slotsRoundSpec)

/-- 'taffraillaw11.SlotsGone', WHERE WHAT IT READS IS OF BULK AT MOST 1048576: true; the input reads as it did. -/
def slotsGoneUptoRow : OpenClaim := { program := "ytmboefajlfgffaa", sum := "a73177a1c9f59e98f4e041eb7fc5f46a97e06f2a63b73e8b893dddecb4fcb516", func := "taffrail/taffraillaw11.SlotsGone", spec := "slotsGone", unfollowed := true, recurses := true, apart := false, narrowed := true }
def SlotsGoneUptoSaid : Prop := slotsGoneUptoRow.holds Try.pinned (OpenSpec.upto slotsGoneSpec)

/-- 'taffraillaw11.SlotsPlaces', WHERE WHAT IT READS IS OF BULK AT MOST 1048576: true; the input reads as it did. -/
def slotsPlacesUptoRow : OpenClaim := { program := "ytmboefajlfgffaa", sum := "a73177a1c9f59e98f4e041eb7fc5f46a97e06f2a63b73e8b893dddecb4fcb516", func := "taffrail/taffraillaw11.SlotsPlaces", spec := "slotsPlaces", unfollowed := true, recurses := true, apart := false, narrowed := true }
def SlotsPlacesUptoSaid : Prop := slotsPlacesUptoRow.holds Try.pinned (OpenSpec.upto slotsPlacesSpec)

/-- 'taffraillaw11.SlotsDo', WHERE WHAT IT READS IS OF BULK AT MOST 1048576: true; the input reads as it did. -/
def slotsDoUptoRow : OpenClaim := { program := "ytmboefajlfgffaa", sum := "a73177a1c9f59e98f4e041eb7fc5f46a97e06f2a63b73e8b893dddecb4fcb516", func := "taffrail/taffraillaw11.SlotsDo", spec := "slotsDo", unfollowed := true, recurses := true, apart := false, narrowed := true }
def SlotsDoUptoSaid : Prop := slotsDoUptoRow.holds Try.pinned (OpenSpec.upto slotsDoSpec)

/-- 'taffraillaw11.SlotsTexts', WHERE WHAT IT READS IS OF BULK AT MOST 1048576: true; the input reads as it did. -/
def slotsTextsUptoRow : OpenClaim := { program := "ytmboefajlfgffaa", sum := "a73177a1c9f59e98f4e041eb7fc5f46a97e06f2a63b73e8b893dddecb4fcb516", func := "taffrail/taffraillaw11.SlotsTexts", spec := "slotsTexts", unfollowed := true, recurses := true, apart := false, narrowed := true }
def SlotsTextsUptoSaid : Prop := slotsTextsUptoRow.holds Try.pinned (OpenSpec.upto slotsTextsSpec)

/-- 'taffraillaw11.SlotsFull', WHERE WHAT IT READS IS OF BULK AT MOST 1048576: true; the input reads as it did. -/
def slotsFullUptoRow : OpenClaim := { program := "ytmboefajlfgffaa", sum := "a73177a1c9f59e98f4e041eb7fc5f46a97e06f2a63b73e8b893dddecb4fcb516", func := "taffrail/taffraillaw11.SlotsFull", spec := "slotsFull", unfollowed := true, recurses := true, apart := false, narrowed := true }
def SlotsFullUptoSaid : Prop := slotsFullUptoRow.holds Try.pinned (OpenSpec.upto slotsFullSpec)

end Rows
end Go.Proofs.Ytmboefajlfgffaa
