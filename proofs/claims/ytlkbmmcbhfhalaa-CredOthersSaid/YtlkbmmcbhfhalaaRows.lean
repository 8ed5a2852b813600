/-
  No cell of these rows narrows 'for every input' (looked for: loops, veiled, ifaces, maps, wideKeys, modest, calm, conditions, laid).
  DERIVED. THE GIVEN ROWS OF THIS SEAT. 7 by the template 'for every input the law returns true; each argument reads behind the call as it read before'; 0 by the template 'total and deterministic' (their statements: YtlkbmmcbhfhalaaTotals.lean).
  GIVEN WITH THE SEED: the statements are not yours to turn. If you find one false, say at which input.
  Laid BY PROGRAM, IN A SANDBOX (cutbox-rows.mjs): the forced cells as the released guide's own fill.sh prints them over the translation e1f8aedc589d6e8d… (all of the seat's roots in one cut). By AI agents, Wed Nov 11 2026. No macro, syntax, notation, axiom, sorry.
-/
import Derived.Test.YtlkbmmcbhfhalaaChecked
import GoSem.Claim
import GoSem.ClaimJoined
import GoSem.ClaimMapViews
import Derived.JoinedTies
import Derived.KernelRfl
namespace Go.Proofs.Ytlkbmmcbhfhalaa
/- THE CELL 'sum', in the pinned program and in every row, IS THE sha256 OF THE DUMP (.gsa) THAT YtlkbmmcbhfhalaaProg.lean LOADS. Nothing in Lean hashes anything: it is a label: what it is worth is what the hold of that sum in a sandbox is worth. -/
noncomputable def Try.pinned : Pinned := { name := "ytlkbmmcbhfhalaa", sum := "e1f8aedc589d6e8d3781dbbf1ec9b6ec0b99f1709b8433ffa92c5088a3e1f597", checked := Try.checked }
namespace Rows
def none {H : Type} : Left H := { results := [], args := [] }

/-- 'taffraillaw05.CredMore': WHATEVER THE INPUT: true; the input reads as it did. -/
def credMoreSpec : ChangeSpec := { name := "credMore", fn := fun _ => fun
  | [d1, d2, d3, d4] => { results := [.lit (.bool true)], args := [d1, d2, d3, d4] }
  | _ => none }
def credMoreRow : OpenClaim := { program := "ytlkbmmcbhfhalaa", sum := "e1f8aedc589d6e8d3781dbbf1ec9b6ec0b99f1709b8433ffa92c5088a3e1f597", func := "taffrail/taffraillaw05.CredMore", spec := "credMore", unfollowed := true, recurses := true, apart := false }
def CredMoreSaid : Prop := credMoreRow.holds Try.pinned (OpenSpec.ofChange credMoreSpec)

/-- ITS FALSE NEIGHBOUR: 'it returns false'. Refute it at one input. -/
def credMoreWrong : ChangeSpec := { name := "credMore", fn := fun _ => fun
  | [d1, d2, d3, d4] => { results := [.lit (.bool false)], args := [d1, d2, d3, d4] }
  | _ => none }
def CredMoreWrongFalsely : Prop := credMoreRow.holds Try.pinned (OpenSpec.ofChange credMoreWrong)

/-- 'taffraillaw05.CredBoth': WHATEVER THE INPUT: true; the input reads as it did. -/
def credBothSpec : ChangeSpec := { name := "credBoth", fn := fun _ => fun
  | [d1, d2] => { results := [.lit (.bool true)], args := [d1, d2] }
  | _ => none }
def credBothRow : OpenClaim := { program := "ytlkbmmcbhfhalaa", sum := "e1f8aedc589d6e8d3781dbbf1ec9b6ec0b99f1709b8433ffa92c5088a3e1f597", func := "taffrail/taffraillaw05.CredBoth", spec := "credBoth", unfollowed := true, recurses := true, apart := false }
def CredBothSaid : Prop := credBothRow.holds Try.pinned (OpenSpec.ofChange credBothSpec)

/-- ITS FALSE NEIGHBOUR: 'it returns false'. Refute it at one input. -/
def credBothWrong : ChangeSpec := { name := "credBoth", fn := fun _ => fun
  | [d1, d2] => { results := [.lit (.bool false)], args := [d1, d2] }
  | _ => none }
def CredBothWrongFalsely : Prop := credBothRow.holds Try.pinned (OpenSpec.ofChange credBothWrong)

/-- 'taffraillaw05.CredBits': WHATEVER THE INPUT: true; the input reads as it did. -/
def credBitsSpec : ChangeSpec := { name := "credBits", fn := fun _ => fun
  | [d1, d2, d3, d4] => { results := [.lit (.bool true)], args := [d1, d2, d3, d4] }
  | _ => none }
def credBitsRow : OpenClaim := { program := "ytlkbmmcbhfhalaa", sum := "e1f8aedc589d6e8d3781dbbf1ec9b6ec0b99f1709b8433ffa92c5088a3e1f597", func := "taffrail/taffraillaw05.CredBits", spec := "credBits", unfollowed := true, recurses := true, apart := false }
def CredBitsSaid : Prop := credBitsRow.holds Try.pinned (OpenSpec.ofChange credBitsSpec)

/-- ITS FALSE NEIGHBOUR: 'it returns false'. Refute it at one input. -/
def credBitsWrong : ChangeSpec := { name := "credBits", fn := fun _ => fun
  | [d1, d2, d3, d4] => { results := [.lit (.bool false)], args := [d1, d2, d3, d4] }
  | _ => none }
def CredBitsWrongFalsely : Prop := credBitsRow.holds Try.pinned (OpenSpec.ofChange credBitsWrong)

/-- 'taffraillaw05.CredOthers': WHATEVER THE INPUT: true; the input reads as it did. -/
def credOthersSpec : ChangeSpec := { name := "credOthers", fn := fun _ => fun
  | [d1, d2, d3, d4, d5] => { results := [.lit (.bool true)], args := [d1, d2, d3, d4, d5] }
  | _ => none }
def credOthersRow : OpenClaim := { program := "ytlkbmmcbhfhalaa", sum := "e1f8aedc589d6e8d3781dbbf1ec9b6ec0b99f1709b8433ffa92c5088a3e1f597", func := "taffrail/taffraillaw05.CredOthers", spec := "credOthers", unfollowed := true, recurses := true, apart := false }
def CredOthersSaid : Prop := credOthersRow.holds Try.pinned (OpenSpec.ofChange credOthersSpec)

/-- ITS FALSE NEIGHBOUR: 'it returns false'. Refute it at one input. -/
def credOthersWrong : ChangeSpec := { name := "credOthers", fn := fun _ => fun
  | [d1, d2, d3, d4, d5] => { results := [.lit (.bool false)], args := [d1, d2, d3, d4, d5] }
  | _ => none }
def CredOthersWrongFalsely : Prop := credOthersRow.holds Try.pinned (OpenSpec.ofChange credOthersWrong)

/-- 'taffraillaw05.CredDoes': WHATEVER THE INPUT: true; the input reads as it did. -/
def credDoesSpec : ChangeSpec := { name := "credDoes", fn := fun _ => fun
  | [d1, d2, d3, d4, d5, d6] => { results := [.lit (.bool true)], args := [d1, d2, d3, d4, d5, d6] }
  | _ => none }
def credDoesRow : OpenClaim := { program := "ytlkbmmcbhfhalaa", sum := "e1f8aedc589d6e8d3781dbbf1ec9b6ec0b99f1709b8433ffa92c5088a3e1f597", func := "taffrail/taffraillaw05.CredDoes", spec := "credDoes", unfollowed := true, recurses := true, apart := false }
def CredDoesSaid : Prop := credDoesRow.holds Try.pinned (OpenSpec.ofChange credDoesSpec)

/-- ITS FALSE NEIGHBOUR: 'it returns false'. Refute it at one input. -/
def credDoesWrong : ChangeSpec := { name := "credDoes", fn := fun _ => fun
  | [d1, d2, d3, d4, d5, d6] => { results := [.lit (.bool false)], args := [d1, d2, d3, d4, d5, d6] }
  | _ => none }
def CredDoesWrongFalsely : Prop := credDoesRow.holds Try.pinned (OpenSpec.ofChange credDoesWrong)

/-- 'taffraillaw05.CredOwners': WHATEVER THE INPUT: true; the input reads as it did. -/
def credOwnersSpec : ChangeSpec := { name := "credOwners", fn := fun _ => fun
  | [d1, d2] => { results := [.lit (.bool true)], args := [d1, d2] }
  | _ => none }
def credOwnersRow : OpenClaim := { program := "ytlkbmmcbhfhalaa", sum := "e1f8aedc589d6e8d3781dbbf1ec9b6ec0b99f1709b8433ffa92c5088a3e1f597", func := "taffrail/taffraillaw05.CredOwners", spec := "credOwners", unfollowed := true, recurses := true, apart := false }
def CredOwnersSaid : Prop := credOwnersRow.holds Try.pinned (OpenSpec.ofChange credOwnersSpec)

/-- ITS FALSE NEIGHBOUR: 'it returns false'. Refute it at one input. -/
def credOwnersWrong : ChangeSpec := { name := "credOwners", fn := fun _ => fun
  | [d1, d2] => { results := [.lit (.bool false)], args := [d1, d2] }
  | _ => none }
def CredOwnersWrongFalsely : Prop := credOwnersRow.holds Try.pinned (OpenSpec.ofChange credOwnersWrong)

/-- 'taffraillaw05.CredMakers': WHATEVER THE INPUT: true; the input reads as it did. -/
def credMakersSpec : ChangeSpec := { name := "credMakers", fn := fun _ => fun
  | [d1, d2, d3, d4, d5] => { results := [.lit (.bool true)], args := [d1, d2, d3, d4, d5] }
  | _ => none }
def credMakersRow : OpenClaim := { program := "ytlkbmmcbhfhalaa", sum := "e1f8aedc589d6e8d3781dbbf1ec9b6ec0b99f1709b8433ffa92c5088a3e1f597", func := "taffrail/taffraillaw05.CredMakers", spec := "credMakers", unfollowed := true, recurses := true, apart := false }
def CredMakersSaid : Prop := credMakersRow.holds Try.pinned (OpenSpec.ofChange credMakersSpec)

/-- ITS FALSE NEIGHBOUR: 'it returns false'. Refute it at one input. -/
def credMakersWrong : ChangeSpec := { name := "credMakers", fn := fun _ => fun
  | [d1, d2, d3, d4, d5] => { results := [.lit (.bool false)], args := [d1, d2, d3, d4, d5] }
  | _ => none }
def CredMakersWrongFalsely : Prop := credMakersRow.holds Try.pinned (OpenSpec.ofChange credMakersWrong)

/- THE SECOND FORM. 'bulk': how many values and letters a reading holds, each counted each time it is reached (what is shared counts as often as it is met; a slice's spare places count too). A statement '..UptoSaid' is the law's where the arguments, and the package variables that the reading takes, are together of bulk at most 1048576: NARROWER than '..Said'. Prove '..Said' where nothing that the law and all that it calls make is longer than what came in: it says more and counts as full. Else prove '..UptoSaid'. A law counts once. -/
mutual
def uptoBulk {H : Type} : DataW H → Nat
  | .lit (.string bytes) => bytes.length + 1
  | .lit _ => 1
  | .nil => 1
  | .ptr d => uptoBulk d + 1
  | .slice elems spare => uptoBulkAll elems + uptoBulkAll spare + 1
  | .agg parts => uptoBulkAll parts + 1
  | .iface _ d => uptoBulk d + 1
  | .map entries => uptoBulkEntries entries + 1
  | .held _ => 1
def uptoBulkAll {H : Type} : List (DataW H) → Nat
  | [] => 0
  | d :: r => uptoBulk d + uptoBulkAll r
def uptoBulkEntries {H : Type} : List (Lit × DataW H) → Nat
  | [] => 0
  | x :: r => uptoBulkEntry x + uptoBulkEntries r
def uptoBulkEntry {H : Type} : Lit × DataW H → Nat
  | (.string bytes, d) => bytes.length + uptoBulk d + 1
  | (_, d) => uptoBulk d + 1
 end
def uptoSmall : (H : Type) → List (DataW H) → Bool := fun _ ds => decide (uptoBulkAll ds ≤ 1048576)
def OpenSpec.upto (s : _root_.Go.ChangeSpec) : _root_.Go.OpenSpec := { _root_.Go.OpenSpec.ofChange s with cond := some uptoSmall }

/-- 'taffraillaw05.CredMore', WHERE WHAT IT READS IS OF BULK AT MOST 1048576: true; the input reads as it did. -/
def credMoreUptoRow : OpenClaim := { program := "ytlkbmmcbhfhalaa", sum := "e1f8aedc589d6e8d3781dbbf1ec9b6ec0b99f1709b8433ffa92c5088a3e1f597", func := "taffrail/taffraillaw05.CredMore", spec := "credMore", unfollowed := true, recurses := true, apart := false, narrowed := true }
def CredMoreUptoSaid : Prop := credMoreUptoRow.holds Try.pinned (OpenSpec.upto credMoreSpec)

/-- 'taffraillaw05.CredBoth', WHERE WHAT IT READS IS OF BULK AT MOST 1048576: true; the input reads as it did. -/
def credBothUptoRow : OpenClaim := { program := "ytlkbmmcbhfhalaa", sum := "e1f8aedc589d6e8d3781dbbf1ec9b6ec0b99f1709b8433ffa92c5088a3e1f597", func := "taffrail/taffraillaw05.CredBoth", spec := "credBoth", unfollowed := true, recurses := true, apart := false, narrowed := true }
def CredBothUptoSaid : Prop := credBothUptoRow.holds Try.pinned (OpenSpec.upto credBothSpec)

/-- 'taffraillaw05.CredBits', WHERE WHAT IT READS IS OF BULK AT MOST 1048576: true; the input reads as it did. -/
def credBitsUptoRow : OpenClaim := { program := "ytlkbmmcbhfhalaa", sum := "e1f8aedc589d6e8d3781dbbf1ec9b6ec0b99f1709b8433ffa92c5088a3e1f597", func := "taffrail/taffraillaw05.CredBits", spec := "credBits", unfollowed := true, recurses := true, apart := false, narrowed := true }
def CredBitsUptoSaid : Prop := credBitsUptoRow.holds Try.pinned (OpenSpec.upto credBitsSpec)

/-- 'taffraillaw05.CredOthers', WHERE WHAT IT READS IS OF BULK AT MOST 1048576: true; the input reads as it did. -/
def credOthersUptoRow : OpenClaim := { program := "ytlkbmmcbhfhalaa", sum := "e1f8aedc589d6e8d3781dbbf1ec9b6ec0b99f1709b8433ffa92c5088a3e1f597", func := "taffrail/taffraillaw05.CredOthers", spec := "credOthers", unfollowed := true, recurses := true, apart := false, narrowed := true }
def CredOthersUptoSaid : Prop := credOthersUptoRow.holds Try.pinned (OpenSpec.upto credOthersSpec)

/-- 'taffraillaw05.CredDoes', WHERE WHAT IT READS IS OF BULK AT MOST 1048576: true; the input reads as it did. -/
def credDoesUptoRow : OpenClaim := { program := "ytlkbmmcbhfhalaa", sum := "e1f8aedc589d6e8d3781dbbf1ec9b6ec0b99f1709b8433ffa92c5088a3e1f597", func := "taffrail/taffraillaw05.CredDoes", spec := "credDoes", unfollowed := true, recurses := true, apart := false, narrowed := true }
def CredDoesUptoSaid : Prop := credDoesUptoRow.holds Try.pinned (OpenSpec.upto credDoesSpec)

/-- 'taffraillaw05.CredOwners', WHERE WHAT IT READS IS OF BULK AT MOST 1048576: true; the input reads as it did. -/
def credOwnersUptoRow : OpenClaim := { program := "ytlkbmmcbhfhalaa", sum := "e1f8aedc589d6e8d3781dbbf1ec9b6ec0b99f1709b8433ffa92c5088a3e1f597", func := "taffrail/taffraillaw05.CredOwners", spec := "credOwners", unfollowed := true, recurses := true, apart := false, narrowed := true }
def CredOwnersUptoSaid : Prop := credOwnersUptoRow.holds Try.pinned (OpenSpec.upto credOwnersSpec)

/-- 'taffraillaw05.CredMakers', WHERE WHAT IT READS IS OF BULK AT MOST 1048576: true; the input reads as it did. -/
def credMakersUptoRow : OpenClaim := { program := "ytlkbmmcbhfhalaa", sum := "e1f8aedc589d6e8d3781dbbf1ec9b6ec0b99f1709b8433ffa92c5088a3e1f597", func := "taffrail/taffraillaw05.CredMakers", spec := "credMakers", unfollowed := true, recurses := true, apart := false, narrowed := true }
def CredMakersUptoSaid : Prop := credMakersUptoRow.holds Try.pinned (OpenSpec.upto credMakersSpec)

end Rows
end Go.Proofs.Ytlkbmmcbhfhalaa
