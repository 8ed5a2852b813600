/-
  NARROWER THAN 'FOR EVERY INPUT', by the rows' own cells (each row's printed sentence says how): SemAll: laid · SemOne: laid · SemBack: laid · SemFlags: laid · SemWaits: laid · SemTries: laid · SemOwn: laid · SemSets: laid.
  DERIVED. THE GIVEN ROWS OF THIS SEAT. 8 by the template 'for every input the law returns true; each argument reads behind the call as it read before'; 0 by the template 'total and deterministic' (their statements: YtgecoiaidmndkaaDoorTotals.lean).
  GIVEN WITH THE SEED: the statements are not yours to turn. If you find one false, say at which input.
  Laid BY PROGRAM, IN A SANDBOX (cutbox-rows.mjs): the forced cells as the released guide's own fill.sh prints them over the translation da6a683fef70a6ac… (all of the seat's roots in one cut). By AI agents, Wed Nov 11 2026. No macro, syntax, notation, axiom, sorry.
-/
import Derived.Test.YtgecoiaidmndkaaDoorChecked
import GoSem.Claim
import GoSem.ClaimJoined
import GoSem.ClaimMapViews
import Derived.JoinedTies
import Derived.KernelRfl
namespace Go.Proofs.YtgecoiaidmndkaaDoor
/- THE CELL 'sum', in the pinned program and in every row, IS THE sha256 OF THE DUMP (.gsa) THAT YtgecoiaidmndkaaDoorProg.lean LOADS. Nothing in Lean hashes anything: it is a label: what it is worth is what the hold of that sum in a sandbox is worth. -/
noncomputable def Tryd.pinned : Pinned := { name := "ytgecoiaidmndkaadoor", sum := "da6a683fef70a6ac902b858ac0033e70e8882e651756097823736f1fe1182ad6", checked := Tryd.checked }
namespace Rows
def none {H : Type} : Left H := { results := [], args := [] }

/- WHAT THE LISTED PACKAGE-LEVEL VARIABLES READ AS WHEN THE CALL BEGINS. Each datum BY PROGRAM (the guide's laid-datum.mjs) off the statement by which the dump's own 'gosem.cut.vars' lays the variable. In a bare row this is a premise. The card (YtgecoiaidmndkaaDoorCards.lean) ties it to the program's text. -/
def laid_taffrail_sem_errRange {H : Type} : DataW H := .iface "*errors.errorString" (.ptr (.agg [.lit (.string [116, 111, 111, 32, 109, 117, 99, 104])]))
def laid_taffrail_sem_errWait {H : Type} : DataW H := .iface "*errors.errorString" (.ptr (.agg [.lit (.string [119, 97, 105, 116])]))
def laid_taffrail_sem_errAgain {H : Type} : DataW H := .iface "*errors.errorString" (.ptr (.agg [.lit (.string [114, 101, 102, 117, 115, 101, 100])]))

/-- 'taffraillaw13.SemAll': WHATEVER THE INPUT: true; the input reads as it did. -/
def semAllSpec : ChangeSpec := { name := "semAll", fn := fun _ => fun
  | [d1, d2] => { results := [.lit (.bool true)], args := [d1, d2] }
  | _ => none }
def semAllRow : OpenClaim := { program := "ytgecoiaidmndkaadoor", sum := "da6a683fef70a6ac902b858ac0033e70e8882e651756097823736f1fe1182ad6", func := "taffrail/taffraillaw13.SemAll", spec := "semAll", inPlace := ["internal/reflectlite.TypeOf"], unfollowed := true, recurses := true, named := ["taffrail/sem.errRange", "taffrail/sem.errAgain", "taffrail/sem.errWait"], apart := false, laid := [("taffrail/sem.errRange", laid_taffrail_sem_errRange), ("taffrail/sem.errWait", laid_taffrail_sem_errWait), ("taffrail/sem.errAgain", laid_taffrail_sem_errAgain)] }
def SemAllSaid : Prop := semAllRow.holds Tryd.pinned (OpenSpec.ofChange semAllSpec)

/-- ITS FALSE NEIGHBOUR: 'it returns false'. Refute it at one input. -/
def semAllWrong : ChangeSpec := { name := "semAll", fn := fun _ => fun
  | [d1, d2] => { results := [.lit (.bool false)], args := [d1, d2] }
  | _ => none }
def SemAllWrongFalsely : Prop := semAllRow.holds Tryd.pinned (OpenSpec.ofChange semAllWrong)

/-- 'taffraillaw13.SemOne': WHATEVER THE INPUT: true; the input reads as it did. -/
def semOneSpec : ChangeSpec := { name := "semOne", fn := fun _ => fun
  | [d1, d2] => { results := [.lit (.bool true)], args := [d1, d2] }
  | _ => none }
def semOneRow : OpenClaim := { program := "ytgecoiaidmndkaadoor", sum := "da6a683fef70a6ac902b858ac0033e70e8882e651756097823736f1fe1182ad6", func := "taffrail/taffraillaw13.SemOne", spec := "semOne", inPlace := ["internal/reflectlite.TypeOf"], unfollowed := true, recurses := true, named := ["taffrail/sem.errRange", "taffrail/sem.errAgain", "taffrail/sem.errWait"], apart := false, laid := [("taffrail/sem.errRange", laid_taffrail_sem_errRange), ("taffrail/sem.errWait", laid_taffrail_sem_errWait), ("taffrail/sem.errAgain", laid_taffrail_sem_errAgain)] }
def SemOneSaid : Prop := semOneRow.holds Tryd.pinned (OpenSpec.ofChange semOneSpec)

/-- ITS FALSE NEIGHBOUR: 'it returns false'. Refute it at one input. -/
def semOneWrong : ChangeSpec := { name := "semOne", fn := fun _ => fun
  | [d1, d2] => { results := [.lit (.bool false)], args := [d1, d2] }
  | _ => none }
def SemOneWrongFalsely : Prop := semOneRow.holds Tryd.pinned (OpenSpec.ofChange semOneWrong)

/-- 'taffraillaw13.SemBack': WHATEVER THE INPUT: true; the input reads as it did. -/
def semBackSpec : ChangeSpec := { name := "semBack", fn := fun _ => fun
  | [d1, d2] => { results := [.lit (.bool true)], args := [d1, d2] }
  | _ => none }
def semBackRow : OpenClaim := { program := "ytgecoiaidmndkaadoor", sum := "da6a683fef70a6ac902b858ac0033e70e8882e651756097823736f1fe1182ad6", func := "taffrail/taffraillaw13.SemBack", spec := "semBack", inPlace := ["internal/reflectlite.TypeOf"], unfollowed := true, recurses := true, named := ["taffrail/sem.errRange", "taffrail/sem.errAgain", "taffrail/sem.errWait"], apart := false, laid := [("taffrail/sem.errRange", laid_taffrail_sem_errRange), ("taffrail/sem.errWait", laid_taffrail_sem_errWait), ("taffrail/sem.errAgain", laid_taffrail_sem_errAgain)] }
def SemBackSaid : Prop := semBackRow.holds Tryd.pinned (OpenSpec.ofChange semBackSpec)

/-- ITS FALSE NEIGHBOUR: 'it returns false'. Refute it at one input. -/
def semBackWrong : ChangeSpec := { name := "semBack", fn := fun _ => fun
  | [d1, d2] => { results := [.lit (.bool false)], args := [d1, d2] }
  | _ => none }
def SemBackWrongFalsely : Prop := semBackRow.holds Tryd.pinned (OpenSpec.ofChange semBackWrong)

/-- 'taffraillaw13.SemFlags': WHATEVER THE INPUT: true; the input reads as it did. -/
def semFlagsSpec : ChangeSpec := { name := "semFlags", fn := fun _ => fun
  | [d1, d2, d3] => { results := [.lit (.bool true)], args := [d1, d2, d3] }
  | _ => none }
def semFlagsRow : OpenClaim := { program := "ytgecoiaidmndkaadoor", sum := "da6a683fef70a6ac902b858ac0033e70e8882e651756097823736f1fe1182ad6", func := "taffrail/taffraillaw13.SemFlags", spec := "semFlags", inPlace := ["internal/reflectlite.TypeOf"], unfollowed := true, recurses := true, named := ["taffrail/sem.errRange", "taffrail/sem.errAgain", "taffrail/sem.errWait"], apart := false, laid := [("taffrail/sem.errRange", laid_taffrail_sem_errRange), ("taffrail/sem.errWait", laid_taffrail_sem_errWait), ("taffrail/sem.errAgain", laid_taffrail_sem_errAgain)] }
def SemFlagsSaid : Prop := semFlagsRow.holds Tryd.pinned (OpenSpec.ofChange semFlagsSpec)

/-- ITS FALSE NEIGHBOUR: 'it returns false'. Refute it at one input. -/
def semFlagsWrong : ChangeSpec := { name := "semFlags", fn := fun _ => fun
  | [d1, d2, d3] => { results := [.lit (.bool false)], args := [d1, d2, d3] }
  | _ => none }
def SemFlagsWrongFalsely : Prop := semFlagsRow.holds Tryd.pinned (OpenSpec.ofChange semFlagsWrong)

/-- 'taffraillaw13.SemWaits': WHATEVER THE INPUT: true; the input reads as it did. -/
def semWaitsSpec : ChangeSpec := { name := "semWaits", fn := fun _ => fun
  | [d1, d2] => { results := [.lit (.bool true)], args := [d1, d2] }
  | _ => none }
def semWaitsRow : OpenClaim := { program := "ytgecoiaidmndkaadoor", sum := "da6a683fef70a6ac902b858ac0033e70e8882e651756097823736f1fe1182ad6", func := "taffrail/taffraillaw13.SemWaits", spec := "semWaits", inPlace := ["internal/reflectlite.TypeOf"], unfollowed := true, recurses := true, named := ["taffrail/sem.errRange", "taffrail/sem.errAgain", "taffrail/sem.errWait"], apart := false, laid := [("taffrail/sem.errRange", laid_taffrail_sem_errRange), ("taffrail/sem.errWait", laid_taffrail_sem_errWait), ("taffrail/sem.errAgain", laid_taffrail_sem_errAgain)] }
def SemWaitsSaid : Prop := semWaitsRow.holds Tryd.pinned (OpenSpec.ofChange semWaitsSpec)

/-- ITS FALSE NEIGHBOUR: 'it returns false'. Refute it at one input. -/
def semWaitsWrong : ChangeSpec := { name := "semWaits", fn := fun _ => fun
  | [d1, d2] => { results := [.lit (.bool false)], args := [d1, d2] }
  | _ => none }
def SemWaitsWrongFalsely : Prop := semWaitsRow.holds Tryd.pinned (OpenSpec.ofChange semWaitsWrong)

/-- 'taffraillaw13.SemTries': WHATEVER THE INPUT: true; the input reads as it did. -/
def semTriesSpec : ChangeSpec := { name := "semTries", fn := fun _ => fun
  | [d1, d2, d3] => { results := [.lit (.bool true)], args := [d1, d2, d3] }
  | _ => none }
def semTriesRow : OpenClaim := { program := "ytgecoiaidmndkaadoor", sum := "da6a683fef70a6ac902b858ac0033e70e8882e651756097823736f1fe1182ad6", func := "taffrail/taffraillaw13.SemTries", spec := "semTries", inPlace := ["internal/reflectlite.TypeOf"], unfollowed := true, recurses := true, named := ["taffrail/sem.errRange", "taffrail/sem.errAgain", "taffrail/sem.errWait"], apart := false, laid := [("taffrail/sem.errRange", laid_taffrail_sem_errRange), ("taffrail/sem.errWait", laid_taffrail_sem_errWait), ("taffrail/sem.errAgain", laid_taffrail_sem_errAgain)] }
def SemTriesSaid : Prop := semTriesRow.holds Tryd.pinned (OpenSpec.ofChange semTriesSpec)

/-- ITS FALSE NEIGHBOUR: 'it returns false'. Refute it at one input. -/
def semTriesWrong : ChangeSpec := { name := "semTries", fn := fun _ => fun
  | [d1, d2, d3] => { results := [.lit (.bool false)], args := [d1, d2, d3] }
  | _ => none }
def SemTriesWrongFalsely : Prop := semTriesRow.holds Tryd.pinned (OpenSpec.ofChange semTriesWrong)

/-- 'taffraillaw13.SemOwn': WHATEVER THE INPUT: true; the input reads as it did. -/
def semOwnSpec : ChangeSpec := { name := "semOwn", fn := fun _ => fun
  | [d1, d2, d3, d4] => { results := [.lit (.bool true)], args := [d1, d2, d3, d4] }
  | _ => none }
def semOwnRow : OpenClaim := { program := "ytgecoiaidmndkaadoor", sum := "da6a683fef70a6ac902b858ac0033e70e8882e651756097823736f1fe1182ad6", func := "taffrail/taffraillaw13.SemOwn", spec := "semOwn", inPlace := ["internal/reflectlite.TypeOf"], unfollowed := true, recurses := true, named := ["taffrail/sem.errRange", "taffrail/sem.errAgain", "taffrail/sem.errWait"], apart := false, laid := [("taffrail/sem.errRange", laid_taffrail_sem_errRange), ("taffrail/sem.errWait", laid_taffrail_sem_errWait), ("taffrail/sem.errAgain", laid_taffrail_sem_errAgain)] }
def SemOwnSaid : Prop := semOwnRow.holds Tryd.pinned (OpenSpec.ofChange semOwnSpec)

/-- ITS FALSE NEIGHBOUR: 'it returns false'. Refute it at one input. -/
def semOwnWrong : ChangeSpec := { name := "semOwn", fn := fun _ => fun
  | [d1, d2, d3, d4] => { results := [.lit (.bool false)], args := [d1, d2, d3, d4] }
  | _ => none }
def SemOwnWrongFalsely : Prop := semOwnRow.holds Tryd.pinned (OpenSpec.ofChange semOwnWrong)

/-- 'taffraillaw13.SemSets': WHATEVER THE INPUT: true; the input reads as it did. -/
def semSetsSpec : ChangeSpec := { name := "semSets", fn := fun _ => fun
  | [d1, d2, d3, d4] => { results := [.lit (.bool true)], args := [d1, d2, d3, d4] }
  | _ => none }
def semSetsRow : OpenClaim := { program := "ytgecoiaidmndkaadoor", sum := "da6a683fef70a6ac902b858ac0033e70e8882e651756097823736f1fe1182ad6", func := "taffrail/taffraillaw13.SemSets", spec := "semSets", inPlace := ["internal/reflectlite.TypeOf"], unfollowed := true, recurses := true, named := ["taffrail/sem.errRange", "taffrail/sem.errAgain", "taffrail/sem.errWait"], apart := false, laid := [("taffrail/sem.errRange", laid_taffrail_sem_errRange), ("taffrail/sem.errWait", laid_taffrail_sem_errWait), ("taffrail/sem.errAgain", laid_taffrail_sem_errAgain)] }
def SemSetsSaid : Prop := semSetsRow.holds Tryd.pinned (OpenSpec.ofChange semSetsSpec)

/-- ITS FALSE NEIGHBOUR: 'it returns false'. Refute it at one input. -/
def semSetsWrong : ChangeSpec := { name := "semSets", fn := fun _ => fun
  | [d1, d2, d3, d4] => { results := [.lit (.bool false)], args := [d1, d2, d3, d4] }
  | _ => none }
def SemSetsWrongFalsely : Prop := semSetsRow.holds Tryd.pinned (OpenSpec.ofChange semSetsWrong)

/- THE SECOND FORM. 'bulk': how many values and letters a reading holds, each counted each time it is reached (what is shared counts as often as it is met; a slice's spare places count too). A statement '..UptoSaid' is the law's where the arguments, and the package variables that the reading takes, are together of bulk at most 1048576: NARROWER than '..Said'. Prove '..Said' where nothing that the law and all that it calls make is longer than what came in: it says more and counts as full. Else prove '..UptoSaid'. A law counts once. -/
mutual
def uptoBulk {H : Type} : DataW H → Nat
  | .lit (.string bytes) => bytes.length + 1
  | .lit _ => 1
  | .nil => 1
  | .ptr d => uptoBulk d + 1
  | .slice elems spare => uptoBulkAll elems + uptoBulkAll spare + 1
  | .agg parts => uptoBulkAll parts + 1
  | .iface _ d => uptoBulk d + 1
  | .map entries => uptoBulkEntries entries + 1
  | .held _ => 1
def uptoBulkAll {H : Type} : List (DataW H) → Nat
  | [] => 0
  | d :: r => uptoBulk d + uptoBulkAll r
def uptoBulkEntries {H : Type} : List (Lit × DataW H) → Nat
  | [] => 0
  | x :: r => uptoBulkEntry x + uptoBulkEntries r
def uptoBulkEntry {H : Type} : Lit × DataW H → Nat
  | (.string bytes, d) => bytes.length + uptoBulk d + 1
  | (_, d) => uptoBulk d + 1
 end
def uptoSmall : (H : Type) → List (DataW H) → Bool := fun _ ds => decide (uptoBulkAll ds ≤ 1048576)
def OpenSpec.upto (s : _root_.Go.ChangeSpec) : _root_.Go.OpenSpec := { _root_.Go.OpenSpec.ofChange s with cond := some uptoSmall }

/-- 'taffraillaw13.SemAll', WHERE WHAT IT READS IS OF BULK AT MOST 1048576: true; the input reads as it did. -/
def semAllUptoRow : OpenClaim := { program := "ytgecoiaidmndkaadoor", sum := "da6a683fef70a6ac902b858ac0033e70e8882e651756097823736f1fe1182ad6", func := "taffrail/taffraillaw13.SemAll", spec := "semAll", inPlace := ["internal/reflectlite.TypeOf"], unfollowed := true, recurses := true, named := ["taffrail/sem.errRange", "taffrail/sem.errAgain", "taffrail/sem.errWait"], apart := false, laid := [("taffrail/sem.errRange", laid_taffrail_sem_errRange), ("taffrail/sem.errWait", laid_taffrail_sem_errWait), ("taffrail/sem.errAgain", laid_taffrail_sem_errAgain)], narrowed := true }
def SemAllUptoSaid : Prop := semAllUptoRow.holds Tryd.pinned (OpenSpec.upto semAllSpec)

/-- 'taffraillaw13.SemOne', WHERE WHAT IT READS IS OF BULK AT MOST 1048576: true; the input reads as it did. -/
def semOneUptoRow : OpenClaim := { program := "ytgecoiaidmndkaadoor", sum := "da6a683fef70a6ac902b858ac0033e70e8882e651756097823736f1fe1182ad6", func := "taffrail/taffraillaw13.SemOne", spec := "semOne", inPlace := ["internal/reflectlite.TypeOf"], unfollowed := true, recurses := true, named := ["taffrail/sem.errRange", "taffrail/sem.errAgain", "taffrail/sem.errWait"], apart := false, laid := [("taffrail/sem.errRange", laid_taffrail_sem_errRange), ("taffrail/sem.errWait", laid_taffrail_sem_errWait), ("taffrail/sem.errAgain", laid_taffrail_sem_errAgain)], narrowed := true }
def SemOneUptoSaid : Prop := semOneUptoRow.holds Tryd.pinned (OpenSpec.upto semOneSpec)

/-- 'taffraillaw13.SemBack', WHERE WHAT IT READS IS OF BULK AT MOST 1048576: true; the input reads as it did. -/
def semBackUptoRow : OpenClaim := { program := "ytgecoiaidmndkaadoor", sum := "da6a683fef70a6ac902b858ac0033e70e8882e651756097823736f1fe1182ad6", func := "taffrail/taffraillaw13.SemBack", spec := "semBack", inPlace := ["internal/reflectlite.TypeOf"], unfollowed := true, recurses := true, named := ["taffrail/sem.errRange", "taffrail/sem.errAgain", "taffrail/sem.errWait"], apart := false, laid := [("taffrail/sem.errRange", laid_taffrail_sem_errRange), ("taffrail/sem.errWait", laid_taffrail_sem_errWait), ("taffrail/sem.errAgain", laid_taffrail_sem_errAgain)], narrowed := true }
def SemBackUptoSaid : Prop := semBackUptoRow.holds Tryd.pinned (OpenSpec.upto semBackSpec)

/-- 'taffraillaw13.SemFlags', WHERE WHAT IT READS IS OF BULK AT MOST 1048576: true; the input reads as it did. -/
def semFlagsUptoRow : OpenClaim := { program := "ytgecoiaidmndkaadoor", sum := "da6a683fef70a6ac902b858ac0033e70e8882e651756097823736f1fe1182ad6", func := "taffrail/taffraillaw13.SemFlags", spec := "semFlags", inPlace := ["internal/reflectlite.TypeOf"], unfollowed := true, recurses := true, named := ["taffrail/sem.errRange", "taffrail/sem.errAgain", "taffrail/sem.errWait"], apart := false, laid := [("taffrail/sem.errRange", laid_taffrail_sem_errRange), ("taffrail/sem.errWait", laid_taffrail_sem_errWait), ("taffrail/sem.errAgain", laid_taffrail_sem_errAgain)], narrowed := true }
def SemFlagsUptoSaid : Prop := semFlagsUptoRow.holds Tryd.pinned (OpenSpec.upto semFlagsSpec)

/-- 'taffraillaw13.SemWaits', WHERE WHAT IT READS IS OF BULK AT MOST 1048576: true; the input reads as it did. -/
def semWaitsUptoRow : OpenClaim := { program := "ytgecoiaidmndkaadoor", sum := "da6a683fef70a6ac902b858ac0033e70e8882e651756097823736f1fe1182ad6", func := "taffrail/taffraillaw13.SemWaits", spec := "semWaits", inPlace := ["internal/reflectlite.TypeOf"], unfollowed := true, recurses := true, named := ["taffrail/sem.errRange", "taffrail/sem.errAgain", "taffrail/sem.errWait"], apart := false, laid := [("taffrail/sem.errRange", laid_taffrail_sem_errRange), ("taffrail/sem.errWait", laid_taffrail_sem_errWait), ("taffrail/sem.errAgain", laid_taffrail_sem_errAgain)], narrowed := true }
def SemWaitsUptoSaid : Prop := semWaitsUptoRow.holds Tryd.pinned (OpenSpec.upto semWaitsSpec)

/-- 'taffraillaw13.SemTries', WHERE WHAT IT READS IS OF BULK AT MOST 1048576: true; the input reads as it did. -/
def semTriesUptoRow : OpenClaim := { program := "ytgecoiaidmndkaadoor", sum := "da6a683fef70a6ac902b858ac0033e70e8882e651756097823736f1fe1182ad6", func := "taffrail/taffraillaw13.SemTries", spec := "semTries", inPlace := ["internal/reflectlite.TypeOf"], unfollowed := true, recurses := true, named := ["taffrail/sem.errRange", "taffrail/sem.errAgain", "taffrail/sem.errWait"], apart := false, laid := [("taffrail/sem.errRange", laid_taffrail_sem_errRange), ("taffrail/sem.errWait", laid_taffrail_sem_errWait), ("taffrail/sem.errAgain", laid_taffrail_sem_errAgain)], narrowed := true }
def SemTriesUptoSaid : Prop := semTriesUptoRow.holds Tryd.pinned (OpenSpec.upto semTriesSpec)

/-- 'taffraillaw13.SemOwn', WHERE WHAT IT READS IS OF BULK AT MOST 1048576: true; the input reads as it did. -/
def semOwnUptoRow : OpenClaim := { program := "ytgecoiaidmndkaadoor", sum := "da6a683fef70a6ac902b858ac0033e70e8882e651756097823736f1fe1182ad6", func := "taffrail/taffraillaw13.SemOwn", spec := "semOwn", inPlace := ["internal/reflectlite.TypeOf"], unfollowed := true, recurses := true, named := ["taffrail/sem.errRange", "taffrail/sem.errAgain", "taffrail/sem.errWait"], apart := false, laid := [("taffrail/sem.errRange", laid_taffrail_sem_errRange), ("taffrail/sem.errWait", laid_taffrail_sem_errWait), ("taffrail/sem.errAgain", laid_taffrail_sem_errAgain)], narrowed := true }
def SemOwnUptoSaid : Prop := semOwnUptoRow.holds Tryd.pinned (OpenSpec.upto semOwnSpec)

/-- 'taffraillaw13.SemSets', WHERE WHAT IT READS IS OF BULK AT MOST 1048576: true; the input reads as it did. -/
def semSetsUptoRow : OpenClaim := { program := "ytgecoiaidmndkaadoor", sum := "da6a683fef70a6ac902b858ac0033e70e8882e651756097823736f1fe1182ad6", func := "taffrail/taffraillaw13.SemSets", spec := "semSets", inPlace := ["internal/reflectlite.TypeOf"], unfollowed := true, recurses := true, named := ["taffrail/sem.errRange", "taffrail/sem.errAgain", "taffrail/sem.errWait"], apart := false, laid := [("taffrail/sem.errRange", laid_taffrail_sem_errRange), ("taffrail/sem.errWait", laid_taffrail_sem_errWait), ("taffrail/sem.errAgain", laid_taffrail_sem_errAgain)], narrowed := true }
def SemSetsUptoSaid : Prop := semSetsUptoRow.holds Tryd.pinned (OpenSpec.upto semSetsSpec)

end Rows
end Go.Proofs.YtgecoiaidmndkaaDoor
