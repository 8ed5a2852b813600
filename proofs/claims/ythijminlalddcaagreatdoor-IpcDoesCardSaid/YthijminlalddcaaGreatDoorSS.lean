/- What the rows' condition gives: errors.errorType lies; a world in which it does. -/
import Derived.Test.YthijminlalddcaaGreatDoorRows
import Derived.Test.YthijminlalddcaaGreatDoorIA
import Derived.Test.YthijminlalddcaaGreatDoorL
import Derived.ProofKit
import Derived.LaidMore
import Derived.LaidLaws
import Derived.LaidHandle
import Derived.Stop.Joined
set_option linter.unusedVariables false
set_option linter.unusedSimpArgs false
namespace Go.Proofs
open Go.ChangeShapes Go.WideShapes Go.ChangeAt Go.RowKit
open YthijminlalddcaaGreatDoor

def laidH : List (String × DataW Unit) := [("errors.errorType", Rows.laid_errors_errorType)]
theorem gEt : Tryz.prog.globalNamed "errors.errorType" = some 0 := by kernel_rfl
theorem rtEt : (Tryz.prog.cutTypes.find? (·.1 == "internal/reflectlite.rtype")).map (·.2) = some 166 := by kernel_rfl
theorem oneRowEt : ((List.range 211).filter fun t => Tryz.prog.rowNamed t [101, 114, 114, 111, 114]) = [72] := by kernel_rfl
theorem eth_of_laid {W : World} (h : laidMetH Tryz.prog laidH W) : EtH W := by
  have h' : laidMet Tryz.prog [] W ∧ handlesMet Tryz.prog laidH W := h
  obtain ⟨name, u, ty, e1, e2, e3, e4, e5⟩ := h'.2 _ (List.mem_singleton.2 rfl)
  have en : name = [101, 114, 114, 111, 114] := (Option.some.inj e1).symm
  subst en
  obtain rfl := Option.some.inj (rtEt.symm.trans e2)
  have hm : ty ∈ (List.range 211).filter fun t => Tryz.prog.rowNamed t [101, 114, 114, 111, 114] := List.mem_filter.2 ⟨List.mem_range.2 (by rw [← AsF.tsize]; exact e3), e4⟩
  rw [oneRowEt] at hm
  obtain rfl := List.mem_singleton.1 hm
  have hh : typeHandle Tryz.prog 72 = .pointer (some ⟨1, 72, none⟩) := by kernel_rfl
  rw [hh] at e5
  unfold EtH
  simpa using World.var?_cell gEt e5 0
noncomputable def laidWorld (os : Os) : World :=
  let w0 := World.holding Tryz.prog os ⟨#[], #[], []⟩
  { w0 with heap := w0.heap.modify 0 fun
      | .cells _ t frozen => .cells #[.iface 166 (.agg #[.pointer (some ⟨1, 72, none⟩)])] t frozen
      | o => o }
theorem laidWorld_met (os : Os) (args : Array Value) : laidMetH Tryz.prog laidH ((laidWorld os).forCall (fun _ _ => 0) ⟨#[], args, []⟩).memory :=
  laidMetH_of_parts (laidMet_nil _ _) (by kernel_rfl)
theorem wf_range {a : Int} (h : (Lit.int .i64 a).wf = true) : -9223372036854775808 ≤ a ∧ a < 9223372036854775808 := by
  have h1 : IntKind.i64.min ≤ a ∧ a ≤ 9223372036854775807 := by simpa [Lit.wf] using h
  have h2 : IntKind.i64.min = -9223372036854775808 := by decide
  rw [h2] at h1
  omega
end Go.Proofs
