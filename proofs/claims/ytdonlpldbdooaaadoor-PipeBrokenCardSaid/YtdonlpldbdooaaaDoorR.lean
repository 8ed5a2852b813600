/- Arguments: a list of whole numbers; a list of operations. -/
import Derived.Test.YtdonlpldbdooaaaDoorL
import Derived.Test.YtdonlpldbdooaaaDoorM
import Derived.ChangeSlices
set_option linter.unusedVariables false
set_option linter.unusedSimpArgs false
namespace Go.Proofs
open Go.RowKit Go.WideShapes Go.ChangeShapes Go.Joins Go.Deep

theorem wf_range {a : Int} (h : (Lit.int .i64 a).wf = true) : -9223372036854775808 ≤ a ∧ a < 9223372036854775808 := by
  have h1 : IntKind.i64.min ≤ a ∧ a ≤ 9223372036854775807 := by simpa [Lit.wf] using h
  have h2 : IntKind.i64.min = -9223372036854775808 := by decide
  rw [h2] at h1
  omega

end Go.Proofs
