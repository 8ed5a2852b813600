/- CredDoes. -/
import Derived.Test.YtlkbmmcbhfhalaaQ1
import Derived.Test.YtlkbmmcbhfhalaaQ2
import Derived.Test.YtlkbmmcbhfhalaaQ3
import Derived.Test.YtlkbmmcbhfhalaaQ4
import Derived.Test.YtlkbmmcbhfhalaaQ5
import Derived.Test.YtlkbmmcbhfhalaaQ6
set_option linter.unusedVariables false
set_option linter.unusedSimpArgs false
namespace Go.Proofs
open Go.RowKit Go.Shelf

theorem credDoes_walk (u g pu pg pcu pcg m want uid gid mode : Int) (w : World) : Calls Try.prog 7 #[.agg #[.int .i64 u, .int .i64 g], .agg #[.int .i64 pu, .int .i64 pg, .int .i64 pcu, .int .i64 pcg, .int .i64 m], .int .i64 want, .int .i64 uid, .int .i64 gid, .int .i64 mode] w fun e w' => e = .returned (.bool true) ∧ Below w.heap.size w w' := by
  by_cases hn : areB [u, g] = true ∧ permB pu pg pcu pcg m = true ∧ permB uid gid pcu pcg mode = true
  · obtain ⟨hr, hp, hq⟩ := hn
    cases ho : ownsB u g pu pg pcu pcg m <;> cases hm : permB u g u g mode
    · exact does_no_denied _ _ _ _ _ _ _ _ _ _ _ w hm hr hp hq ho
    · exact does_yes_denied _ _ _ _ _ _ _ _ _ _ _ w hm hr hp hq ho
    · exact does_no_ok _ _ _ _ _ _ _ _ _ _ _ w hm hr hp hq ho
    · exact does_yes_ok _ _ _ _ _ _ _ _ _ _ _ w hm hr hp hq ho
  · cases hm : permB u g u g mode
    · exact does_no_wrong _ _ _ _ _ _ _ _ _ _ _ w hm hn
    · exact does_yes_wrong _ _ _ _ _ _ _ _ _ _ _ w hm hn
end Go.Proofs
