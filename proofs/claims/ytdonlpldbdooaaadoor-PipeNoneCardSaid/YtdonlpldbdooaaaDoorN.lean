/- PipeNone. -/
import Derived.Test.YtdonlpldbdooaaaDoorM
set_option linter.unusedVariables false
set_option linter.unusedSimpArgs false
namespace Go.Proofs
open Go.RowKit Go.Shelf
attribute [local go_sem] Oper.semAt_some
variable {aW aB : Addr}

set_option maxRecDepth 100000 in
set_option maxHeartbeats 2000000 in
theorem pipeNone_walk (x0 k n : Int) (s : ByteArray) (w : World) (_ : -9223372036854775808 ≤ x0 ∧ x0 < 9223372036854775808) (_ : -9223372036854775808 ≤ k ∧ k < 9223372036854775808) (_ : -9223372036854775808 ≤ n ∧ n < 9223372036854775808) (hs : s.size ≤ maxLen) (hS : Sen w aW aB) :
    Calls Tryd.prog 8 #[.agg #[.int .i64 x0, .int .i64 k, .int .i64 n, .string s]] w fun e w' => e = .returned (.bool true) ∧ Below w.heap.size w w' := by
  go_enter Tryd.func8, Tryd.ntmps8
  have hb0 : Blk (w.alloc (.cells #[.int .i64 x0, .int .i64 k, .int .i64 n, .string s] 28)) w.heap.size 28 #[.int .i64 x0, .int .i64 k, .int .i64 n, .string s] := Blk.new _ _ _ _ rfl
  go_wp2_with fail
  refine (shown_any (aW := aW) (aB := aB) _ (hS.same (Gr.a1 _ _))).mono ?_; rintro e w1 ⟨rfl, hG1⟩
  have hGa := (Gr.a1 _ _).next hG1
  have hb1 := hG1.blk hb0 (fun f => f)
  have y1 := hb1.cell 1
  have y2 := hb1.cell 2
  have y3 := hb1.cell 3
  simp at y1 y2 y3
  clear hG1 hb0
  go_wp2_with fail
  refine (close_nil k _).mono ?_; rintro e w2 ⟨rfl, hG2⟩
  have hb2 := hG2.blk hb1 (fun f => f)
  have hGb := hGa.next hG2
  have z1 := hb2.cell 1
  have z2 := hb2.cell 2
  have z3 := hb2.cell 3
  simp at z1 z2 z3
  clear y1 y2 y3 hG2 hb1 hGa
  go_wp2_with fail
  refine (read_nil n _).mono ?_; rintro e w3 ⟨rfl, rfl⟩
  go_wp2_with fail
  refine (write_nil s _).mono ?_; rintro e w3 ⟨rfl, rfl⟩
  go_wp2_with fail
  refine (ends_nil _).mono ?_; rintro e w3 ⟨rfl, rfl⟩
  go_wp2_with fail
  refine (gr_nil k _).mono ?_; rintro e w3 ⟨rfl, rfl⟩
  go_wp2_with fail
  refine (canR_nil _).mono ?_; rintro e w3 ⟨rfl, rfl⟩
  go_wp2_with fail
  refine (canW_nil _).mono ?_; rintro e w3 ⟨rfl, rfl⟩
  go_wp2_with fail
  refine (plen_nil _).mono ?_; rintro e w3 ⟨rfl, rfl⟩
  go_wp2
  go_ret
  exact ⟨by first | rfl | simp, hGb.below⟩
end Go.Proofs
