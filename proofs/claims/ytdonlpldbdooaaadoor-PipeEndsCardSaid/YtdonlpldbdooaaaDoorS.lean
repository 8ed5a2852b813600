/- What the rows' condition gives: the two sentinels lie; a world in which they do. -/
import Derived.Test.YtdonlpldbdooaaaDoorRows
import Derived.Test.YtdonlpldbdooaaaDoorJ
import Derived.ProofKit
import Derived.LaidMore
import Derived.LaidLaws
import Derived.Stop.Joined
import Derived.Stop.LaidTwo
set_option linter.unusedVariables false
set_option linter.unusedSimpArgs false
namespace Go.Proofs
open Go.ChangeShapes Go.WideShapes Go.ChangeAt Go.RowKit
open YtdonlpldbdooaaaDoor

def laid2 : List (String × DataW Unit) := [("taffrail/pipe.errWait", Rows.laid_taffrail_pipe_errWait), ("taffrail/pipe.errBroken", Rows.laid_taffrail_pipe_errBroken)]
theorem gW : Tryd.prog.globalNamed "taffrail/pipe.errWait" = some 0 := by kernel_rfl
theorem gB : Tryd.prog.globalNamed "taffrail/pipe.errBroken" = some 1 := by kernel_rfl
theorem tW : (Tryd.prog.globals[0]?).map (·.type) = some 57 := by kernel_rfl
theorem tB : (Tryd.prog.globals[1]?).map (·.type) = some 57 := by kernel_rfl
theorem cellsE : Tryd.prog.cellsOf 117 = 1 := by kernel_rfl
theorem cells9 : Tryd.prog.cellsOf 9 = 1 := by kernel_rfl
theorem starE : "*" ++ "errors.errorString" = "*errors.errorString" := by decide
theorem rowE (u : TypeId) (h : Tryd.prog.typeName? 3 u = some "*errors.errorString") : u = 93 :=
  typeName_ptr_named (nm := "errors.errorString") (by rw [starE]; kernel_rfl) (by kernel_rfl) (by decide) u (by rw [starE]; exact h)

set_option maxRecDepth 100000 in
theorem sen_of_laid {W : World} (h : laidMetH Tryd.prog laid2 W) : ∃ aW aB, Sen W aW aB := by
  rw [MakeChecks.laidMetH_plain _ _ _ (by kernel_rfl)] at h
  obtain ⟨ps, ⟨g0, t0, cs0, f0, p0, q0, hg0, ht0, hv0, hd0, ⟨g1, t1, cs1, f1, p1, q1, hg1, ht1, hv1, hd1, _, e1⟩, e0⟩, hnd, hrows⟩ := h
  obtain rfl := Option.some.inj (gW.symm.trans hg0)
  obtain rfl := Option.some.inj (gB.symm.trans hg1)
  obtain rfl := Option.some.inj (tW.symm.trans ht0)
  obtain rfl := Option.some.inj (tB.symm.trans ht1)
  subst e1
  subst e0
  obtain ⟨l0⟩ := cs0
  obtain ⟨l1⟩ := cs1
  have ok0 : ∀ u v, l0 = [.iface u v] → Value.okWide Tryd.prog W .any 0 u v := fun u v e => by
    subst e
    exact (hrows 0 0 (by simp [MemPlace.row])).2 u v (by simpa using World.var?_cell hg0 hv0 0)
  have ok1 : ∀ u v, l1 = [.iface u v] → Value.okWide Tryd.prog W .any 0 u v := fun u v e => by
    subst e
    exact (hrows 1 0 (by simp [MemPlace.row])).2 u v (by simpa using World.var?_cell hg1 hv1 0)
  obtain ⟨a0, s0, rfl, hc0, hs0, hz0, rfl⟩ := errorString_of_trod Tryd.underlying57 rowE Tryd.underlying93 Tryd.underlying117 rfl rfl Tryd.underlying9 cellsE cells9 hd0 ok0
  obtain ⟨a1, s1, rfl, hc1, hs1, hz1, rfl⟩ := errorString_of_trod Tryd.underlying57 rowE Tryd.underlying93 Tryd.underlying117 rfl rfl Tryd.underlying9 cellsE cells9 hd1 ok1
  have b0 := (hrows a0.block a0.off (by simp [MemPlace.row])).1
  have b1 := (hrows a1.block a1.off (by simp [MemPlace.row])).1
  refine ⟨a0, a1, by simpa using World.var?_cell hg0 hv0 0, by simpa using World.var?_cell hg1 hv1 0, b0, b1, ?_⟩
  rintro rfl; simp [MemPlace.row] at hnd

theorem door_met (os : Os) (args : Array Value) : laidMetH Tryd.prog laid2 ((World.doorLaid Tryd.prog 66 os).forCall (fun _ _ => 0) ⟨#[], args, []⟩).memory :=
  laidMetH_of_parts3 (fuel := 8) (laidMet_of_run' 8 (by kernel_rfl) (by kernel_rfl)) (by kernel_rfl) (by kernel_rfl)
end Go.Proofs
