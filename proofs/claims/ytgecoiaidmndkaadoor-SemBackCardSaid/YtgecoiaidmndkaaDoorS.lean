/- What the rows' condition gives: the three sentinels lie; a world in which they do. -/
import Derived.Test.YtgecoiaidmndkaaDoorRows
import Derived.Test.YtgecoiaidmndkaaDoorA
import Derived.ProofKit
import Derived.LaidMore
import Derived.LaidLaws
import Derived.Stop.Joined
import Derived.Stop.LaidTwo
set_option linter.unusedVariables false
set_option linter.unusedSimpArgs false
namespace Go.Proofs
open Go.ChangeShapes Go.WideShapes Go.ChangeAt Go.RowKit
open YtgecoiaidmndkaaDoor

def laid3 : List (String × DataW Unit) := [("taffrail/sem.errRange", Rows.laid_taffrail_sem_errRange), ("taffrail/sem.errWait", Rows.laid_taffrail_sem_errWait), ("taffrail/sem.errAgain", Rows.laid_taffrail_sem_errAgain)]
theorem gR : Tryd.prog.globalNamed "taffrail/sem.errRange" = some 0 := by kernel_rfl
theorem gA : Tryd.prog.globalNamed "taffrail/sem.errAgain" = some 1 := by kernel_rfl
theorem gW : Tryd.prog.globalNamed "taffrail/sem.errWait" = some 2 := by kernel_rfl
theorem tR : (Tryd.prog.globals[0]?).map (·.type) = some 44 := by kernel_rfl
theorem tA : (Tryd.prog.globals[1]?).map (·.type) = some 44 := by kernel_rfl
theorem tW : (Tryd.prog.globals[2]?).map (·.type) = some 44 := by kernel_rfl
theorem cells95 : Tryd.prog.cellsOf 95 = 1 := by kernel_rfl
theorem cells9 : Tryd.prog.cellsOf 9 = 1 := by kernel_rfl
theorem starE : "*" ++ "errors.errorString" = "*errors.errorString" := by decide
theorem row69 (u : TypeId) (h : Tryd.prog.typeName? 3 u = some "*errors.errorString") : u = 69 :=
  typeName_ptr_named (nm := "errors.errorString") (by rw [starE]; kernel_rfl) (by kernel_rfl) (by decide) u (by rw [starE]; exact h)

theorem sen_of_laid {W : World} (h : laidMetH Tryd.prog laid3 W) : ∃ aR aA aW, Sen W aR aA aW := by
  rw [MakeChecks.laidMetH_plain _ _ _ (by kernel_rfl)] at h
  obtain ⟨ps, ⟨g0, t0, cs0, f0, p0, q0, hg0, ht0, hv0, hd0, ⟨g1, t1, cs1, f1, p1, q1, hg1, ht1, hv1, hd1, ⟨g2, t2, cs2, f2, p2, q2, hg2, ht2, hv2, hd2, _, e2⟩, e1⟩, e0⟩, hnd, hrows⟩ := h
  obtain rfl := Option.some.inj (gR.symm.trans hg0)
  obtain rfl := Option.some.inj (gW.symm.trans hg1)
  obtain rfl := Option.some.inj (gA.symm.trans hg2)
  obtain rfl := Option.some.inj (tR.symm.trans ht0)
  obtain rfl := Option.some.inj (tW.symm.trans ht1)
  obtain rfl := Option.some.inj (tA.symm.trans ht2)
  subst e2
  subst e1
  subst e0
  obtain ⟨l0⟩ := cs0
  obtain ⟨l1⟩ := cs1
  obtain ⟨l2⟩ := cs2
  have ok0 : ∀ u v, l0 = [.iface u v] → Value.okWide Tryd.prog W .any 0 u v := fun u v e => by
    subst e
    exact (hrows 0 0 (by simp [MemPlace.row])).2 u v (by simpa using World.var?_cell hg0 hv0 0)
  have ok1 : ∀ u v, l1 = [.iface u v] → Value.okWide Tryd.prog W .any 0 u v := fun u v e => by
    subst e
    exact (hrows 2 0 (by simp [MemPlace.row])).2 u v (by simpa using World.var?_cell hg1 hv1 0)
  have ok2 : ∀ u v, l2 = [.iface u v] → Value.okWide Tryd.prog W .any 0 u v := fun u v e => by
    subst e
    exact (hrows 1 0 (by simp [MemPlace.row])).2 u v (by simpa using World.var?_cell hg2 hv2 0)
  obtain ⟨a0, s0, rfl, hc0, hs0, hz0, rfl⟩ := errorString_of_trod Tryd.underlying44 row69 Tryd.underlying69 Tryd.underlying95 rfl rfl Tryd.underlying9 cells95 cells9 hd0 ok0
  obtain ⟨a1, s1, rfl, hc1, hs1, hz1, rfl⟩ := errorString_of_trod Tryd.underlying44 row69 Tryd.underlying69 Tryd.underlying95 rfl rfl Tryd.underlying9 cells95 cells9 hd1 ok1
  obtain ⟨a2, s2, rfl, hc2, hs2, hz2, rfl⟩ := errorString_of_trod Tryd.underlying44 row69 Tryd.underlying69 Tryd.underlying95 rfl rfl Tryd.underlying9 cells95 cells9 hd2 ok2
  have b0 := (hrows a0.block a0.off (by simp [MemPlace.row])).1
  have b1 := (hrows a1.block a1.off (by simp [MemPlace.row])).1
  have b2 := (hrows a2.block a2.off (by simp [MemPlace.row])).1
  refine ⟨a0, a2, a1, by simpa using World.var?_cell hg0 hv0 0, by simpa using World.var?_cell hg2 hv2 0, by simpa using World.var?_cell hg1 hv1 0, b0, b2, b1, ?_, ?_, ?_⟩
  · rintro rfl; simp [MemPlace.row] at hnd
  · rintro rfl; simp [MemPlace.row] at hnd
  · rintro rfl; simp [MemPlace.row] at hnd

theorem door_met (os : Os) (args : Array Value) : laidMetH Tryd.prog laid3 ((World.doorLaid Tryd.prog 66 os).forCall (fun _ _ => 0) ⟨#[], args, []⟩).memory :=
  laidMetH_of_parts3 (fuel := 8) (laidMet_of_run' 8 (by kernel_rfl) (by kernel_rfl)) (by kernel_rfl) (by kernel_rfl)
end Go.Proofs
