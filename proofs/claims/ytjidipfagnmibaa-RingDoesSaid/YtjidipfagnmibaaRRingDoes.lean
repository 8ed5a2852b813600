/-
  RingDoes: whatever the input, the law returns true; each argument reads behind the call as it read before. No condition.
-/

import Derived.ChangeMaps5
import Derived.Test.YtjidipfagnmibaaK
import Derived.Test.YtjidipfagnmibaaO
import Derived.Test.YtjidipfagnmibaaL

set_option linter.unusedVariables false
set_option linter.unusedSimpArgs false
namespace Go.Proofs.Ytjidipfagnmibaa.ringDoes
open Go.ChangeShapes Go.WideShapes Go.ChangeAt Go.RowKit Go.Joins

theorem own : ownKnob Try.prog.godebug = none := by kernel_rfl

theorem laid : laidOutB Try.prog = true := by kernel_rfl

theorem fit3 : Try.prog.readableRec 3 = true ∧ 3 < Try.prog.types.size := ⟨by kernel_rfl, of_decide_eq_true (by kernel_rfl)⟩

theorem fit34 : Try.prog.readableRec 34 = true ∧ 34 < Try.prog.types.size := ⟨by kernel_rfl, of_decide_eq_true (by kernel_rfl)⟩

set_option maxRecDepth 100000 in
theorem lifted (os : Os) (started : os.Started) (H : Type) (enc : TypeId × Value → H) :
    ReturnsInHanded {} Try.checked os 4 .any (Rows.ringDoesSpec.pre6 enc Try.prog Try.f4 Rows.ringDoesRow.domain false) (Rows.ringDoesSpec.post enc Try.prog Try.f4 false true false false) := by

  refine returnsInHanded_of_change (C := Try.checked) own started (by kernel_rfl) Try.func4
    (ChangeSpec.witness6 (enc := enc) (C := Try.checked) false ⟨#[], #[.int .i64 0, .slice none 0 0], []⟩ 8 (by kernel_rfl) (by kernel_rfl) (by kernel_rfl) (by kernel_rfl)) ?_

  intro W base args ds gs before hval0 hW hcnd _

  have hval : ∀ (j : Nat) t v, Try.f4.params[j]? = some t → args[j]? = some v → Value.okWide Try.prog W .any base t v := hval0

  have hW' := hW
  obtain ⟨p, q, hA0, hV, hpq, hfz, hnd⟩ := hW

  have hA : DataW.TrodAll enc Try.prog W 0 (fun _ => true) true Try.f4.params.toList args.toList ds p := hA0

  rw [Try.params4] at hA hval

  obtain ⟨v0, vs0, d0, ds0, p0, q0, hargs, rfl, rfl, h0, r0⟩ := trodAll_cons hA

  obtain ⟨v1, vs1, d1, ds1, p1, q1, rfl, rfl, rfl, h1, r1⟩ := trodAll_cons r0

  obtain ⟨rfl, rfl, rfl⟩ := trodAll_nil r1

  obtain rfl : args = #[v0, v1] := by cases args; simp_all

  obtain ⟨rfl, rfl⟩ := trodVars_none hV

  obtain ⟨sz, rfl, rfl, rfl, wf0⟩ := open_int Try.underlying3 (hval 0 3 v0 rfl rfl) h0

  obtain ⟨A1, n1, cap1, m1, U1, rfl, hmax1, hflat1⟩ := open_slice_flat Try.underlying34 Try.underlying36 (by kernel_rfl) (by kernel_rfl) (by decide) (hval 1 34 v1 rfl rfl) h1

  have ha1 : Acts W A1 n1 (fun i => toB (U1 i 0)) (fun i => strOf (U1 i 1)) (fun i => intOf (U1 i 2)) := fun hn => by
    obtain ⟨g, off, hA, hg, hx⟩ := hflat1 hn
    refine ⟨g, off, hA, hg, fun i hi => ?_⟩
    obtain ⟨c0, t0⟩ := hx i hi 0 _ rfl
    obtain ⟨c1, t1⟩ := hx i hi 1 _ rfl
    obtain ⟨c2, t2⟩ := hx i hi 2 _ rfl
    exact ⟨c0.trans (congrArg some (flat_bool Try.underlying4 t0)), c1.trans (congrArg some (flat_string Try.underlying9 t1).1), (flat_string Try.underlying9 t1).2, c2.trans (congrArg some (flat_int Try.underlying3 t2).1)⟩

  refine (ringDoes_walk sz A1 n1 cap1 (fun i => toB (U1 i 0)) (fun i => strOf (U1 i 1)) (fun i => intOf (U1 i 2)) W ha1 hmax1).mono fun e W' ⟨he, hg⟩ => ?_
  subst he

  exact ⟨_, rfl, law_post laid (List.forall_mem_cons.2 ⟨fit3, List.forall_mem_cons.2 ⟨fit34, List.forall_mem_nil _⟩⟩) rfl Try.underlying4 rfl hW' rfl rfl rfl hg⟩

theorem over : Rows.ringDoesRow.holds Try.pinned (OpenSpec.ofChange Rows.ringDoesSpec) :=
  OpenClaim.holds_of_wide 4 Try.f4 rfl rfl rfl rfl rfl rfl rfl ⟨rfl, rfl, rfl, rfl, rfl⟩ rfl rfl rfl rfl rfl (by kernel_rfl) Try.func4 (by kernel_rfl)
    (of_decide_eq_true (by kernel_rfl)) (by unfold Func.isWrapper; first | (rw [if_pos (by decide +kernel)]; kernel_rfl) | (rw [if_neg (by decide +kernel)]; exact ⟨rfl, rfl⟩))
    (fun os started H enc _ => lifted os started H enc)

/-- The statement. -/
theorem proved : Rows.RingDoesSaid := over
#print axioms proved
end Go.Proofs.Ytjidipfagnmibaa.ringDoes
