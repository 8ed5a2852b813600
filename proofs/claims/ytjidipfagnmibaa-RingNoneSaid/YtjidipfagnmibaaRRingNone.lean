/-
  RingNone: whatever the input, the law returns true; each argument reads behind the call as it read before. No condition.
-/

import Derived.ChangeMaps5
import Derived.Test.YtjidipfagnmibaaK
import Derived.Test.YtjidipfagnmibaaN
import Derived.Test.YtjidipfagnmibaaL

set_option linter.unusedVariables false
set_option linter.unusedSimpArgs false
namespace Go.Proofs.Ytjidipfagnmibaa.ringNone
open Go.ChangeShapes Go.WideShapes Go.ChangeAt Go.RowKit Go.Joins

theorem own : ownKnob Try.prog.godebug = none := by kernel_rfl

theorem laid : laidOutB Try.prog = true := by kernel_rfl

theorem fit36 : Try.prog.readableRec 36 = true ∧ 36 < Try.prog.types.size := ⟨by kernel_rfl, of_decide_eq_true (by kernel_rfl)⟩

set_option maxRecDepth 100000 in
theorem lifted (os : Os) (started : os.Started) (H : Type) (enc : TypeId × Value → H) :
    ReturnsInHanded {} Try.checked os 6 .any (Rows.ringNoneSpec.pre6 enc Try.prog Try.f6 Rows.ringNoneRow.domain false) (Rows.ringNoneSpec.post enc Try.prog Try.f6 false true false false) := by

  refine returnsInHanded_of_change (C := Try.checked) own started (by kernel_rfl) Try.func6
    (ChangeSpec.witness6 (enc := enc) (C := Try.checked) false ⟨#[], #[.agg #[.bool false, .string ByteArray.empty, .int .i64 0]], []⟩ 8 (by kernel_rfl) (by kernel_rfl) (by kernel_rfl) (by kernel_rfl)) ?_

  intro W base args ds gs before hval0 hW hcnd _

  have hval : ∀ (j : Nat) t v, Try.f6.params[j]? = some t → args[j]? = some v → Value.okWide Try.prog W .any base t v := hval0

  have hW' := hW
  obtain ⟨p, q, hA0, hV, hpq, hfz, hnd⟩ := hW

  have hA : DataW.TrodAll enc Try.prog W 0 (fun _ => true) true Try.f6.params.toList args.toList ds p := hA0

  rw [Try.params6] at hA hval

  obtain ⟨v0, vs0, d0, ds0, p0, q0, hargs, rfl, rfl, h0, r0⟩ := trodAll_cons hA

  obtain ⟨rfl, rfl, rfl⟩ := trodAll_nil r0

  obtain rfl : args = #[v0] := by cases args; simp_all

  obtain ⟨rfl, rfl⟩ := trodVars_none hV

  obtain ⟨u0_0, u0_1, u0_2, y0_0, y0_1, y0_2, nn0, rfl, rfl, rfl, g0_0, g0_1, g0_2⟩ := open_agg3 Try.underlying36 (by kernel_rfl) (by kernel_rfl) (hval 0 36 v0 rfl rfl) h0

  obtain ⟨x0_0, rfl⟩ : ∃ x : Bool, u0_0 = .bool x := ⟨_, flat_bool Try.underlying4 ⟨_, g0_0⟩⟩

  obtain ⟨x0_1, rfl, wf0_1⟩ : ∃ x : ByteArray, u0_1 = .string x ∧ x.size ≤ maxLen := ⟨_, flat_string Try.underlying9 ⟨_, g0_1⟩⟩

  obtain ⟨x0_2, rfl⟩ : ∃ x : Int, u0_2 = .int .i64 x := ⟨_, (flat_int Try.underlying3 ⟨_, g0_2⟩).1⟩

  refine (ringNone_walk x0_0 x0_1 x0_2 wf0_1 W).mono fun e W' ⟨he, hg⟩ => ?_
  subst he

  exact ⟨_, rfl, law_post laid (List.forall_mem_cons.2 ⟨fit36, List.forall_mem_nil _⟩) rfl Try.underlying4 rfl hW' rfl rfl rfl hg⟩

theorem over : Rows.ringNoneRow.holds Try.pinned (OpenSpec.ofChange Rows.ringNoneSpec) :=
  OpenClaim.holds_of_wide 6 Try.f6 rfl rfl rfl rfl rfl rfl rfl ⟨rfl, rfl, rfl, rfl, rfl⟩ rfl rfl rfl rfl rfl (by kernel_rfl) Try.func6 (by kernel_rfl)
    (of_decide_eq_true (by kernel_rfl)) (by unfold Func.isWrapper; first | (rw [if_pos (by decide +kernel)]; kernel_rfl) | (rw [if_neg (by decide +kernel)]; exact ⟨rfl, rfl⟩))
    (fun os started H enc _ => lifted os started H enc)

/-- The statement. -/
theorem proved : Rows.RingNoneSaid := over
#print axioms proved
end Go.Proofs.Ytjidipfagnmibaa.ringNone
