/-
  SlotsGone: whatever the input, the law returns true; each argument reads behind the call as it read before. No condition.
-/

import Derived.Test.YtmboefajlfgffaaK
import Derived.Test.YtmboefajlfgffaaJ

set_option linter.unusedVariables false
set_option linter.unusedSimpArgs false
namespace Go.Proofs.Ytmboefajlfgffaa.slotsGone
open Go.ChangeShapes Go.WideShapes Go.ChangeAt Go.RowKit Go.Joins

theorem own : ownKnob Try.prog.godebug = none := by kernel_rfl

theorem laid : laidOutB Try.prog = true := by kernel_rfl

theorem fit3 : Try.prog.readableRec 3 = true ∧ 3 < Try.prog.types.size := ⟨by kernel_rfl, of_decide_eq_true (by kernel_rfl)⟩

set_option maxRecDepth 100000 in
theorem lifted (os : Os) (started : os.Started) (H : Type) (enc : TypeId × Value → H) :
    ReturnsInHanded {} Try.checked os 4 .any (Rows.slotsGoneSpec.pre6 enc Try.prog Try.f4 Rows.slotsGoneRow.domain false) (Rows.slotsGoneSpec.post enc Try.prog Try.f4 false true false false) := by

  refine returnsInHanded_of_change (C := Try.checked) own started (by kernel_rfl) Try.func4
    (ChangeSpec.witness6 (enc := enc) (C := Try.checked) false ⟨#[], #[.int .i64 0, .int .i64 0], []⟩ 8 (by kernel_rfl) (by kernel_rfl) (by kernel_rfl) (by kernel_rfl)) ?_

  intro W base args ds gs before hval0 hW hcnd _

  have hval : ∀ (j : Nat) t v, Try.f4.params[j]? = some t → args[j]? = some v → Value.okWide Try.prog W .any base t v := hval0

  have hW' := hW
  obtain ⟨p, q, hA0, hV, hpq, hfz, hnd⟩ := hW

  have hA : DataW.TrodAll enc Try.prog W 0 (fun _ => true) true Try.f4.params.toList args.toList ds p := hA0

  rw [Try.params4] at hA hval

  obtain ⟨v0, vs0, d0, ds0, p0, q0, hargs, rfl, rfl, h0, r0⟩ := trodAll_cons hA

  obtain ⟨v1, vs1, d1, ds1, p1, q1, rfl, rfl, rfl, h1, r1⟩ := trodAll_cons r0

  obtain ⟨rfl, rfl, rfl⟩ := trodAll_nil r1

  obtain rfl : args = #[v0, v1] := by cases args; simp_all

  obtain ⟨rfl, rfl⟩ := trodVars_none hV

  obtain ⟨n, rfl, rfl, rfl, wf0⟩ := open_int Try.underlying3 (hval 0 3 v0 rfl rfl) h0

  obtain ⟨v, rfl, rfl, rfl, wf1⟩ := open_int Try.underlying3 (hval 1 3 v1 rfl rfl) h1

  refine (slotsGone_walk n v W).mono fun e W' ⟨he, hg⟩ => ?_
  subst he

  exact ⟨_, rfl, law_post laid (List.forall_mem_cons.2 ⟨fit3, List.forall_mem_cons.2 ⟨fit3, List.forall_mem_nil _⟩⟩) rfl Try.underlying4 rfl hW' rfl rfl rfl hg⟩

theorem over : Rows.slotsGoneRow.holds Try.pinned (OpenSpec.ofChange Rows.slotsGoneSpec) :=
  OpenClaim.holds_of_wide 4 Try.f4 rfl rfl rfl rfl rfl rfl rfl ⟨rfl, rfl, rfl, rfl, rfl⟩ rfl rfl rfl rfl rfl (by kernel_rfl) Try.func4 (by kernel_rfl)
    (of_decide_eq_true (by kernel_rfl)) (by unfold Func.isWrapper; first | (rw [if_pos (by decide +kernel)]; kernel_rfl) | (rw [if_neg (by decide +kernel)]; exact ⟨rfl, rfl⟩))
    (fun os started H enc _ => lifted os started H enc)

/-- The statement. -/
theorem proved : Rows.SlotsGoneSaid := over
#print axioms proved
end Go.Proofs.Ytmboefajlfgffaa.slotsGone
