/-
  SlotsTexts: whatever the input, the law returns true; each argument reads behind the call as it read before. No condition.
-/

import Derived.Test.YtmboefajlfgffaaK
import Derived.Test.YtmboefajlfgffaaQ
import Derived.Test.YtmboefajlfgffaaL

set_option linter.unusedVariables false
set_option linter.unusedSimpArgs false
namespace Go.Proofs.Ytmboefajlfgffaa.slotsTexts
open Go.ChangeShapes Go.WideShapes Go.ChangeAt Go.RowKit Go.Joins

theorem own : ownKnob Try.prog.godebug = none := by kernel_rfl

theorem laid : laidOutB Try.prog = true := by kernel_rfl

theorem fit32 : Try.prog.readableRec 32 = true ∧ 32 < Try.prog.types.size := ⟨by kernel_rfl, of_decide_eq_true (by kernel_rfl)⟩

set_option maxRecDepth 100000 in
theorem lifted (os : Os) (started : os.Started) (H : Type) (enc : TypeId × Value → H) :
    ReturnsInHanded {} Try.checked os 7 .any (Rows.slotsTextsSpec.pre6 enc Try.prog Try.f7 Rows.slotsTextsRow.domain false) (Rows.slotsTextsSpec.post enc Try.prog Try.f7 false true false false) := by

  refine returnsInHanded_of_change (C := Try.checked) own started (by kernel_rfl) Try.func7
    (ChangeSpec.witness6 (enc := enc) (C := Try.checked) false ⟨#[], #[.slice none 0 0], []⟩ 8 (by kernel_rfl) (by kernel_rfl) (by kernel_rfl) (by kernel_rfl)) ?_

  intro W base args ds gs before hval0 hW hcnd _

  have hval : ∀ (j : Nat) t v, Try.f7.params[j]? = some t → args[j]? = some v → Value.okWide Try.prog W .any base t v := hval0

  have hW' := hW
  obtain ⟨p, q, hA0, hV, hpq, hfz, hnd⟩ := hW

  have hA : DataW.TrodAll enc Try.prog W 0 (fun _ => true) true Try.f7.params.toList args.toList ds p := hA0

  rw [Try.params7] at hA hval

  obtain ⟨v0, vs0, d0, ds0, p0, q0, hargs, rfl, rfl, h0, r0⟩ := trodAll_cons hA

  obtain ⟨rfl, rfl, rfl⟩ := trodAll_nil r0

  obtain rfl : args = #[v0] := by cases args; simp_all

  obtain ⟨rfl, rfl⟩ := trodVars_none hV

  obtain ⟨A0, n0, cap0, m0, U0, rfl, hmax0, hflat0⟩ := open_slice_flat Try.underlying32 Try.underlying36 (by kernel_rfl) (by kernel_rfl) (by decide) (hval 0 32 v0 rfl rfl) h0

  have ha0 : Acts W A0 n0 (fun i => intOf (U0 i 0)) (fun i => intOf (U0 i 1)) (fun i => toB (U0 i 2)) (fun i => intOf (U0 i 3)) := fun hn => by
    obtain ⟨g, off, hA, hg, hx⟩ := hflat0 hn
    refine ⟨g, off, hA, hg, fun i hi => ?_⟩
    obtain ⟨c0, t0⟩ := hx i hi 0 _ rfl
    obtain ⟨c1, t1⟩ := hx i hi 1 _ rfl
    obtain ⟨c2, t2⟩ := hx i hi 2 _ rfl
    obtain ⟨c3, t3⟩ := hx i hi 3 _ rfl
    exact ⟨c0.trans (congrArg some (flat_int Try.underlying3 t0).1), c1.trans (congrArg some (flat_int Try.underlying3 t1).1), c2.trans (congrArg some (flat_bool Try.underlying4 t2)), c3.trans (congrArg some (flat_int Try.underlying3 t3).1)⟩

  refine (slotsTexts_walk A0 n0 cap0 (fun i => intOf (U0 i 0)) (fun i => intOf (U0 i 1)) (fun i => toB (U0 i 2)) (fun i => intOf (U0 i 3)) W ha0 hmax0).mono fun e W' ⟨he, hg⟩ => ?_
  subst he

  exact ⟨_, rfl, law_post laid (List.forall_mem_cons.2 ⟨fit32, List.forall_mem_nil _⟩) rfl Try.underlying4 rfl hW' rfl rfl rfl hg⟩

theorem over : Rows.slotsTextsRow.holds Try.pinned (OpenSpec.ofChange Rows.slotsTextsSpec) :=
  OpenClaim.holds_of_wide 7 Try.f7 rfl rfl rfl rfl rfl rfl rfl ⟨rfl, rfl, rfl, rfl, rfl⟩ rfl rfl rfl rfl rfl (by kernel_rfl) Try.func7 (by kernel_rfl)
    (of_decide_eq_true (by kernel_rfl)) (by unfold Func.isWrapper; first | (rw [if_pos (by decide +kernel)]; kernel_rfl) | (rw [if_neg (by decide +kernel)]; exact ⟨rfl, rfl⟩))
    (fun os started H enc _ => lifted os started H enc)

/-- The statement. -/
theorem proved : Rows.SlotsTextsSaid := over
#print axioms proved
end Go.Proofs.Ytmboefajlfgffaa.slotsTexts
