/-
  CredDoes: whatever the input, the law returns true; each argument reads behind the call as it read before. No condition.
-/

import Derived.Test.YtlkbmmcbhfhalaaK
import Derived.Test.YtlkbmmcbhfhalaaQ

set_option linter.unusedVariables false
set_option linter.unusedSimpArgs false
namespace Go.Proofs.Ytlkbmmcbhfhalaa.credDoes
open Go.ChangeShapes Go.WideShapes Go.ChangeAt Go.RowKit Go.Joins

theorem own : ownKnob Try.prog.godebug = none := by kernel_rfl

theorem laid : laidOutB Try.prog = true := by kernel_rfl

theorem fit3 : Try.prog.readableRec 3 = true ∧ 3 < Try.prog.types.size := ⟨by kernel_rfl, of_decide_eq_true (by kernel_rfl)⟩

theorem fit23 : Try.prog.readableRec 23 = true ∧ 23 < Try.prog.types.size := ⟨by kernel_rfl, of_decide_eq_true (by kernel_rfl)⟩

theorem cells23 : Try.prog.cellsOf 23 = 2 := by kernel_rfl

theorem fit25 : Try.prog.readableRec 25 = true ∧ 25 < Try.prog.types.size := ⟨by kernel_rfl, of_decide_eq_true (by kernel_rfl)⟩

theorem cells25 : Try.prog.cellsOf 25 = 5 := by kernel_rfl

set_option maxRecDepth 100000 in
theorem lifted (os : Os) (started : os.Started) (H : Type) (enc : TypeId × Value → H) :
    ReturnsInHanded {} Try.checked os 7 .any (Rows.credDoesSpec.pre6 enc Try.prog Try.f7 Rows.credDoesRow.domain false) (Rows.credDoesSpec.post enc Try.prog Try.f7 false true false false) := by

  refine returnsInHanded_of_change (C := Try.checked) own started (by kernel_rfl) Try.func7
    (ChangeSpec.witness6 (enc := enc) (C := Try.checked) false ⟨#[], #[.agg #[.int .i64 0, .int .i64 0], .agg #[.int .i64 0, .int .i64 0, .int .i64 0, .int .i64 0, .int .i64 0], .int .i64 0, .int .i64 0, .int .i64 0, .int .i64 0], []⟩ 8 (by kernel_rfl) (by kernel_rfl) (by kernel_rfl) (by kernel_rfl)) ?_

  intro W base args ds gs before hval0 hW hcnd _

  have hval : ∀ (j : Nat) t v, Try.f7.params[j]? = some t → args[j]? = some v → Value.okWide Try.prog W .any base t v := hval0

  have hW' := hW
  obtain ⟨p, q, hA0, hV, hpq, hfz, hnd⟩ := hW

  have hA : DataW.TrodAll enc Try.prog W 0 (fun _ => true) true Try.f7.params.toList args.toList ds p := hA0

  rw [Try.params7] at hA hval

  obtain ⟨v0, vs0, d0, ds0, p0, q0, hargs, rfl, rfl, h0, r0⟩ := trodAll_cons hA

  obtain ⟨v1, vs1, d1, ds1, p1, q1, rfl, rfl, rfl, h1, r1⟩ := trodAll_cons r0

  obtain ⟨v2, vs2, d2, ds2, p2, q2, rfl, rfl, rfl, h2, r2⟩ := trodAll_cons r1

  obtain ⟨v3, vs3, d3, ds3, p3, q3, rfl, rfl, rfl, h3, r3⟩ := trodAll_cons r2

  obtain ⟨v4, vs4, d4, ds4, p4, q4, rfl, rfl, rfl, h4, r4⟩ := trodAll_cons r3

  obtain ⟨v5, vs5, d5, ds5, p5, q5, rfl, rfl, rfl, h5, r5⟩ := trodAll_cons r4

  obtain ⟨rfl, rfl, rfl⟩ := trodAll_nil r5

  obtain rfl : args = #[v0, v1, v2, v3, v4, v5] := by cases args; simp_all

  obtain ⟨rfl, rfl⟩ := trodVars_none hV

  obtain ⟨l0, hl0, rfl, wf0⟩ := open_agg_ints Try.underlying23 (by kernel_rfl) cells23 (by
    intro j f hf
    have hj : j < 2 := by simpa using (Array.getElem?_eq_some_iff.1 hf).1
    rcases (show j = 0 ∨ j = 1 from by omega) with rfl | rfl
    all_goals (simp at hf; subst hf; exact Try.underlying3)) (hval 0 23 v0 rfl rfl) h0

  obtain ⟨u, g, rfl⟩ := list2 l0 (hl0.trans rfl)

  obtain ⟨l1, hl1, rfl, wf1⟩ := open_agg_ints Try.underlying25 (by kernel_rfl) cells25 (by
    intro j f hf
    have hj : j < 5 := by simpa using (Array.getElem?_eq_some_iff.1 hf).1
    rcases (show j = 0 ∨ j = 1 ∨ j = 2 ∨ j = 3 ∨ j = 4 from by omega) with rfl | rfl | rfl | rfl | rfl
    all_goals (simp at hf; subst hf; exact Try.underlying3)) (hval 1 25 v1 rfl rfl) h1

  obtain ⟨pu, pg, pcu, pcg, m, rfl⟩ := list5 l1 (hl1.trans rfl)

  obtain ⟨want, rfl, rfl, rfl, wf2⟩ := open_int Try.underlying3 (hval 2 3 v2 rfl rfl) h2

  obtain ⟨uid, rfl, rfl, rfl, wf3⟩ := open_int Try.underlying3 (hval 3 3 v3 rfl rfl) h3

  obtain ⟨gid, rfl, rfl, rfl, wf4⟩ := open_int Try.underlying3 (hval 4 3 v4 rfl rfl) h4

  obtain ⟨mode, rfl, rfl, rfl, wf5⟩ := open_int Try.underlying3 (hval 5 3 v5 rfl rfl) h5

  refine (credDoes_walk u g pu pg pcu pcg m want uid gid mode W).mono fun e W' ⟨he, hg⟩ => ?_
  subst he

  exact ⟨_, rfl, law_post laid (List.forall_mem_cons.2 ⟨fit23, List.forall_mem_cons.2 ⟨fit25, List.forall_mem_cons.2 ⟨fit3, List.forall_mem_cons.2 ⟨fit3, List.forall_mem_cons.2 ⟨fit3, List.forall_mem_cons.2 ⟨fit3, List.forall_mem_nil _⟩⟩⟩⟩⟩⟩) rfl Try.underlying4 rfl hW' rfl rfl rfl hg⟩

theorem over : Rows.credDoesRow.holds Try.pinned (OpenSpec.ofChange Rows.credDoesSpec) :=
  OpenClaim.holds_of_wide 7 Try.f7 rfl rfl rfl rfl rfl rfl rfl ⟨rfl, rfl, rfl, rfl, rfl⟩ rfl rfl rfl rfl rfl (by kernel_rfl) Try.func7 (by kernel_rfl)
    (of_decide_eq_true (by kernel_rfl)) (by unfold Func.isWrapper; first | (rw [if_pos (by decide +kernel)]; kernel_rfl) | (rw [if_neg (by decide +kernel)]; exact ⟨rfl, rfl⟩))
    (fun os started H enc _ => lifted os started H enc)

/-- The statement. -/
theorem proved : Rows.CredDoesSaid := over
#print axioms proved
end Go.Proofs.Ytlkbmmcbhfhalaa.credDoes
