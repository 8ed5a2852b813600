/-
  PipeNone: whatever the input, the law returns true; each argument reads behind the call as it read before. No condition of ours; the listed sentinels read as the program's text lays them (the card ties them).
-/

import Derived.ChangeMaps5
import Derived.Test.YtdonlpldbdooaaaDoorK
import Derived.Test.YtdonlpldbdooaaaDoorL
import Derived.Test.YtdonlpldbdooaaaDoorR
import Derived.Test.YtdonlpldbdooaaaDoorS
import Derived.Test.YtdonlpldbdooaaaDoorN
import Derived.Test.YtdonlpldbdooaaaDoorTie
import Derived.Test.YtdonlpldbdooaaaDoorCards
import Derived.SevenTiedAt

set_option linter.unusedVariables false
set_option linter.unusedSimpArgs false
namespace Go.Proofs.YtdonlpldbdooaaaDoor.pipeNone
open Go.ChangeShapes Go.WideShapes Go.ChangeAt Go.RowKit Go.Joins

theorem own : ownKnob Tryd.prog.godebug = none := by kernel_rfl

theorem laidOut : laidOutB Tryd.prog = true := by kernel_rfl

theorem fit28 : Tryd.prog.readableRec 28 = true ∧ 28 < Tryd.prog.types.size := ⟨by kernel_rfl, of_decide_eq_true (by kernel_rfl)⟩

set_option maxRecDepth 100000 in
theorem lifted (os : Os) (started : os.Started) (H : Type) (enc : TypeId × Value → H) :
    ReturnsInHanded {} Tryd.checked os 8 .any (fun w args => (Rows.pipeNoneSpec.pre enc Tryd.prog Tryd.f8 [] false w args ∧ laidMetH Tryd.prog laid2 w) ∧ sizedMet enc Tryd.prog Tryd.f8 (OpenSpec.ofChange Rows.pipeNoneSpec) false w args)
      (Rows.pipeNoneSpec.post enc Tryd.prog Tryd.f8 false true false false) := by

  refine returnsInHanded_of_change_and (C := Tryd.checked) (X := fun w _ => laidMetH Tryd.prog laid2 w) (fun _ _ _ hh h => h.of_heap hh) own started (by kernel_rfl) Tryd.func8
    (ChangeSpec.witness_shaped (enc := enc) (C := Tryd.checked) (os := os) (X := fun w _ => laidMetH Tryd.prog laid2 w) false (World.doorLaid Tryd.prog 66 os) #[.agg #[.int .i64 0, .int .i64 0, .int .i64 0, .string ByteArray.empty]] 8 rfl (World.shaped_of_RefB (by kernel_rfl) (by kernel_rfl)) (by kernel_rfl) (by kernel_rfl) (by kernel_rfl) (door_met os _)) ?_

  intro W base args ds gs before hval0 hW _ _ hL _

  have hval : ∀ (j : Nat) t v, Tryd.f8.params[j]? = some t → args[j]? = some v → Value.okWide Tryd.prog W .any base t v := hval0

  have hW' := hW
  obtain ⟨p, q, hA0, hV, rfl, hfz, hnd⟩ := hW

  have hA : DataW.TrodAll enc Tryd.prog W 0 (fun _ => true) true Tryd.f8.params.toList args.toList ds p := hA0

  rw [Tryd.params8] at hA hval

  obtain ⟨v0, vs0, d0, ds0, p0, q0, hargs, rfl, rfl, h0, r0⟩ := trodAll_cons hA

  obtain ⟨rfl, rfl, rfl⟩ := trodAll_nil r0

  obtain rfl : args = #[v0] := by cases args; simp_all

  obtain ⟨rfl, rfl⟩ := trodVars_none hV

  obtain ⟨aW, aB, hS⟩ := sen_of_laid hL

  obtain ⟨u0_0, u0_1, u0_2, u0_3, y0_0, y0_1, y0_2, y0_3, nn0, rfl, rfl, rfl, g0_0, g0_1, g0_2, g0_3⟩ := open_agg4 Tryd.underlying28 (by kernel_rfl) (by kernel_rfl) (hval 0 28 v0 rfl rfl) h0

  obtain ⟨x0_0, rfl, wx0_0⟩ : ∃ x : Int, u0_0 = .int .i64 x ∧ (Lit.int .i64 x).wf = true := ⟨_, flat_int Tryd.underlying3 ⟨_, g0_0⟩⟩

  obtain ⟨x0_1, rfl, wx0_1⟩ : ∃ x : Int, u0_1 = .int .i64 x ∧ (Lit.int .i64 x).wf = true := ⟨_, flat_int Tryd.underlying3 ⟨_, g0_1⟩⟩

  obtain ⟨x0_2, rfl, wx0_2⟩ : ∃ x : Int, u0_2 = .int .i64 x ∧ (Lit.int .i64 x).wf = true := ⟨_, flat_int Tryd.underlying3 ⟨_, g0_2⟩⟩

  obtain ⟨x0_3, rfl, wf0_3⟩ : ∃ x : ByteArray, u0_3 = .string x ∧ x.size ≤ maxLen := ⟨_, flat_string Tryd.underlying9 ⟨_, g0_3⟩⟩

  refine (pipeNone_walk x0_0 x0_1 x0_2 x0_3 W (wf_range wx0_0) (wf_range wx0_1) (wf_range wx0_2) wf0_3 hS).mono fun e W' ⟨he, hg⟩ => ?_
  subst he

  exact ⟨_, rfl, law_post laidOut (List.forall_mem_cons.2 ⟨fit28, List.forall_mem_nil _⟩) rfl Tryd.underlying4 rfl hW' rfl rfl rfl hg⟩

theorem over : Rows.pipeNoneRow.holds Tryd.pinned (OpenSpec.ofChange Rows.pipeNoneSpec) :=
  OpenClaim.holds_of_wide 8 Tryd.f8 rfl rfl rfl rfl rfl rfl rfl ⟨rfl, rfl, rfl, rfl, rfl⟩ rfl rfl rfl rfl rfl (by kernel_rfl) Tryd.func8 (by kernel_rfl)
    (of_decide_eq_true (by kernel_rfl)) (by unfold Func.isWrapper; first | (rw [if_pos (by decide +kernel)]; kernel_rfl) | (rw [if_neg (of_decide_eq_false (by kernel_rfl))]; exact ⟨rfl, rfl⟩) | (rw [if_neg (by decide +kernel)]; exact ⟨rfl, rfl⟩))
    (fun os started H enc _ => lifted os started H enc)

/-- The tied card. -/
theorem proved : Rows.PipeNoneCardSaid :=
  Claim7.holds_tied_plain_at .later [] [.sentinel, .sentinel] true (true, "d0c64c0f792d4b209115563d5b10f51e35805b629f6994b640c0b3fe1bfcb367") true
    over (fun _ h => by cases h) (by kernel_rfl) (fun _ h => by cases h) pipeNone_row_tie rfl ⟨rfl, rfl⟩ (by kernel_rfl) rfl
    (fun f fn hf hfn => by
      obtain rfl : f = 8 := Option.some.inj ((show Tryd.prog.funcNamed "taffrail/taffraillaw10.PipeNone" = some 8 by kernel_rfl).symm.trans hf) |>.symm
      obtain rfl : fn = Tryd.f8 := (Option.some.inj (Tryd.func8.symm.trans hfn)).symm
      exact ⟨by kernel_rfl, fun j t ht => by
        rw [Tryd.params8] at ht
        have hm : t ∈ [28] := by simpa using Array.mem_of_getElem? ht
        have hall : ([28].all fun u => !Tryd.prog.wantsStandIn u) = true := by kernel_rfl
        exact (show Tryd.prog.wantsStandIn t = false by simpa using List.all_eq_true.1 hall t hm)⟩)
    (by kernel_rfl)
#print axioms proved
end Go.Proofs.YtdonlpldbdooaaaDoor.pipeNone
