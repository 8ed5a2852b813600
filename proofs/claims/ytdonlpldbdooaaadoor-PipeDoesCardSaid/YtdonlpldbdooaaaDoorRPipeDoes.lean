/-
  PipeDoes: whatever the input, the law returns true; each argument reads behind the call as it read before. No condition of ours; the listed sentinels read as the program's text lays them (the card ties them).
-/

import Derived.ChangeMaps5
import Derived.Test.YtdonlpldbdooaaaDoorK
import Derived.Test.YtdonlpldbdooaaaDoorL
import Derived.Test.YtdonlpldbdooaaaDoorR
import Derived.Test.YtdonlpldbdooaaaDoorS
import Derived.Test.YtdonlpldbdooaaaDoorFh
import Derived.Test.YtdonlpldbdooaaaDoorTie
import Derived.Test.YtdonlpldbdooaaaDoorCards
import Derived.SevenTiedAt

set_option linter.unusedVariables false
set_option linter.unusedSimpArgs false
namespace Go.Proofs.YtdonlpldbdooaaaDoor.pipeDoes
open Go.ChangeShapes Go.WideShapes Go.ChangeAt Go.RowKit Go.Joins

theorem own : ownKnob Tryd.prog.godebug = none := by kernel_rfl

theorem laidOut : laidOutB Tryd.prog = true := by kernel_rfl

theorem fit22 : Tryd.prog.readableRec 22 = true ∧ 22 < Tryd.prog.types.size := ⟨by kernel_rfl, of_decide_eq_true (by kernel_rfl)⟩

set_option maxRecDepth 100000 in
theorem lifted (os : Os) (started : os.Started) (H : Type) (enc : TypeId × Value → H) :
    ReturnsInHanded {} Tryd.checked os 7 .any (fun w args => (Rows.pipeDoesSpec.pre enc Tryd.prog Tryd.f7 [] false w args ∧ laidMetH Tryd.prog laid2 w) ∧ sizedMet enc Tryd.prog Tryd.f7 (OpenSpec.ofChange Rows.pipeDoesSpec) false w args)
      (Rows.pipeDoesSpec.post enc Tryd.prog Tryd.f7 false true false false) := by

  refine returnsInHanded_of_change_and (C := Tryd.checked) (X := fun w _ => laidMetH Tryd.prog laid2 w) (fun _ _ _ hh h => h.of_heap hh) own started (by kernel_rfl) Tryd.func7
    (ChangeSpec.witness_shaped (enc := enc) (C := Tryd.checked) (os := os) (X := fun w _ => laidMetH Tryd.prog laid2 w) false (World.doorLaid Tryd.prog 66 os) #[.slice none 0 0] 8 rfl (World.shaped_of_RefB (by kernel_rfl) (by kernel_rfl)) (by kernel_rfl) (by kernel_rfl) (by kernel_rfl) (door_met os _)) ?_

  intro W base args ds gs before hval0 hW _ _ hL _

  have hval : ∀ (j : Nat) t v, Tryd.f7.params[j]? = some t → args[j]? = some v → Value.okWide Tryd.prog W .any base t v := hval0

  have hW' := hW
  obtain ⟨p, q, hA0, hV, rfl, hfz, hnd⟩ := hW

  have hA : DataW.TrodAll enc Tryd.prog W 0 (fun _ => true) true Tryd.f7.params.toList args.toList ds p := hA0

  rw [Tryd.params7] at hA hval

  obtain ⟨v0, vs0, d0, ds0, p0, q0, hargs, rfl, rfl, h0, r0⟩ := trodAll_cons hA

  obtain ⟨rfl, rfl, rfl⟩ := trodAll_nil r0

  obtain rfl : args = #[v0] := by cases args; simp_all

  obtain ⟨rfl, rfl⟩ := trodVars_none hV

  obtain ⟨aW, aB, hS⟩ := sen_of_laid hL

  obtain ⟨A0, n0, cap0, m0, U0, rfl, hlc0, hmx0, hflat0⟩ := open_slice_flat2 Tryd.underlying22 Tryd.underlying28 (by kernel_rfl) (by kernel_rfl) (by decide) (hval 0 22 v0 rfl rfl) h0

  have ha0 : Acts W A0 n0 (fun i => intOf (U0 i 0)) (fun i => intOf (U0 i 1)) (fun i => intOf (U0 i 2)) (fun i => strOf (U0 i 3)) := fun hn => by
    obtain ⟨g, off, hA, hg, hx⟩ := hflat0 hn
    refine ⟨g, off, hA, hg, fun i hi => ?_⟩
    obtain ⟨c0, t0⟩ := hx i hi 0 _ rfl
    obtain ⟨c1, t1⟩ := hx i hi 1 _ rfl
    obtain ⟨c2, t2⟩ := hx i hi 2 _ rfl
    obtain ⟨c3, t3⟩ := hx i hi 3 _ rfl
    exact ⟨c0.trans (congrArg some (flat_int Tryd.underlying3 t0).1), c1.trans (congrArg some (flat_int Tryd.underlying3 t1).1), c2.trans (congrArg some (flat_int Tryd.underlying3 t2).1), c3.trans (congrArg some (flat_string Tryd.underlying9 t3).1), (flat_string Tryd.underlying9 t3).2⟩

  refine (pipeDoes_walk A0 n0 cap0 (fun i => intOf (U0 i 0)) (fun i => intOf (U0 i 1)) (fun i => intOf (U0 i 2)) (fun i => strOf (U0 i 3)) W hlc0 hmx0 ha0 hS).mono fun e W' ⟨he, hg⟩ => ?_
  subst he

  exact ⟨_, rfl, law_post laidOut (List.forall_mem_cons.2 ⟨fit22, List.forall_mem_nil _⟩) rfl Tryd.underlying4 rfl hW' rfl rfl rfl hg⟩

theorem over : Rows.pipeDoesRow.holds Tryd.pinned (OpenSpec.ofChange Rows.pipeDoesSpec) :=
  OpenClaim.holds_of_wide 7 Tryd.f7 rfl rfl rfl rfl rfl rfl rfl ⟨rfl, rfl, rfl, rfl, rfl⟩ rfl rfl rfl rfl rfl (by kernel_rfl) Tryd.func7 (by kernel_rfl)
    (of_decide_eq_true (by kernel_rfl)) (by unfold Func.isWrapper; first | (rw [if_pos (by decide +kernel)]; kernel_rfl) | (rw [if_neg (of_decide_eq_false (by kernel_rfl))]; exact ⟨rfl, rfl⟩) | (rw [if_neg (by decide +kernel)]; exact ⟨rfl, rfl⟩))
    (fun os started H enc _ => lifted os started H enc)

/-- The tied card. -/
theorem proved : Rows.PipeDoesCardSaid :=
  Claim7.holds_tied_plain_at .later [] [.sentinel, .sentinel] true (true, "d0c64c0f792d4b209115563d5b10f51e35805b629f6994b640c0b3fe1bfcb367") true
    over (fun _ h => by cases h) (by kernel_rfl) (fun _ h => by cases h) pipeDoes_row_tie rfl ⟨rfl, rfl⟩ (by kernel_rfl) rfl
    (fun f fn hf hfn => by
      obtain rfl : f = 7 := Option.some.inj ((show Tryd.prog.funcNamed "taffrail/taffraillaw10.PipeDoes" = some 7 by kernel_rfl).symm.trans hf) |>.symm
      obtain rfl : fn = Tryd.f7 := (Option.some.inj (Tryd.func7.symm.trans hfn)).symm
      exact ⟨by kernel_rfl, fun j t ht => by
        rw [Tryd.params7] at ht
        have hm : t ∈ [22] := by simpa using Array.mem_of_getElem? ht
        have hall : ([22].all fun u => !Tryd.prog.wantsStandIn u) = true := by kernel_rfl
        exact (show Tryd.prog.wantsStandIn t = false by simpa using List.all_eq_true.1 hall t hm)⟩)
    (by kernel_rfl)
#print axioms proved
end Go.Proofs.YtdonlpldbdooaaaDoor.pipeDoes
