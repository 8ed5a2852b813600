/-
  IpcDoes: whatever the input, the law returns true; each argument reads behind the call as it read before. No condition of ours; errors.errorType reads as the text of the library lays it (the card ties it).
-/

import Derived.ChangeMaps5
import Derived.Test.YthijminlalddcaaGreatDoorK
import Derived.Test.YthijminlalddcaaGreatDoorL
import Derived.Test.YthijminlalddcaaGreatDoorSS
import Derived.Test.YthijminlalddcaaGreatDoorSR
import Derived.Test.YthijminlalddcaaGreatDoorRI
import Derived.Test.YthijminlalddcaaGreatDoorTie
import Derived.Test.YthijminlalddcaaGreatDoorCards
import Derived.SevenTiedAt

set_option linter.unusedVariables false
set_option linter.unusedSimpArgs false
namespace Go.Proofs.YthijminlalddcaaGreatDoor.ipcDoes
open Go.ChangeShapes Go.WideShapes Go.ChangeAt Go.RowKit Go.Joins

theorem own : ownKnob Tryz.prog.godebug = none := by kernel_rfl

theorem laidOut : laidOutB Tryz.prog = true := by kernel_rfl

theorem fit22 : Tryz.prog.readableRec 22 = true ∧ 22 < Tryz.prog.types.size := ⟨by kernel_rfl, of_decide_eq_true (by kernel_rfl)⟩

set_option maxRecDepth 100000 in
theorem lifted (os : Os) (started : os.Started) (H : Type) (enc : TypeId × Value → H) :
    ReturnsInHanded {} Tryz.checked os 3 .any (fun w args => (Rows.ipcDoesSpec.pre enc Tryz.prog Tryz.f3 [] false w args ∧ laidMetH Tryz.prog laidH w) ∧ sizedMet enc Tryz.prog Tryz.f3 (OpenSpec.ofChange Rows.ipcDoesSpec) false w args)
      (Rows.ipcDoesSpec.post enc Tryz.prog Tryz.f3 false true false false) := by

  refine returnsInHanded_of_change_and (C := Tryz.checked) (X := fun w _ => laidMetH Tryz.prog laidH w) (fun _ _ _ hh h => h.of_heap hh) own started (by kernel_rfl) Tryz.func3
    (ChangeSpec.witness_at (enc := enc) (C := Tryz.checked) (os := os) (X := fun w _ => laidMetH Tryz.prog laidH w) false (laidWorld os) #[.slice none 0 0] 8 rfl (by kernel_rfl) (by kernel_rfl) (by kernel_rfl) (by kernel_rfl) (by kernel_rfl) (laidWorld_met os _)) ?_

  intro W base args ds gs before hval0 hW _ _ hL _

  have hval : ∀ (j : Nat) t v, Tryz.f3.params[j]? = some t → args[j]? = some v → Value.okWide Tryz.prog W .any base t v := hval0

  have hW' := hW
  obtain ⟨p, q, hA0, hV, rfl, hfz, hnd⟩ := hW

  have hA : DataW.TrodAll enc Tryz.prog W 0 (fun _ => true) true Tryz.f3.params.toList args.toList ds p := hA0

  rw [Tryz.params3] at hA hval

  obtain ⟨v0, vs0, d0, ds0, p0, q0, hargs, rfl, rfl, h0, r0⟩ := trodAll_cons hA

  obtain ⟨rfl, rfl, rfl⟩ := trodAll_nil r0

  obtain rfl : args = #[v0] := by cases args; simp_all

  obtain ⟨rfl, rfl⟩ := trodVars_none hV

  have hE := eth_of_laid hL

  obtain ⟨A0, n0, cap0, q0, rfl, hlc0, hmx0, ha0, hw0⟩ := open_acts (hval 0 22 v0 rfl rfl) h0

  refine (ipcDoes_walk A0 n0 cap0 q0 W hlc0 hmx0 ha0 hw0 hE).mono fun e W' ⟨he, hg⟩ => ?_
  subst he

  exact ⟨_, rfl, law_post laidOut (List.forall_mem_cons.2 ⟨fit22, List.forall_mem_nil _⟩) rfl Tryz.underlying4 rfl hW' rfl rfl rfl hg⟩

theorem over : Rows.ipcDoesRow.holds Tryz.pinned (OpenSpec.ofChange Rows.ipcDoesSpec) :=
  OpenClaim.holds_of_wide 3 Tryz.f3 rfl rfl rfl rfl rfl rfl rfl ⟨rfl, rfl, rfl, rfl, rfl⟩ rfl rfl rfl rfl rfl (by kernel_rfl) Tryz.func3 (by kernel_rfl)
    (of_decide_eq_true (by kernel_rfl)) (by unfold Func.isWrapper; first | (rw [if_pos (by decide +kernel)]; kernel_rfl) | (rw [if_neg (of_decide_eq_false (by kernel_rfl))]; exact ⟨rfl, rfl⟩) | (rw [if_neg (by decide +kernel)]; exact ⟨rfl, rfl⟩))
    (fun os started H enc _ => lifted os started H enc)

/-- The tied card. -/
theorem proved : Rows.IpcDoesCardSaid :=
  Claim7.holds_tied_plain_at .later [] [.handle] true (true, "e7b87cf444b1b163e461d5f373e79f7eb6788df8ffd1539b0e87e1ddb2fb3cf3") true
    over (fun _ h => by cases h) (by kernel_rfl) (fun _ h => by cases h) ipcDoes_row_tie rfl ⟨rfl, rfl⟩ (by kernel_rfl) rfl
    (fun f fn hf hfn => by
      obtain rfl : f = 3 := Option.some.inj ((show Tryz.prog.funcNamed "taffrail/taffraillaw12.IpcDoes" = some 3 by kernel_rfl).symm.trans hf) |>.symm
      obtain rfl : fn = Tryz.f3 := (Option.some.inj (Tryz.func3.symm.trans hfn)).symm
      exact ⟨by kernel_rfl, fun j t ht => by
        rw [Tryz.params3] at ht
        have hm : t ∈ [22] := by simpa using Array.mem_of_getElem? ht
        have hall : ([22].all fun u => !Tryz.prog.wantsStandIn u) = true := by kernel_rfl
        exact (show Tryz.prog.wantsStandIn t = false by simpa using List.all_eq_true.1 hall t hm)⟩)
    (by kernel_rfl)
#print axioms proved
end Go.Proofs.YthijminlalddcaaGreatDoor.ipcDoes
