/-
  IpcRefuses: whatever the input, the law returns true; each argument reads behind the call as it read before. No condition of ours; errors.errorType reads as the text of the library lays it (the card ties it).
-/

import Derived.ChangeMaps5
import Derived.Test.YthijminlalddcaaDoorK
import Derived.Test.YthijminlalddcaaDoorL
import Derived.Test.YthijminlalddcaaDoorSS
import Derived.Test.YthijminlalddcaaDoorSR
import Derived.Test.YthijminlalddcaaDoorHI
import Derived.Test.YthijminlalddcaaDoorTie
import Derived.Test.YthijminlalddcaaDoorCards
import Derived.SevenTiedAt

set_option linter.unusedVariables false
set_option linter.unusedSimpArgs false
namespace Go.Proofs.YthijminlalddcaaDoor.ipcRefuses
open Go.ChangeShapes Go.WideShapes Go.ChangeAt Go.RowKit Go.Joins

theorem own : ownKnob Tryd.prog.godebug = none := by kernel_rfl

theorem laidOut : laidOutB Tryd.prog = true := by kernel_rfl

theorem fit40 : Tryd.prog.readableRec 40 = true ∧ 40 < Tryd.prog.types.size := ⟨by kernel_rfl, of_decide_eq_true (by kernel_rfl)⟩

set_option maxRecDepth 100000 in
theorem lifted (os : Os) (started : os.Started) (H : Type) (enc : TypeId × Value → H) :
    ReturnsInHanded {} Tryd.checked os 7 .any (fun w args => (Rows.ipcRefusesSpec.pre enc Tryd.prog Tryd.f7 [] false w args ∧ laidMetH Tryd.prog laidH w) ∧ sizedMet enc Tryd.prog Tryd.f7 (OpenSpec.ofChange Rows.ipcRefusesSpec) false w args)
      (Rows.ipcRefusesSpec.post enc Tryd.prog Tryd.f7 false true false false) := by

  refine returnsInHanded_of_change_and (C := Tryd.checked) (X := fun w _ => laidMetH Tryd.prog laidH w) (fun _ _ _ hh h => h.of_heap hh) own started (by kernel_rfl) Tryd.func7
    (ChangeSpec.witness_at (enc := enc) (C := Tryd.checked) (os := os) (X := fun w _ => laidMetH Tryd.prog laidH w) false (laidWorld os) #[.slice none 0 0] 8 rfl (by kernel_rfl) (by kernel_rfl) (by kernel_rfl) (by kernel_rfl) (by kernel_rfl) (laidWorld_met os _)) ?_

  intro W base args ds gs before hval0 hW _ _ hL _

  have hval : ∀ (j : Nat) t v, Tryd.f7.params[j]? = some t → args[j]? = some v → Value.okWide Tryd.prog W .any base t v := hval0

  have hW' := hW
  obtain ⟨p, q, hA0, hV, rfl, hfz, hnd⟩ := hW

  have hA : DataW.TrodAll enc Tryd.prog W 0 (fun _ => true) true Tryd.f7.params.toList args.toList ds p := hA0

  rw [Tryd.params7] at hA hval

  obtain ⟨v0, vs0, d0, ds0, p0, q0, hargs, rfl, rfl, h0, r0⟩ := trodAll_cons hA

  obtain ⟨rfl, rfl, rfl⟩ := trodAll_nil r0

  obtain rfl : args = #[v0] := by cases args; simp_all

  obtain ⟨rfl, rfl⟩ := trodVars_none hV

  have hE := eth_of_laid hL

  obtain ⟨A0, n0, cap0, q0, rfl, hlc0, hmx0, ha0, hw0⟩ := open_acts (hval 0 40 v0 rfl rfl) h0

  refine (ipcRefuses_walk A0 n0 cap0 q0 W hlc0 hmx0 ha0 hw0 hE).mono fun e W' ⟨he, hg⟩ => ?_
  subst he

  exact ⟨_, rfl, law_post laidOut (List.forall_mem_cons.2 ⟨fit40, List.forall_mem_nil _⟩) rfl Tryd.underlying4 rfl hW' rfl rfl rfl hg⟩

theorem over : Rows.ipcRefusesRow.holds Tryd.pinned (OpenSpec.ofChange Rows.ipcRefusesSpec) :=
  OpenClaim.holds_of_wide 7 Tryd.f7 rfl rfl rfl rfl rfl rfl rfl ⟨rfl, rfl, rfl, rfl, rfl⟩ rfl rfl rfl rfl rfl (by kernel_rfl) Tryd.func7 (by kernel_rfl)
    (of_decide_eq_true (by kernel_rfl)) (by unfold Func.isWrapper; first | (rw [if_pos (by decide +kernel)]; kernel_rfl) | (rw [if_neg (of_decide_eq_false (by kernel_rfl))]; exact ⟨rfl, rfl⟩) | (rw [if_neg (by decide +kernel)]; exact ⟨rfl, rfl⟩))
    (fun os started H enc _ => lifted os started H enc)

/-- The tied card. -/
theorem proved : Rows.IpcRefusesCardSaid :=
  Claim7.holds_tied_plain_at .later [] [.handle] true (true, "ed620f7bd3dda03155e3446365c753510ef968360e0044e085b653d2fea186d2") true
    over (fun _ h => by cases h) (by kernel_rfl) (fun _ h => by cases h) ipcRefuses_row_tie rfl ⟨rfl, rfl⟩ (by kernel_rfl) rfl
    (fun f fn hf hfn => by
      obtain rfl : f = 7 := Option.some.inj ((show Tryd.prog.funcNamed "taffrail/taffraillaw12.IpcRefuses" = some 7 by kernel_rfl).symm.trans hf) |>.symm
      obtain rfl : fn = Tryd.f7 := (Option.some.inj (Tryd.func7.symm.trans hfn)).symm
      exact ⟨by kernel_rfl, fun j t ht => by
        rw [Tryd.params7] at ht
        have hm : t ∈ [40] := by simpa using Array.mem_of_getElem? ht
        have hall : ([40].all fun u => !Tryd.prog.wantsStandIn u) = true := by kernel_rfl
        exact (show Tryd.prog.wantsStandIn t = false by simpa using List.all_eq_true.1 hall t hm)⟩)
    (by kernel_rfl)
#print axioms proved
end Go.Proofs.YthijminlalddcaaDoor.ipcRefuses
