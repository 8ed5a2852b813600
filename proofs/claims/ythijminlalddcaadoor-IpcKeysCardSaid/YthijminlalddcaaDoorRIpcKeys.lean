/-
  IpcKeys: whatever the input, the law returns true; each argument reads behind the call as it read before. No condition of ours; errors.errorType reads as the text of the library lays it (the card ties it).
-/

import Derived.ChangeMaps5
import Derived.Test.YthijminlalddcaaDoorK
import Derived.Test.YthijminlalddcaaDoorL
import Derived.Test.YthijminlalddcaaDoorSS
import Derived.Test.YthijminlalddcaaDoorSR
import Derived.Test.YthijminlalddcaaDoorHH
import Derived.Test.YthijminlalddcaaDoorTie
import Derived.Test.YthijminlalddcaaDoorCards
import Derived.SevenTiedAt

set_option linter.unusedVariables false
set_option linter.unusedSimpArgs false
namespace Go.Proofs.YthijminlalddcaaDoor.ipcKeys
open Go.ChangeShapes Go.WideShapes Go.ChangeAt Go.RowKit Go.Joins

theorem own : ownKnob Tryd.prog.godebug = none := by kernel_rfl

theorem laidOut : laidOutB Tryd.prog = true := by kernel_rfl

theorem fit3 : Tryd.prog.readableRec 3 = true ∧ 3 < Tryd.prog.types.size := ⟨by kernel_rfl, of_decide_eq_true (by kernel_rfl)⟩

theorem fit23 : Tryd.prog.readableRec 23 = true ∧ 23 < Tryd.prog.types.size := ⟨by kernel_rfl, of_decide_eq_true (by kernel_rfl)⟩

theorem fit40 : Tryd.prog.readableRec 40 = true ∧ 40 < Tryd.prog.types.size := ⟨by kernel_rfl, of_decide_eq_true (by kernel_rfl)⟩

set_option maxRecDepth 100000 in
theorem lifted (os : Os) (started : os.Started) (H : Type) (enc : TypeId × Value → H) :
    ReturnsInHanded {} Tryd.checked os 5 .any (fun w args => (Rows.ipcKeysSpec.pre enc Tryd.prog Tryd.f5 [] false w args ∧ laidMetH Tryd.prog laidH w) ∧ sizedMet enc Tryd.prog Tryd.f5 (OpenSpec.ofChange Rows.ipcKeysSpec) false w args)
      (Rows.ipcKeysSpec.post enc Tryd.prog Tryd.f5 false true false false) := by

  refine returnsInHanded_of_change_and (C := Tryd.checked) (X := fun w _ => laidMetH Tryd.prog laidH w) (fun _ _ _ hh h => h.of_heap hh) own started (by kernel_rfl) Tryd.func5
    (ChangeSpec.witness_at (enc := enc) (C := Tryd.checked) (os := os) (X := fun w _ => laidMetH Tryd.prog laidH w) false (laidWorld os) #[.slice none 0 0, .agg #[.int .i64 0, .int .i64 0], .int .i64 0] 8 rfl (by kernel_rfl) (by kernel_rfl) (by kernel_rfl) (by kernel_rfl) (by kernel_rfl) (laidWorld_met os _)) ?_

  intro W base args ds gs before hval0 hW _ _ hL _

  have hval : ∀ (j : Nat) t v, Tryd.f5.params[j]? = some t → args[j]? = some v → Value.okWide Tryd.prog W .any base t v := hval0

  have hW' := hW
  obtain ⟨p, q, hA0, hV, rfl, hfz, hnd⟩ := hW

  have hA : DataW.TrodAll enc Tryd.prog W 0 (fun _ => true) true Tryd.f5.params.toList args.toList ds p := hA0

  rw [Tryd.params5] at hA hval

  obtain ⟨v0, vs0, d0, ds0, p0, q0, hargs, rfl, rfl, h0, r0⟩ := trodAll_cons hA

  obtain ⟨v1, vs1, d1, ds1, p1, q1, rfl, rfl, rfl, h1, r1⟩ := trodAll_cons r0

  obtain ⟨v2, vs2, d2, ds2, p2, q2, rfl, rfl, rfl, h2, r2⟩ := trodAll_cons r1

  obtain ⟨rfl, rfl, rfl⟩ := trodAll_nil r2

  obtain rfl : args = #[v0, v1, v2] := by cases args; simp_all

  obtain ⟨rfl, rfl⟩ := trodVars_none hV

  have hE := eth_of_laid hL

  obtain ⟨A0, n0, cap0, q0, rfl, hlc0, hmx0, ha0, hw0⟩ := open_acts (hval 0 40 v0 rfl rfl) h0

  obtain ⟨u1_0, u1_1, y1_0, y1_1, nn1, rfl, rfl, rfl, g1_0, g1_1⟩ := open_agg2 Tryd.underlying23 (by kernel_rfl) (by kernel_rfl) (hval 1 23 v1 rfl rfl) h1

  obtain ⟨x1_0, rfl, wx1_0⟩ : ∃ x : Int, u1_0 = .int .i64 x ∧ (Lit.int .i64 x).wf = true := ⟨_, flat_int Tryd.underlying3 ⟨_, g1_0⟩⟩

  obtain ⟨x1_1, rfl, wx1_1⟩ : ∃ x : Int, u1_1 = .int .i64 x ∧ (Lit.int .i64 x).wf = true := ⟨_, flat_int Tryd.underlying3 ⟨_, g1_1⟩⟩

  obtain ⟨key, rfl, rfl, rfl, wf2⟩ := open_int Tryd.underlying3 (hval 2 3 v2 rfl rfl) h2

  refine (ipcKeys_walk A0 n0 cap0 q0 x1_0 x1_1 key W hlc0 hmx0 ha0 hw0 hE).mono fun e W' ⟨he, hg⟩ => ?_
  subst he

  exact ⟨_, rfl, law_post laidOut (List.forall_mem_cons.2 ⟨fit40, List.forall_mem_cons.2 ⟨fit23, List.forall_mem_cons.2 ⟨fit3, List.forall_mem_nil _⟩⟩⟩) rfl Tryd.underlying4 rfl hW' rfl rfl rfl hg⟩

theorem over : Rows.ipcKeysRow.holds Tryd.pinned (OpenSpec.ofChange Rows.ipcKeysSpec) :=
  OpenClaim.holds_of_wide 5 Tryd.f5 rfl rfl rfl rfl rfl rfl rfl ⟨rfl, rfl, rfl, rfl, rfl⟩ rfl rfl rfl rfl rfl (by kernel_rfl) Tryd.func5 (by kernel_rfl)
    (of_decide_eq_true (by kernel_rfl)) (by unfold Func.isWrapper; first | (rw [if_pos (by decide +kernel)]; kernel_rfl) | (rw [if_neg (of_decide_eq_false (by kernel_rfl))]; exact ⟨rfl, rfl⟩) | (rw [if_neg (by decide +kernel)]; exact ⟨rfl, rfl⟩))
    (fun os started H enc _ => lifted os started H enc)

/-- The tied card. -/
theorem proved : Rows.IpcKeysCardSaid :=
  Claim7.holds_tied_plain_at .later [] [.handle] true (true, "ed620f7bd3dda03155e3446365c753510ef968360e0044e085b653d2fea186d2") true
    over (fun _ h => by cases h) (by kernel_rfl) (fun _ h => by cases h) ipcKeys_row_tie rfl ⟨rfl, rfl⟩ (by kernel_rfl) rfl
    (fun f fn hf hfn => by
      obtain rfl : f = 5 := Option.some.inj ((show Tryd.prog.funcNamed "taffrail/taffraillaw12.IpcKeys" = some 5 by kernel_rfl).symm.trans hf) |>.symm
      obtain rfl : fn = Tryd.f5 := (Option.some.inj (Tryd.func5.symm.trans hfn)).symm
      exact ⟨by kernel_rfl, fun j t ht => by
        rw [Tryd.params5] at ht
        have hm : t ∈ [40, 23, 3] := by simpa using Array.mem_of_getElem? ht
        have hall : ([40, 23, 3].all fun u => !Tryd.prog.wantsStandIn u) = true := by kernel_rfl
        exact (show Tryd.prog.wantsStandIn t = false by simpa using List.all_eq_true.1 hall t hm)⟩)
    (by kernel_rfl)
#print axioms proved
end Go.Proofs.YthijminlalddcaaDoor.ipcKeys
