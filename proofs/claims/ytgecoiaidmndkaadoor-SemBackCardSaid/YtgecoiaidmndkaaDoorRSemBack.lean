/-
  SemBack: whatever the input, the law returns true; each argument reads behind the call as it read before. No condition of ours; the listed sentinels read as the program's text lays them (the card ties them).
-/

import Derived.ChangeMaps5
import Derived.Test.YtgecoiaidmndkaaDoorK
import Derived.Test.YtgecoiaidmndkaaDoorL
import Derived.Test.YtgecoiaidmndkaaDoorR
import Derived.Test.YtgecoiaidmndkaaDoorS
import Derived.Test.YtgecoiaidmndkaaDoorV
import Derived.Test.YtgecoiaidmndkaaDoorTie
import Derived.Test.YtgecoiaidmndkaaDoorCards
import Derived.SevenTiedAt

set_option linter.unusedVariables false
set_option linter.unusedSimpArgs false
namespace Go.Proofs.YtgecoiaidmndkaaDoor.semBack
open Go.ChangeShapes Go.WideShapes Go.ChangeAt Go.RowKit Go.Joins

theorem own : ownKnob Tryd.prog.godebug = none := by kernel_rfl

theorem laidOut : laidOutB Tryd.prog = true := by kernel_rfl

theorem fit22 : Tryd.prog.readableRec 22 = true ∧ 22 < Tryd.prog.types.size := ⟨by kernel_rfl, of_decide_eq_true (by kernel_rfl)⟩

theorem fit23 : Tryd.prog.readableRec 23 = true ∧ 23 < Tryd.prog.types.size := ⟨by kernel_rfl, of_decide_eq_true (by kernel_rfl)⟩

set_option maxRecDepth 100000 in
theorem lifted (os : Os) (started : os.Started) (H : Type) (enc : TypeId × Value → H) :
    ReturnsInHanded {} Tryd.checked os 5 .any (fun w args => (Rows.semBackSpec.pre enc Tryd.prog Tryd.f5 [] false w args ∧ laidMetH Tryd.prog laid3 w) ∧ sizedMet enc Tryd.prog Tryd.f5 (OpenSpec.ofChange Rows.semBackSpec) false w args)
      (Rows.semBackSpec.post enc Tryd.prog Tryd.f5 false true false false) := by

  refine returnsInHanded_of_change_and (C := Tryd.checked) (X := fun w _ => laidMetH Tryd.prog laid3 w) (fun _ _ _ hh h => h.of_heap hh) own started (by kernel_rfl) Tryd.func5
    (ChangeSpec.witness_shaped (enc := enc) (C := Tryd.checked) (os := os) (X := fun w _ => laidMetH Tryd.prog laid3 w) false (World.doorLaid Tryd.prog 66 os) #[.slice none 0 0, .slice none 0 0] 8 rfl (World.shaped_of_RefB (by kernel_rfl) (by kernel_rfl)) (by kernel_rfl) (by kernel_rfl) (by kernel_rfl) (door_met os _)) ?_

  intro W base args ds gs before hval0 hW _ _ hL _

  have hval : ∀ (j : Nat) t v, Tryd.f5.params[j]? = some t → args[j]? = some v → Value.okWide Tryd.prog W .any base t v := hval0

  have hW' := hW
  obtain ⟨p, q, hA0, hV, rfl, hfz, hnd⟩ := hW

  have hA : DataW.TrodAll enc Tryd.prog W 0 (fun _ => true) true Tryd.f5.params.toList args.toList ds p := hA0

  rw [Tryd.params5] at hA hval

  obtain ⟨v0, vs0, d0, ds0, p0, q0, hargs, rfl, rfl, h0, r0⟩ := trodAll_cons hA

  obtain ⟨v1, vs1, d1, ds1, p1, q1, rfl, rfl, rfl, h1, r1⟩ := trodAll_cons r0

  obtain ⟨rfl, rfl, rfl⟩ := trodAll_nil r1

  obtain rfl : args = #[v0, v1] := by cases args; simp_all

  obtain ⟨rfl, rfl⟩ := trodVars_none hV

  obtain ⟨aR, aA, aW, hS⟩ := sen_of_laid hL

  obtain ⟨A0, xs0, c0, rfl, hnc0, hc0, hI0⟩ := open_intslice (hval 0 22 v0 rfl rfl) h0

  obtain ⟨A1, n1, cap1, m1, U1, rfl, hlc1, hmx1, hflat1⟩ := open_slice_flat2 Tryd.underlying23 Tryd.underlying32 (by kernel_rfl) (by kernel_rfl) (by decide) (hval 1 23 v1 rfl rfl) h1

  have ha1 : Ops W A1 n1 (fun i => intOf (U1 i 0)) (fun i => intOf (U1 i 1)) (fun i => intOf (U1 i 2)) := fun hn => by
    obtain ⟨g, off, hA, hg, hx⟩ := hflat1 hn
    refine ⟨g, off, hA, hg, fun i hi => ?_⟩
    obtain ⟨c0, t0⟩ := hx i hi 0 _ rfl
    obtain ⟨c1, t1⟩ := hx i hi 1 _ rfl
    obtain ⟨c2, t2⟩ := hx i hi 2 _ rfl
    exact ⟨c0.trans (congrArg some (flat_int Tryd.underlying3 t0).1), c1.trans (congrArg some (flat_int Tryd.underlying3 t1).1), c2.trans (congrArg some (flat_int Tryd.underlying3 t2).1)⟩

  have hw1_2 : ∀ i, i < n1 → -9223372036854775808 ≤ intOf (U1 i 2) ∧ intOf (U1 i 2) < 9223372036854775808 := fun i hi => by
    obtain ⟨g, off, hA, hg, hx⟩ := hflat1 (by omega)
    exact wf_range (flat_int Tryd.underlying3 (hx i hi 2 _ rfl).2).2

  refine (semBack_walk xs0 A0 xs0.length c0 A1 n1 cap1 (fun i => intOf (U1 i 0)) (fun i => intOf (U1 i 1)) (fun i => intOf (U1 i 2)) W rfl hnc0 hc0 hI0 hlc1 hmx1 ha1 hw1_2 hS).mono fun e W' ⟨he, hg⟩ => ?_
  subst he

  exact ⟨_, rfl, law_post laidOut (List.forall_mem_cons.2 ⟨fit22, List.forall_mem_cons.2 ⟨fit23, List.forall_mem_nil _⟩⟩) rfl Tryd.underlying4 rfl hW' rfl rfl rfl hg⟩

theorem over : Rows.semBackRow.holds Tryd.pinned (OpenSpec.ofChange Rows.semBackSpec) :=
  OpenClaim.holds_of_wide 5 Tryd.f5 rfl rfl rfl rfl rfl rfl rfl ⟨rfl, rfl, rfl, rfl, rfl⟩ rfl rfl rfl rfl rfl (by kernel_rfl) Tryd.func5 (by kernel_rfl)
    (of_decide_eq_true (by kernel_rfl)) (by unfold Func.isWrapper; first | (rw [if_pos (by decide +kernel)]; kernel_rfl) | (rw [if_neg (of_decide_eq_false (by kernel_rfl))]; exact ⟨rfl, rfl⟩) | (rw [if_neg (by decide +kernel)]; exact ⟨rfl, rfl⟩))
    (fun os started H enc _ => lifted os started H enc)

/-- The tied card. -/
theorem proved : Rows.SemBackCardSaid :=
  Claim7.holds_tied_plain_at .later [] [.sentinel, .sentinel, .sentinel] true (true, "e01b0dbe1a050a44239fde9f04b3377ad2ccd6ee453bb902d100b1bb49e7fc48") true
    over (fun _ h => by cases h) (by kernel_rfl) (fun _ h => by cases h) semBack_row_tie rfl ⟨rfl, rfl⟩ (by kernel_rfl) rfl
    (fun f fn hf hfn => by
      obtain rfl : f = 5 := Option.some.inj ((show Tryd.prog.funcNamed "taffrail/taffraillaw13.SemBack" = some 5 by kernel_rfl).symm.trans hf) |>.symm
      obtain rfl : fn = Tryd.f5 := (Option.some.inj (Tryd.func5.symm.trans hfn)).symm
      exact ⟨by kernel_rfl, fun j t ht => by
        rw [Tryd.params5] at ht
        have hm : t ∈ [22, 23] := by simpa using Array.mem_of_getElem? ht
        have hall : ([22, 23].all fun u => !Tryd.prog.wantsStandIn u) = true := by kernel_rfl
        exact (show Tryd.prog.wantsStandIn t = false by simpa using List.all_eq_true.1 hall t hm)⟩)
    (by kernel_rfl)
#print axioms proved
end Go.Proofs.YtgecoiaidmndkaaDoor.semBack
