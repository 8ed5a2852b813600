/- The laws' walks. -/
import Derived.Test.YtlkbmmcbhfhalaaH
set_option linter.unusedVariables false
set_option linter.unusedSimpArgs false
namespace Go.Proofs
open Go.RowKit Go.Shelf

theorem make_yes (u g m : Int) (w : World) (h : permB u g u g m = true) : Calls Try.prog 12 #[.agg #[.int .i64 u, .int .i64 g], .int .i64 m] w fun e w' => e = .returned (.tuple #[.agg #[.int .i64 u, .int .i64 g, .int .i64 u, .int .i64 g, .int .i64 m], .int .i64 0]) ∧ Same w w' :=
  (make_s u g m w).mono fun e w' hh => ⟨by rw [hh.1, makeV, if_pos h], hh.2⟩
theorem make_no (u g m : Int) (w : World) (h : permB u g u g m = false) : Calls Try.prog 12 #[.agg #[.int .i64 u, .int .i64 g], .int .i64 m] w fun e w' => e = .returned (.tuple #[.agg #[.int .i64 0, .int .i64 0, .int .i64 0, .int .i64 0, .int .i64 0], .int .i64 50]) ∧ Same w w' :=
  (make_s u g m w).mono fun e w' hh => ⟨by rw [hh.1, makeV, if_neg (by simp [h])], hh.2⟩

set_option maxHeartbeats 1000000 in
theorem shown_s (w : World) : Calls Try.prog 10 #[] w fun e w' => e = .returned (.bool true) ∧ Same w w' := by
  have e0 : permB 7 9 7 9 416 = true := by decide +kernel
  have e1 : allowedV 7 1 7 9 7 9 416 2 = 0 := by decide +kernel
  have e2 : allowedV 8 9 7 9 7 9 416 4 = 0 := by decide +kernel
  have e3 : allowedV 8 9 7 9 7 9 416 2 = 51 := by decide +kernel
  go_enter Try.func10, Try.ntmps10
  go_wp2_with (first | (go_at_call 12; refine (make_yes 7 9 416 _ e0).mono ?_; rintro e w1 ⟨rfl, hb1⟩; have hz1 := hb1.size; (try simp only [World.size_alloc, World.size_setCell] at hz1)) | (go_at_call 11; refine (allowed_s _ _ _ _ _ _ _ _ _).mono ?_; rintro e w2 ⟨rfl, hb2⟩; have hz2 := hb2.size; (try simp only [World.size_alloc, World.size_setCell] at hz2); have hc2_0 := fun o => hb2.cell (p := ⟨w1.heap.size, o, none⟩) (by first | (simp only [World.size_alloc, World.size_setCell]; omega) | (dsimp only; omega)) (fun f => f)) | (go_at_call 11; refine (allowed_s _ _ _ _ _ _ _ _ _).mono ?_; rintro e w3 ⟨rfl, hb3⟩; have hz3 := hb3.size; (try simp only [World.size_alloc, World.size_setCell] at hz3); have hc3_0 := fun o => hb3.cell (p := ⟨w1.heap.size, o, none⟩) (by first | (simp only [World.size_alloc, World.size_setCell]; omega) | (dsimp only; omega)) (fun f => f)) | (go_at_call 11; refine (allowed_s _ _ _ _ _ _ _ _ _).mono ?_; rintro e w4 ⟨rfl, hb4⟩; have hz4 := hb4.size; (try simp only [World.size_alloc, World.size_setCell] at hz4); have hc4_0 := fun o => hb4.cell (p := ⟨w1.heap.size, o, none⟩) (by first | (simp only [World.size_alloc, World.size_setCell]; omega) | (dsimp only; omega)) (fun f => f)))
  go_ret
  refine ⟨rfl, ?_⟩
  repeat (first | (with_reducible exact Gr.refl _ _) | (with_reducible refine Gr.setCell ?_ (.inr (by dsimp only; omega)) _) | (with_reducible refine Gr.alloc ?_ _) | (with_reducible refine Gr.next ?_ (by assumption)))
end Go.Proofs
