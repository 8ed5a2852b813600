/- The laws' walks. -/
import Derived.Test.YtlkbmmcbhfhalaaL
import Derived.Test.YtlkbmmcbhfhalaaM
set_option linter.unusedVariables false
set_option linter.unusedSimpArgs false
namespace Go.Proofs
open Go.RowKit Go.Shelf

theorem ret_bool {a b : Bool} (h : a = b) : Ending.returned (.bool a) = .returned (.bool b) := by rw [h]
theorem zero_bool {v : Int} (h : v = 0) : (v == 0) = true ∧ (v != 0) = false := by subst h; exact ⟨rfl, rfl⟩
theorem nonzero_bool {v : Int} (h : v ≠ 0) : (v == 0) = false ∧ (v != 0) = true := by simp [h]

/-! ### CredMore -/
set_option maxHeartbeats 1000000 in
theorem credMore_walk (u g pu pg pcu pcg m more want : Int) (w : World) : Calls Try.prog 3 #[.agg #[.int .i64 u, .int .i64 g], .agg #[.int .i64 pu, .int .i64 pg, .int .i64 pcu, .int .i64 pcg, .int .i64 m], .int .i64 more, .int .i64 want] w fun e w' => e = .returned (.bool true) ∧ Below w.heap.size w w' := by
  by_cases h0 : more < 0
  · go_enter Try.func3, Try.ntmps3
    go_wp2_with (first | (go_at_call 10; refine (shown_s _).mono ?_; rintro e w1 ⟨rfl, hb1⟩; have hz1 := hb1.size; (try simp only [World.size_alloc, World.size_setCell] at hz1); have hc1_0 := fun o => hb1.cell (p := ⟨w.heap.size, o, none⟩) (by first | (simp only [World.size_alloc, World.size_setCell]; omega) | (dsimp only; omega)) (fun f => f); have hl1_0 : w.heap.size < w1.heap.size := (by omega); have hc1_1 := fun o => hb1.cell (p := ⟨w.heap.size + 1, o, none⟩) (by first | (simp only [World.size_alloc, World.size_setCell]; omega) | (dsimp only; omega)) (fun f => f); have hl1_1 : w.heap.size + 1 < w1.heap.size := (by omega)))
    all_goals
      go_ret
      refine ⟨ret_bool (by first | rfl | exact a7), Gr.below ?_⟩
      repeat (first | (with_reducible exact Gr.refl _ _) | (with_reducible refine Gr.setCell ?_ (.inr (by dsimp only; omega)) _) | (with_reducible refine Gr.alloc ?_ _) | (with_reducible refine Gr.next ?_ (by assumption)))
  by_cases h1 : 511 < more
  · go_enter Try.func3, Try.ntmps3
    go_wp2_with (first | (go_at_call 10; refine (shown_s _).mono ?_; rintro e w1 ⟨rfl, hb1⟩; have hz1 := hb1.size; (try simp only [World.size_alloc, World.size_setCell] at hz1); have hc1_0 := fun o => hb1.cell (p := ⟨w.heap.size, o, none⟩) (by first | (simp only [World.size_alloc, World.size_setCell]; omega) | (dsimp only; omega)) (fun f => f); have hl1_0 : w.heap.size < w1.heap.size := (by omega); have hc1_1 := fun o => hb1.cell (p := ⟨w.heap.size + 1, o, none⟩) (by first | (simp only [World.size_alloc, World.size_setCell]; omega) | (dsimp only; omega)) (fun f => f); have hl1_1 : w.heap.size + 1 < w1.heap.size := (by omega)))
    all_goals
      go_ret
      refine ⟨ret_bool (by first | rfl | exact a7), Gr.below ?_⟩
      repeat (first | (with_reducible exact Gr.refl _ _) | (with_reducible refine Gr.setCell ?_ (.inr (by dsimp only; omega)) _) | (with_reducible refine Gr.alloc ?_ _) | (with_reducible refine Gr.next ?_ (by assumption)))
  by_cases h2 : allowedV u g pu pg pcu pcg m want = 0
  · obtain ⟨a1, a2⟩ := zero_bool (allowed_more u g pu pg pcu pcg m more want (by omega) (by omega) h2)
    obtain ⟨a3, a4⟩ := zero_bool h2
    clear h2
    go_enter Try.func3, Try.ntmps3
    go_wp2_with (first | (go_at_call 10; refine (shown_s _).mono ?_; rintro e w1 ⟨rfl, hb1⟩; have hz1 := hb1.size; (try simp only [World.size_alloc, World.size_setCell] at hz1); have hc1_0 := fun o => hb1.cell (p := ⟨w.heap.size, o, none⟩) (by first | (simp only [World.size_alloc, World.size_setCell]; omega) | (dsimp only; omega)) (fun f => f); have hl1_0 : w.heap.size < w1.heap.size := (by omega); have hc1_1 := fun o => hb1.cell (p := ⟨w.heap.size + 1, o, none⟩) (by first | (simp only [World.size_alloc, World.size_setCell]; omega) | (dsimp only; omega)) (fun f => f); have hl1_1 : w.heap.size + 1 < w1.heap.size := (by omega)) | (go_at_call 11; refine (allowed_s _ _ _ _ _ _ _ _ _).mono ?_; rintro e w2 ⟨rfl, hb2⟩; have hz2 := hb2.size; (try simp only [World.size_alloc, World.size_setCell] at hz2); have hc2_0 := fun o => hb2.cell (p := ⟨w.heap.size, o, none⟩) (by first | (simp only [World.size_alloc, World.size_setCell]; omega) | (dsimp only; omega)) (fun f => f); have hl2_0 : w.heap.size < w2.heap.size := (by omega); have hc2_1 := fun o => hb2.cell (p := ⟨w.heap.size + 1, o, none⟩) (by first | (simp only [World.size_alloc, World.size_setCell]; omega) | (dsimp only; omega)) (fun f => f); have hl2_1 : w.heap.size + 1 < w2.heap.size := (by omega); have hc2_2 := fun o => hb2.cell (p := ⟨w1.heap.size, o, none⟩) (by first | (simp only [World.size_alloc, World.size_setCell]; omega) | (dsimp only; omega)) (fun f => f); have hl2_2 : w1.heap.size < w2.heap.size := (by omega)))
    all_goals
      go_ret
      refine ⟨ret_bool (by first | rfl | exact a7), Gr.below ?_⟩
      repeat (first | (with_reducible exact Gr.refl _ _) | (with_reducible refine Gr.setCell ?_ (.inr (by dsimp only; omega)) _) | (with_reducible refine Gr.alloc ?_ _) | (with_reducible refine Gr.next ?_ (by assumption)))
  · obtain ⟨a3, a4⟩ := nonzero_bool h2
    clear h2
    go_enter Try.func3, Try.ntmps3
    go_wp2_with (first | (go_at_call 10; refine (shown_s _).mono ?_; rintro e w1 ⟨rfl, hb1⟩; have hz1 := hb1.size; (try simp only [World.size_alloc, World.size_setCell] at hz1); have hc1_0 := fun o => hb1.cell (p := ⟨w.heap.size, o, none⟩) (by first | (simp only [World.size_alloc, World.size_setCell]; omega) | (dsimp only; omega)) (fun f => f); have hl1_0 : w.heap.size < w1.heap.size := (by omega); have hc1_1 := fun o => hb1.cell (p := ⟨w.heap.size + 1, o, none⟩) (by first | (simp only [World.size_alloc, World.size_setCell]; omega) | (dsimp only; omega)) (fun f => f); have hl1_1 : w.heap.size + 1 < w1.heap.size := (by omega)) | (go_at_call 11; refine (allowed_s _ _ _ _ _ _ _ _ _).mono ?_; rintro e w2 ⟨rfl, hb2⟩; have hz2 := hb2.size; (try simp only [World.size_alloc, World.size_setCell] at hz2); have hc2_0 := fun o => hb2.cell (p := ⟨w.heap.size, o, none⟩) (by first | (simp only [World.size_alloc, World.size_setCell]; omega) | (dsimp only; omega)) (fun f => f); have hl2_0 : w.heap.size < w2.heap.size := (by omega); have hc2_1 := fun o => hb2.cell (p := ⟨w.heap.size + 1, o, none⟩) (by first | (simp only [World.size_alloc, World.size_setCell]; omega) | (dsimp only; omega)) (fun f => f); have hl2_1 : w.heap.size + 1 < w2.heap.size := (by omega); have hc2_2 := fun o => hb2.cell (p := ⟨w1.heap.size, o, none⟩) (by first | (simp only [World.size_alloc, World.size_setCell]; omega) | (dsimp only; omega)) (fun f => f); have hl2_2 : w1.heap.size < w2.heap.size := (by omega)))
    all_goals
      go_ret
      refine ⟨ret_bool (by first | rfl | exact a7), Gr.below ?_⟩
      repeat (first | (with_reducible exact Gr.refl _ _) | (with_reducible refine Gr.setCell ?_ (.inr (by dsimp only; omega)) _) | (with_reducible refine Gr.alloc ?_ _) | (with_reducible refine Gr.next ?_ (by assumption)))

/-! ### CredBoth -/
set_option maxHeartbeats 1000000 in
theorem credBoth_walk (u g pu pg pcu pcg m : Int) (w : World) : Calls Try.prog 4 #[.agg #[.int .i64 u, .int .i64 g], .agg #[.int .i64 pu, .int .i64 pg, .int .i64 pcu, .int .i64 pcg, .int .i64 m]] w fun e w' => e = .returned (.bool true) ∧ Below w.heap.size w w' := by
  have hb := allowed_both u g pu pg pcu pcg m
  have hr : u = 0 → (allowedV u g pu pg pcu pcg m 6 != 51) = true := by rintro rfl; simp [allowed_root]
  by_cases h6 : allowedV u g pu pg pcu pcg m 6 = 0
  · obtain ⟨h2, h4⟩ := hb.1 h6
    obtain ⟨a1, a2⟩ := zero_bool h2
    obtain ⟨a3, a4⟩ := zero_bool h4
    obtain ⟨a5, a6⟩ := zero_bool h6
    have a7 : (allowedV u g pu pg pcu pcg m 6 != 51) = true := by rw [h6]; rfl
    clear hb hr h2 h4 h6
    by_cases hu : u = 0
    · subst hu
      go_enter Try.func4, Try.ntmps4
      go_wp2_with (first | (go_at_call 10; refine (shown_s _).mono ?_; rintro e w1 ⟨rfl, hb1⟩; have hz1 := hb1.size; (try simp only [World.size_alloc, World.size_setCell] at hz1); have hc1_0 := fun o => hb1.cell (p := ⟨w.heap.size, o, none⟩) (by first | (simp only [World.size_alloc, World.size_setCell]; omega) | (dsimp only; omega)) (fun f => f); have hl1_0 : w.heap.size < w1.heap.size := (by omega); have hc1_1 := fun o => hb1.cell (p := ⟨w.heap.size + 1, o, none⟩) (by first | (simp only [World.size_alloc, World.size_setCell]; omega) | (dsimp only; omega)) (fun f => f); have hl1_1 : w.heap.size + 1 < w1.heap.size := (by omega)) | (go_at_call 11; refine (allowed_s _ _ _ _ _ _ _ _ _).mono ?_; rintro e w2 ⟨rfl, hb2⟩; have hz2 := hb2.size; (try simp only [World.size_alloc, World.size_setCell] at hz2); have hc2_0 := fun o => hb2.cell (p := ⟨w.heap.size, o, none⟩) (by first | (simp only [World.size_alloc, World.size_setCell]; omega) | (dsimp only; omega)) (fun f => f); have hl2_0 : w.heap.size < w2.heap.size := (by omega); have hc2_1 := fun o => hb2.cell (p := ⟨w.heap.size + 1, o, none⟩) (by first | (simp only [World.size_alloc, World.size_setCell]; omega) | (dsimp only; omega)) (fun f => f); have hl2_1 : w.heap.size + 1 < w2.heap.size := (by omega)))
      all_goals
        go_ret
        refine ⟨ret_bool (by first | rfl | exact a7), Gr.below ?_⟩
        repeat (first | (with_reducible exact Gr.refl _ _) | (with_reducible refine Gr.setCell ?_ (.inr (by dsimp only; omega)) _) | (with_reducible refine Gr.alloc ?_ _) | (with_reducible refine Gr.next ?_ (by assumption)))
    · have hu' : (u != 0) = true := by simp [hu]
      clear hu
      go_enter Try.func4, Try.ntmps4
      go_wp2_with (first | (go_at_call 10; refine (shown_s _).mono ?_; rintro e w1 ⟨rfl, hb1⟩; have hz1 := hb1.size; (try simp only [World.size_alloc, World.size_setCell] at hz1); have hc1_0 := fun o => hb1.cell (p := ⟨w.heap.size, o, none⟩) (by first | (simp only [World.size_alloc, World.size_setCell]; omega) | (dsimp only; omega)) (fun f => f); have hl1_0 : w.heap.size < w1.heap.size := (by omega); have hc1_1 := fun o => hb1.cell (p := ⟨w.heap.size + 1, o, none⟩) (by first | (simp only [World.size_alloc, World.size_setCell]; omega) | (dsimp only; omega)) (fun f => f); have hl1_1 : w.heap.size + 1 < w1.heap.size := (by omega)) | (go_at_call 11; refine (allowed_s _ _ _ _ _ _ _ _ _).mono ?_; rintro e w2 ⟨rfl, hb2⟩; have hz2 := hb2.size; (try simp only [World.size_alloc, World.size_setCell] at hz2); have hc2_0 := fun o => hb2.cell (p := ⟨w.heap.size, o, none⟩) (by first | (simp only [World.size_alloc, World.size_setCell]; omega) | (dsimp only; omega)) (fun f => f); have hl2_0 : w.heap.size < w2.heap.size := (by omega); have hc2_1 := fun o => hb2.cell (p := ⟨w.heap.size + 1, o, none⟩) (by first | (simp only [World.size_alloc, World.size_setCell]; omega) | (dsimp only; omega)) (fun f => f); have hl2_1 : w.heap.size + 1 < w2.heap.size := (by omega)))
      all_goals
        go_ret
        refine ⟨ret_bool (by first | rfl | exact a7), Gr.below ?_⟩
        repeat (first | (with_reducible exact Gr.refl _ _) | (with_reducible refine Gr.setCell ?_ (.inr (by dsimp only; omega)) _) | (with_reducible refine Gr.alloc ?_ _) | (with_reducible refine Gr.next ?_ (by assumption)))
  · obtain ⟨a5, a6⟩ := nonzero_bool h6
    by_cases hu : u = 0
    · have a7 := hr hu
      subst hu
      clear hr
      by_cases h2 : allowedV 0 g pu pg pcu pcg m 2 = 0
      · have h4 : allowedV 0 g pu pg pcu pcg m 4 ≠ 0 := fun h => h6 (hb.2 ⟨h2, h⟩)
        obtain ⟨a1, a2⟩ := zero_bool h2
        obtain ⟨a3, a4⟩ := nonzero_bool h4
        clear hb h2 h4 h6
        go_enter Try.func4, Try.ntmps4
        go_wp2_with (first | (go_at_call 10; refine (shown_s _).mono ?_; rintro e w1 ⟨rfl, hb1⟩; have hz1 := hb1.size; (try simp only [World.size_alloc, World.size_setCell] at hz1); have hc1_0 := fun o => hb1.cell (p := ⟨w.heap.size, o, none⟩) (by first | (simp only [World.size_alloc, World.size_setCell]; omega) | (dsimp only; omega)) (fun f => f); have hl1_0 : w.heap.size < w1.heap.size := (by omega); have hc1_1 := fun o => hb1.cell (p := ⟨w.heap.size + 1, o, none⟩) (by first | (simp only [World.size_alloc, World.size_setCell]; omega) | (dsimp only; omega)) (fun f => f); have hl1_1 : w.heap.size + 1 < w1.heap.size := (by omega)) | (go_at_call 11; refine (allowed_s _ _ _ _ _ _ _ _ _).mono ?_; rintro e w2 ⟨rfl, hb2⟩; have hz2 := hb2.size; (try simp only [World.size_alloc, World.size_setCell] at hz2); have hc2_0 := fun o => hb2.cell (p := ⟨w.heap.size, o, none⟩) (by first | (simp only [World.size_alloc, World.size_setCell]; omega) | (dsimp only; omega)) (fun f => f); have hl2_0 : w.heap.size < w2.heap.size := (by omega); have hc2_1 := fun o => hb2.cell (p := ⟨w.heap.size + 1, o, none⟩) (by first | (simp only [World.size_alloc, World.size_setCell]; omega) | (dsimp only; omega)) (fun f => f); have hl2_1 : w.heap.size + 1 < w2.heap.size := (by omega)))
        all_goals
          go_ret
          refine ⟨ret_bool (by first | rfl | exact a7), Gr.below ?_⟩
          repeat (first | (with_reducible exact Gr.refl _ _) | (with_reducible refine Gr.setCell ?_ (.inr (by dsimp only; omega)) _) | (with_reducible refine Gr.alloc ?_ _) | (with_reducible refine Gr.next ?_ (by assumption)))
      · obtain ⟨a1, a2⟩ := nonzero_bool h2
        clear hb h2 h6
        go_enter Try.func4, Try.ntmps4
        go_wp2_with (first | (go_at_call 10; refine (shown_s _).mono ?_; rintro e w1 ⟨rfl, hb1⟩; have hz1 := hb1.size; (try simp only [World.size_alloc, World.size_setCell] at hz1); have hc1_0 := fun o => hb1.cell (p := ⟨w.heap.size, o, none⟩) (by first | (simp only [World.size_alloc, World.size_setCell]; omega) | (dsimp only; omega)) (fun f => f); have hl1_0 : w.heap.size < w1.heap.size := (by omega); have hc1_1 := fun o => hb1.cell (p := ⟨w.heap.size + 1, o, none⟩) (by first | (simp only [World.size_alloc, World.size_setCell]; omega) | (dsimp only; omega)) (fun f => f); have hl1_1 : w.heap.size + 1 < w1.heap.size := (by omega)) | (go_at_call 11; refine (allowed_s _ _ _ _ _ _ _ _ _).mono ?_; rintro e w2 ⟨rfl, hb2⟩; have hz2 := hb2.size; (try simp only [World.size_alloc, World.size_setCell] at hz2); have hc2_0 := fun o => hb2.cell (p := ⟨w.heap.size, o, none⟩) (by first | (simp only [World.size_alloc, World.size_setCell]; omega) | (dsimp only; omega)) (fun f => f); have hl2_0 : w.heap.size < w2.heap.size := (by omega); have hc2_1 := fun o => hb2.cell (p := ⟨w.heap.size + 1, o, none⟩) (by first | (simp only [World.size_alloc, World.size_setCell]; omega) | (dsimp only; omega)) (fun f => f); have hl2_1 : w.heap.size + 1 < w2.heap.size := (by omega)))
        all_goals
          go_ret
          refine ⟨ret_bool (by first | rfl | exact a7), Gr.below ?_⟩
          repeat (first | (with_reducible exact Gr.refl _ _) | (with_reducible refine Gr.setCell ?_ (.inr (by dsimp only; omega)) _) | (with_reducible refine Gr.alloc ?_ _) | (with_reducible refine Gr.next ?_ (by assumption)))
    · have hu' : (u != 0) = true := by simp [hu]
      clear hr hu
      by_cases h2 : allowedV u g pu pg pcu pcg m 2 = 0
      · have h4 : allowedV u g pu pg pcu pcg m 4 ≠ 0 := fun h => h6 (hb.2 ⟨h2, h⟩)
        obtain ⟨a1, a2⟩ := zero_bool h2
        obtain ⟨a3, a4⟩ := nonzero_bool h4
        clear hb h2 h4 h6
        go_enter Try.func4, Try.ntmps4
        go_wp2_with (first | (go_at_call 10; refine (shown_s _).mono ?_; rintro e w1 ⟨rfl, hb1⟩; have hz1 := hb1.size; (try simp only [World.size_alloc, World.size_setCell] at hz1); have hc1_0 := fun o => hb1.cell (p := ⟨w.heap.size, o, none⟩) (by first | (simp only [World.size_alloc, World.size_setCell]; omega) | (dsimp only; omega)) (fun f => f); have hl1_0 : w.heap.size < w1.heap.size := (by omega); have hc1_1 := fun o => hb1.cell (p := ⟨w.heap.size + 1, o, none⟩) (by first | (simp only [World.size_alloc, World.size_setCell]; omega) | (dsimp only; omega)) (fun f => f); have hl1_1 : w.heap.size + 1 < w1.heap.size := (by omega)) | (go_at_call 11; refine (allowed_s _ _ _ _ _ _ _ _ _).mono ?_; rintro e w2 ⟨rfl, hb2⟩; have hz2 := hb2.size; (try simp only [World.size_alloc, World.size_setCell] at hz2); have hc2_0 := fun o => hb2.cell (p := ⟨w.heap.size, o, none⟩) (by first | (simp only [World.size_alloc, World.size_setCell]; omega) | (dsimp only; omega)) (fun f => f); have hl2_0 : w.heap.size < w2.heap.size := (by omega); have hc2_1 := fun o => hb2.cell (p := ⟨w.heap.size + 1, o, none⟩) (by first | (simp only [World.size_alloc, World.size_setCell]; omega) | (dsimp only; omega)) (fun f => f); have hl2_1 : w.heap.size + 1 < w2.heap.size := (by omega)))
        all_goals
          go_ret
          refine ⟨ret_bool (by first | rfl | exact a7), Gr.below ?_⟩
          repeat (first | (with_reducible exact Gr.refl _ _) | (with_reducible refine Gr.setCell ?_ (.inr (by dsimp only; omega)) _) | (with_reducible refine Gr.alloc ?_ _) | (with_reducible refine Gr.next ?_ (by assumption)))
      · obtain ⟨a1, a2⟩ := nonzero_bool h2
        clear hb h2 h6
        go_enter Try.func4, Try.ntmps4
        go_wp2_with (first | (go_at_call 10; refine (shown_s _).mono ?_; rintro e w1 ⟨rfl, hb1⟩; have hz1 := hb1.size; (try simp only [World.size_alloc, World.size_setCell] at hz1); have hc1_0 := fun o => hb1.cell (p := ⟨w.heap.size, o, none⟩) (by first | (simp only [World.size_alloc, World.size_setCell]; omega) | (dsimp only; omega)) (fun f => f); have hl1_0 : w.heap.size < w1.heap.size := (by omega); have hc1_1 := fun o => hb1.cell (p := ⟨w.heap.size + 1, o, none⟩) (by first | (simp only [World.size_alloc, World.size_setCell]; omega) | (dsimp only; omega)) (fun f => f); have hl1_1 : w.heap.size + 1 < w1.heap.size := (by omega)) | (go_at_call 11; refine (allowed_s _ _ _ _ _ _ _ _ _).mono ?_; rintro e w2 ⟨rfl, hb2⟩; have hz2 := hb2.size; (try simp only [World.size_alloc, World.size_setCell] at hz2); have hc2_0 := fun o => hb2.cell (p := ⟨w.heap.size, o, none⟩) (by first | (simp only [World.size_alloc, World.size_setCell]; omega) | (dsimp only; omega)) (fun f => f); have hl2_0 : w.heap.size < w2.heap.size := (by omega); have hc2_1 := fun o => hb2.cell (p := ⟨w.heap.size + 1, o, none⟩) (by first | (simp only [World.size_alloc, World.size_setCell]; omega) | (dsimp only; omega)) (fun f => f); have hl2_1 : w.heap.size + 1 < w2.heap.size := (by omega)))
        all_goals
          go_ret
          refine ⟨ret_bool (by first | rfl | exact a7), Gr.below ?_⟩
          repeat (first | (with_reducible exact Gr.refl _ _) | (with_reducible refine Gr.setCell ?_ (.inr (by dsimp only; omega)) _) | (with_reducible refine Gr.alloc ?_ _) | (with_reducible refine Gr.next ?_ (by assumption)))
end Go.Proofs
