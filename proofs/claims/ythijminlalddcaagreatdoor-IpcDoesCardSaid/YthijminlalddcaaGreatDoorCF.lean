/- Allowed. -/
import Derived.Test.YthijminlalddcaaGreatDoorCE
set_option linter.unusedVariables false
set_option linter.unusedSimpArgs false
namespace Go.Proofs
open Go.RowKit Go.Shelf

/-! ### Allowed -/
def allowedV (u g pu pg pcu pcg m want : Int) : Int :=
  if (want = 2 ∨ want = 4 ∨ want = 6) ∧ areB [u, g] = true ∧ permB pu pg pcu pcg m = true then (if bits .and .i64 (bitsOf u g pu pg pcu pcg m) want = want then 0 else 51) else 50
set_option maxHeartbeats 1000000 in
theorem allowed_not (u g pu pg pcu pcg m want : Int) (w : World) (h2 : (want == 2) = false) (h4 : (want == 4) = false) (h6 : (want == 6) = false) : Calls Tryz.prog 32 #[.agg #[.int .i64 u, .int .i64 g], .agg #[.int .i64 pu, .int .i64 pg, .int .i64 pcu, .int .i64 pcg, .int .i64 m], .int .i64 want] w fun e w' => e = .returned (.int .i64 50) ∧ Same w w' := by
  go_enter Tryz.func32, Tryz.ntmps32
  go_wp2
  go_ret
  refine ⟨rfl, ?_⟩
  repeat (first | (with_reducible exact Gr.refl _ _) | (with_reducible refine Gr.setCell ?_ (.inr (by dsimp only; omega)) _) | (with_reducible refine Gr.alloc ?_ _) | (with_reducible refine Gr.next ?_ (by assumption)))
set_option maxHeartbeats 1000000 in
theorem allowed_want (u g pu pg pcu pcg m want : Int) (w : World) (hw : want = 2 ∨ want = 4 ∨ want = 6) : Calls Tryz.prog 32 #[.agg #[.int .i64 u, .int .i64 g], .agg #[.int .i64 pu, .int .i64 pg, .int .i64 pcu, .int .i64 pcg, .int .i64 m], .int .i64 want] w fun e w' =>
    e = .returned (.int .i64 (if areB [u, g] = true ∧ permB pu pg pcu pcg m = true then (if bits .and .i64 (bitsOf u g pu pg pcu pcg m) want = want then 0 else 51) else 50)) ∧ Same w w' := by
  cases h1 : areB [u, g]
  · rw [if_neg (by simp)]
    rcases hw with rfl | rfl | rfl
    all_goals
      go_enter Tryz.func32, Tryz.ntmps32
      go_wp2_with (first | (go_at_call 37; refine (right_s _ _ _).mono ?_; rintro e w1 ⟨rfl, hb1⟩; have hz1 := hb1.size; simp only [World.size_alloc] at hz1; obtain ⟨hc1, hf1⟩ := hb1.cells) | (go_at_call 61; refine (perm_s _ _ _ _ _ _).mono ?_; rintro e w2 ⟨rfl, hb2'⟩; have hb2 := Gr.next hb1 hb2'; clear hc1 hf1 hb2' hz1 hb1; have hz2 := hb2.size; simp only [World.size_alloc] at hz2; obtain ⟨hc2, hf2⟩ := hb2.cells) | (go_at_call 40; refine (bits_s _ _ _ _ _ _ _ _).mono ?_; rintro e w3 ⟨rfl, hb3'⟩; have hb3 := Gr.next hb2 hb3'; clear hc2 hf2 hb3' hz2 hb2; have hz3 := hb3.size; simp only [World.size_alloc] at hz3; obtain ⟨hc3, hf3⟩ := hb3.cells))
      go_ret
      refine ⟨rfl, ?_⟩
      repeat (first | (with_reducible exact Gr.refl _ _) | (with_reducible refine Gr.setCell ?_ (.inr (by dsimp only; omega)) _) | (with_reducible refine Gr.alloc ?_ _) | (with_reducible refine Gr.next ?_ (by assumption)))
  · cases h2 : permB pu pg pcu pcg m
    · rw [if_neg (by simp)]
      rcases hw with rfl | rfl | rfl
      all_goals
        go_enter Tryz.func32, Tryz.ntmps32
        go_wp2_with (first | (go_at_call 37; refine (right_s _ _ _).mono ?_; rintro e w1 ⟨rfl, hb1⟩; have hz1 := hb1.size; simp only [World.size_alloc] at hz1; obtain ⟨hc1, hf1⟩ := hb1.cells) | (go_at_call 61; refine (perm_s _ _ _ _ _ _).mono ?_; rintro e w2 ⟨rfl, hb2'⟩; have hb2 := Gr.next hb1 hb2'; clear hc1 hf1 hb2' hz1 hb1; have hz2 := hb2.size; simp only [World.size_alloc] at hz2; obtain ⟨hc2, hf2⟩ := hb2.cells) | (go_at_call 40; refine (bits_s _ _ _ _ _ _ _ _).mono ?_; rintro e w3 ⟨rfl, hb3'⟩; have hb3 := Gr.next hb2 hb3'; clear hc2 hf2 hb3' hz2 hb2; have hz3 := hb3.size; simp only [World.size_alloc] at hz3; obtain ⟨hc3, hf3⟩ := hb3.cells))
        go_ret
        refine ⟨rfl, ?_⟩
        repeat (first | (with_reducible exact Gr.refl _ _) | (with_reducible refine Gr.setCell ?_ (.inr (by dsimp only; omega)) _) | (with_reducible refine Gr.alloc ?_ _) | (with_reducible refine Gr.next ?_ (by assumption)))
    · rw [if_pos (by simp)]
      by_cases h3 : bits .and .i64 (bitsOf u g pu pg pcu pcg m) want = want
      · rw [if_pos h3]
        rcases hw with rfl | rfl | rfl
        all_goals
          go_enter Tryz.func32, Tryz.ntmps32
          go_wp2_with (first | (go_at_call 37; refine (right_s _ _ _).mono ?_; rintro e w1 ⟨rfl, hb1⟩; have hz1 := hb1.size; simp only [World.size_alloc] at hz1; obtain ⟨hc1, hf1⟩ := hb1.cells) | (go_at_call 61; refine (perm_s _ _ _ _ _ _).mono ?_; rintro e w2 ⟨rfl, hb2'⟩; have hb2 := Gr.next hb1 hb2'; clear hc1 hf1 hb2' hz1 hb1; have hz2 := hb2.size; simp only [World.size_alloc] at hz2; obtain ⟨hc2, hf2⟩ := hb2.cells) | (go_at_call 40; refine (bits_s _ _ _ _ _ _ _ _).mono ?_; rintro e w3 ⟨rfl, hb3'⟩; have hb3 := Gr.next hb2 hb3'; clear hc2 hf2 hb3' hz2 hb2; have hz3 := hb3.size; simp only [World.size_alloc] at hz3; obtain ⟨hc3, hf3⟩ := hb3.cells))
          go_ret
          refine ⟨rfl, ?_⟩
          repeat (first | (with_reducible exact Gr.refl _ _) | (with_reducible refine Gr.setCell ?_ (.inr (by dsimp only; omega)) _) | (with_reducible refine Gr.alloc ?_ _) | (with_reducible refine Gr.next ?_ (by assumption)))
      · rw [if_neg h3]
        rcases hw with rfl | rfl | rfl
        all_goals
          go_enter Tryz.func32, Tryz.ntmps32
          go_wp2_with (first | (go_at_call 37; refine (right_s _ _ _).mono ?_; rintro e w1 ⟨rfl, hb1⟩; have hz1 := hb1.size; simp only [World.size_alloc] at hz1; obtain ⟨hc1, hf1⟩ := hb1.cells) | (go_at_call 61; refine (perm_s _ _ _ _ _ _).mono ?_; rintro e w2 ⟨rfl, hb2'⟩; have hb2 := Gr.next hb1 hb2'; clear hc1 hf1 hb2' hz1 hb1; have hz2 := hb2.size; simp only [World.size_alloc] at hz2; obtain ⟨hc2, hf2⟩ := hb2.cells) | (go_at_call 40; refine (bits_s _ _ _ _ _ _ _ _).mono ?_; rintro e w3 ⟨rfl, hb3'⟩; have hb3 := Gr.next hb2 hb3'; clear hc2 hf2 hb3' hz2 hb2; have hz3 := hb3.size; simp only [World.size_alloc] at hz3; obtain ⟨hc3, hf3⟩ := hb3.cells))
          go_ret
          refine ⟨rfl, ?_⟩
          repeat (first | (with_reducible exact Gr.refl _ _) | (with_reducible refine Gr.setCell ?_ (.inr (by dsimp only; omega)) _) | (with_reducible refine Gr.alloc ?_ _) | (with_reducible refine Gr.next ?_ (by assumption)))
theorem allowed_s (u g pu pg pcu pcg m want : Int) (w : World) : Calls Tryz.prog 32 #[.agg #[.int .i64 u, .int .i64 g], .agg #[.int .i64 pu, .int .i64 pg, .int .i64 pcu, .int .i64 pcg, .int .i64 m], .int .i64 want] w fun e w' => e = .returned (.int .i64 (allowedV u g pu pg pcu pcg m want)) ∧ Same w w' := by
  unfold allowedV
  by_cases hw : want = 2 ∨ want = 4 ∨ want = 6
  · simp only [hw, true_and]; exact allowed_want _ _ _ _ _ _ _ _ w hw
  · simp only [hw, false_and, if_false]
    exact allowed_not _ _ _ _ _ _ _ _ w (by simp; omega) (by simp; omega) (by simp; omega)
end Go.Proofs
