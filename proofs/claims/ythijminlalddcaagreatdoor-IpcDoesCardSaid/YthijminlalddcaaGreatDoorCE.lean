/- Make, Allowed, Owns, Set. -/
import Derived.Test.YthijminlalddcaaGreatDoorCD
set_option linter.unusedVariables false
set_option linter.unusedSimpArgs false
namespace Go.Proofs
open Go.RowKit Go.Shelf

theorem permB_m {pu pg pcu pcg m : Int} (h : permB pu pg pcu pcg m = true) : 0 ≤ m ∧ m ≤ 511 := by
  unfold permB at h; simp at h; omega

theorem dig_who (u g pu pg pcu pcg m : Int) (h0 : 0 ≤ m) (h1 : m ≤ 511) : dig m (whoB (u == pu || u == pcu) (g == pg || g == pcg)) = if u = pu ∨ u = pcu then m / 64 else if g = pg ∨ g = pcg then m / 8 % 8 else m % 8 := by
  unfold whoB
  by_cases hu : u = pu ∨ u = pcu
  · rw [if_pos hu, if_pos (by simpa using hu)]
    simp only [dig]; rw [bits_and7 _ (by omega) (by omega)]; omega
  · rw [if_neg hu, if_neg (by simpa using hu)]
    by_cases hg : g = pg ∨ g = pcg
    · rw [if_pos hg, if_pos (by simpa using hg)]
      simp only [dig]; rw [bits_and7 _ (by omega) (by omega)]
    · rw [if_neg hg, if_neg (by simpa using hg)]
      simp only [dig]; rw [bits_and7 _ (by omega) (by omega)]

theorem bits_any (u g pu pg pcu pcg m : Int) (w : World) :
    Calls Tryz.prog 40 #[.agg #[.int .i64 u, .int .i64 g], .agg #[.int .i64 pu, .int .i64 pg, .int .i64 pcu, .int .i64 pcg, .int .i64 m]] w fun e w' => e = .returned (.int .i64 (bitsOf u g pu pg pcu pcg m)) ∧ Below w.heap.size w w' := by
  unfold bitsOf
  by_cases h : areB [u, g] = true ∧ permB pu pg pcu pcg m = true
  · rw [if_pos h]
    by_cases hu : u = 0
    · rw [if_pos hu]; subst hu; exact bits_root _ _ _ _ _ _ w h.1 h.2
    · rw [if_neg hu]
      obtain ⟨h0, h1⟩ := permB_m h.2
      rw [← dig_who u g pu pg pcu pcg m h0 h1]
      exact bits_yes _ _ _ _ _ _ _ w h0 h1 (by simp [hu]) h.1 h.2
  · rw [if_neg h]; exact bits_no _ _ _ _ _ _ _ w h

/-! ### The three again, as 'Same' -/
theorem right_s (u g : Int) (w : World) : Calls Tryz.prog 37 #[.agg #[.int .i64 u, .int .i64 g]] w fun e w' => e = .returned (.bool (areB [u, g])) ∧ Same w w' := (right_any u g w).mono fun _ _ h => ⟨h.1, Gr.of_below h.2 _⟩
theorem perm_s (pu pg pcu pcg m : Int) (w : World) : Calls Tryz.prog 61 #[.agg #[.int .i64 pu, .int .i64 pg, .int .i64 pcu, .int .i64 pcg, .int .i64 m]] w fun e w' => e = .returned (.bool (permB pu pg pcu pcg m)) ∧ Same w w' := (rightPerm_any pu pg pcu pcg m w).mono fun _ _ h => ⟨h.1, Gr.of_below h.2 _⟩
theorem bits_s (u g pu pg pcu pcg m : Int) (w : World) : Calls Tryz.prog 40 #[.agg #[.int .i64 u, .int .i64 g], .agg #[.int .i64 pu, .int .i64 pg, .int .i64 pcu, .int .i64 pcg, .int .i64 m]] w fun e w' => e = .returned (.int .i64 (bitsOf u g pu pg pcu pcg m)) ∧ Same w w' := (bits_any u g pu pg pcu pcg m w).mono fun _ _ h => ⟨h.1, Gr.of_below h.2 _⟩

/-! ### Make -/
def makeV (u g m : Int) : Value := if permB u g u g m = true then .tuple #[.agg #[.int .i64 u, .int .i64 g, .int .i64 u, .int .i64 g, .int .i64 m], .int .i64 0] else .tuple #[.agg #[.int .i64 0, .int .i64 0, .int .i64 0, .int .i64 0, .int .i64 0], .int .i64 50]
set_option maxHeartbeats 1000000 in
theorem make_s (u g m : Int) (w : World) : Calls Tryz.prog 42 #[.agg #[.int .i64 u, .int .i64 g], .int .i64 m] w fun e w' => e = .returned (makeV u g m) ∧ Same w w' := by
  unfold makeV
  cases h : permB u g u g m
  · rw [if_neg (by simp)]
    go_enter Tryz.func42, Tryz.ntmps42
    go_wp2_with (go_at_call 61; refine (perm_s _ _ _ _ _ _).mono ?_; rintro e w1 ⟨rfl, hb1⟩; have hz1 := hb1.size; simp only [World.size_alloc] at hz1; obtain ⟨hc1, hf1⟩ := hb1.cells)
    refine bodyPost_ret (v := .tuple #[.agg #[.int .i64 0, .int .i64 0, .int .i64 0, .int .i64 0, .int .i64 0], .int .i64 50]) (by simp [results, Tryz.results42, go_sem, hc1]) rfl ⟨rfl, ?_⟩
    repeat (first | (with_reducible exact Gr.refl _ _) | (with_reducible refine Gr.setCell ?_ (.inr (by dsimp only; omega)) _) | (with_reducible refine Gr.alloc ?_ _) | (with_reducible refine Gr.next ?_ (by assumption)))
  · rw [if_pos rfl]
    go_enter Tryz.func42, Tryz.ntmps42
    go_wp2_with (go_at_call 61; refine (perm_s _ _ _ _ _ _).mono ?_; rintro e w1 ⟨rfl, hb1⟩; have hz1 := hb1.size; simp only [World.size_alloc] at hz1; obtain ⟨hc1, hf1⟩ := hb1.cells)
    refine bodyPost_ret (v := .tuple #[.agg #[.int .i64 u, .int .i64 g, .int .i64 u, .int .i64 g, .int .i64 m], .int .i64 0]) (by simp [results, Tryz.results42, go_sem, hc1]) rfl ⟨rfl, ?_⟩
    repeat (first | (with_reducible exact Gr.refl _ _) | (with_reducible refine Gr.setCell ?_ (.inr (by dsimp only; omega)) _) | (with_reducible refine Gr.alloc ?_ _) | (with_reducible refine Gr.next ?_ (by assumption)))

/-! ### Owns -/
def ownsB (u g pu pg pcu pcg m : Int) : Bool := areB [u, g] && permB pu pg pcu pcg m && (u == 0 || u == pu || u == pcu)
set_option maxHeartbeats 1000000 in
theorem owns_s (u g pu pg pcu pcg m : Int) (w : World) : Calls Tryz.prog 45 #[.agg #[.int .i64 u, .int .i64 g], .agg #[.int .i64 pu, .int .i64 pg, .int .i64 pcu, .int .i64 pcg, .int .i64 m]] w fun e w' => e = .returned (.bool (ownsB u g pu pg pcu pcg m)) ∧ Same w w' := by
  have HO := Lib.hid (show ownsB u g pu pg pcu pcg m = (areB [u, g] && permB pu pg pcu pcg m && (u == 0 || u == pu || u == pcu)) from rfl)
  cases h1 : areB [u, g]
  · go_enter Tryz.func45, Tryz.ntmps45
    go_wp2_with (go_at_call 37; refine (right_s _ _ _).mono ?_; rintro e w1 ⟨rfl, hb1⟩; have hz1 := hb1.size; simp only [World.size_alloc] at hz1; obtain ⟨hc1, hf1⟩ := hb1.cells)
    go_ret
    refine ⟨by rw [HO.out]; simp [h1], ?_⟩
    repeat (first | (with_reducible exact Gr.refl _ _) | (with_reducible refine Gr.setCell ?_ (.inr (by dsimp only; omega)) _) | (with_reducible refine Gr.alloc ?_ _) | (with_reducible refine Gr.next ?_ (by assumption)))
  · cases h2 : permB pu pg pcu pcg m
    · go_enter Tryz.func45, Tryz.ntmps45
      go_wp2_with first
        | (go_at_call 37; refine (right_s _ _ _).mono ?_; rintro e w1 ⟨rfl, hb1⟩; have hz1 := hb1.size; simp only [World.size_alloc] at hz1; obtain ⟨hc1, hf1⟩ := hb1.cells)
        | (go_at_call 61; refine (perm_s _ _ _ _ _ _).mono ?_; rintro e w2 ⟨rfl, hb2'⟩; have hb2 := Gr.next hb1 hb2'; clear hc1 hf1 hb2' hz1 hb1; have hz2 := hb2.size; simp only [World.size_alloc] at hz2; obtain ⟨hc2, hf2⟩ := hb2.cells)
      go_ret
      refine ⟨by rw [HO.out]; simp [h1, h2], ?_⟩
      repeat (first | (with_reducible exact Gr.refl _ _) | (with_reducible refine Gr.setCell ?_ (.inr (by dsimp only; omega)) _) | (with_reducible refine Gr.alloc ?_ _) | (with_reducible refine Gr.next ?_ (by assumption)))
    · go_enter Tryz.func45, Tryz.ntmps45
      go_wp2_with first
        | (go_at_call 37; refine (right_s _ _ _).mono ?_; rintro e w1 ⟨rfl, hb1⟩; have hz1 := hb1.size; simp only [World.size_alloc] at hz1; obtain ⟨hc1, hf1⟩ := hb1.cells)
        | (go_at_call 61; refine (perm_s _ _ _ _ _ _).mono ?_; rintro e w2 ⟨rfl, hb2'⟩; have hb2 := Gr.next hb1 hb2'; clear hc1 hf1 hb2' hz1 hb1; have hz2 := hb2.size; simp only [World.size_alloc] at hz2; obtain ⟨hc2, hf2⟩ := hb2.cells)
      all_goals
        go_ret
        refine ⟨by rw [HO.out, h1, h2]; first | (simp [show u = 0 from by assumption]; done) | (simp [show ¬ u = 0 from by assumption, show u = pu from by assumption]; done) | simp [show ¬ u = 0 from by assumption, show ¬ u = pu from by assumption], ?_⟩
        repeat (first | (with_reducible exact Gr.refl _ _) | (with_reducible refine Gr.setCell ?_ (.inr (by dsimp only; omega)) _) | (with_reducible refine Gr.alloc ?_ _) | (with_reducible refine Gr.next ?_ (by assumption)))
end Go.Proofs
