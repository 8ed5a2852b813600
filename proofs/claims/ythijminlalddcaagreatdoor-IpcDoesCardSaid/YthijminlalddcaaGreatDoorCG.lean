/- The reference's functions; Set. -/
import Derived.Test.YthijminlalddcaaGreatDoorCS
set_option linter.unusedVariables false
set_option linter.unusedSimpArgs false
namespace Go.Proofs
open Go.RowKit Go.Shelf

theorem user_r (n : Int) (w : World) : Calls Tryz.prog 74 #[.int .i64 n] w fun e w' => e = .returned (.bool (okN n)) ∧ w = w' := by
  by_cases h0 : 0 ≤ n
  · by_cases h1 : n ≤ 65535
    · rw [okN_true h0 h1]
      go_enter Tryz.func74, Tryz.ntmps74
      go_wp2
      go_ret
      exact ⟨rfl, rfl⟩
    · rw [okN_false (by omega)]
      go_enter Tryz.func74, Tryz.ntmps74
      go_wp2
      go_ret
      exact ⟨rfl, rfl⟩
  · rw [okN_false (by omega)]
    go_enter Tryz.func74, Tryz.ntmps74
    go_wp2
    go_ret
    exact ⟨rfl, rfl⟩

set_option maxHeartbeats 1000000 in
theorem right_r (u g : Int) (w : World) : Calls Tryz.prog 49 #[.agg #[.int .i64 u, .int .i64 g]] w fun e w' => e = .returned (.bool (areB [u, g])) ∧ Same w w' := by
  have e1 : areB [u, g] = (okN u && okN g) := by simp [areB]
  rw [e1]
  clear e1
  cases h1 : okN u
  all_goals
    go_enter Tryz.func49, Tryz.ntmps49
    go_wp2_with (go_at_call 74; refine (user_r _ _).mono ?_; rintro e w' ⟨rfl, rfl⟩)
    go_ret
    refine ⟨rfl, ?_⟩
    repeat (first | (with_reducible exact Gr.refl _ _) | (with_reducible refine Gr.setCell ?_ (.inr (by dsimp only; omega)) _) | (with_reducible refine Gr.alloc ?_ _) | (with_reducible refine Gr.next ?_ (by assumption)))

set_option maxHeartbeats 1000000 in
theorem perm_r (pu pg pcu pcg m : Int) (w : World) : Calls Tryz.prog 64 #[.agg #[.int .i64 pu, .int .i64 pg, .int .i64 pcu, .int .i64 pcg, .int .i64 m]] w fun e w' => e = .returned (.bool (permB pu pg pcu pcg m)) ∧ Same w w' := by
  have e1 : permB pu pg pcu pcg m = (okN pu && (okN pg && (okN pcu && okN pcg)) && decide (0 ≤ m) && decide (m ≤ 511)) := by simp [permB, areB]
  rw [e1]
  clear e1
  cases h1 : okN pu
  · go_enter Tryz.func64, Tryz.ntmps64
    go_wp2_with (go_at_call 74; refine (user_r _ _).mono ?_; rintro e w' ⟨rfl, rfl⟩)
    go_ret
    refine ⟨rfl, ?_⟩
    repeat (first | (with_reducible exact Gr.refl _ _) | (with_reducible refine Gr.setCell ?_ (.inr (by dsimp only; omega)) _) | (with_reducible refine Gr.alloc ?_ _) | (with_reducible refine Gr.next ?_ (by assumption)))
  cases h2 : okN pg
  · go_enter Tryz.func64, Tryz.ntmps64
    go_wp2_with (go_at_call 74; refine (user_r _ _).mono ?_; rintro e w' ⟨rfl, rfl⟩)
    go_ret
    refine ⟨rfl, ?_⟩
    repeat (first | (with_reducible exact Gr.refl _ _) | (with_reducible refine Gr.setCell ?_ (.inr (by dsimp only; omega)) _) | (with_reducible refine Gr.alloc ?_ _) | (with_reducible refine Gr.next ?_ (by assumption)))
  cases h3 : okN pcu
  · go_enter Tryz.func64, Tryz.ntmps64
    go_wp2_with (go_at_call 74; refine (user_r _ _).mono ?_; rintro e w' ⟨rfl, rfl⟩)
    go_ret
    refine ⟨rfl, ?_⟩
    repeat (first | (with_reducible exact Gr.refl _ _) | (with_reducible refine Gr.setCell ?_ (.inr (by dsimp only; omega)) _) | (with_reducible refine Gr.alloc ?_ _) | (with_reducible refine Gr.next ?_ (by assumption)))
  cases h4 : okN pcg
  · go_enter Tryz.func64, Tryz.ntmps64
    go_wp2_with (go_at_call 74; refine (user_r _ _).mono ?_; rintro e w' ⟨rfl, rfl⟩)
    go_ret
    refine ⟨rfl, ?_⟩
    repeat (first | (with_reducible exact Gr.refl _ _) | (with_reducible refine Gr.setCell ?_ (.inr (by dsimp only; omega)) _) | (with_reducible refine Gr.alloc ?_ _) | (with_reducible refine Gr.next ?_ (by assumption)))
  by_cases h5 : 0 ≤ m
  · go_enter Tryz.func64, Tryz.ntmps64
    go_wp2_with (go_at_call 74; refine (user_r _ _).mono ?_; rintro e w' ⟨rfl, rfl⟩)
    go_ret
    refine ⟨by first | (simp [h5]; done) | (simp [h5]; intros; omega), ?_⟩
    repeat (first | (with_reducible exact Gr.refl _ _) | (with_reducible refine Gr.setCell ?_ (.inr (by dsimp only; omega)) _) | (with_reducible refine Gr.alloc ?_ _) | (with_reducible refine Gr.next ?_ (by assumption)))
  · go_enter Tryz.func64, Tryz.ntmps64
    go_wp2_with (go_at_call 74; refine (user_r _ _).mono ?_; rintro e w' ⟨rfl, rfl⟩)
    go_ret
    refine ⟨by first | (simp [h5]; done) | (simp [h5]; intros; omega), ?_⟩
    repeat (first | (with_reducible exact Gr.refl _ _) | (with_reducible refine Gr.setCell ?_ (.inr (by dsimp only; omega)) _) | (with_reducible refine Gr.alloc ?_ _) | (with_reducible refine Gr.next ?_ (by assumption)))

set_option maxHeartbeats 1000000 in
theorem make_r (u g m : Int) (w : World) : Calls Tryz.prog 52 #[.agg #[.int .i64 u, .int .i64 g], .int .i64 m] w fun e w' => e = .returned (makeV u g m) ∧ Same w w' := by
  unfold makeV
  cases h : permB u g u g m
  · rw [if_neg (by simp)]
    go_enter Tryz.func52, Tryz.ntmps52
    go_wp2_with (go_at_call 64; refine (perm_r _ _ _ _ _ _).mono ?_; rintro e w1 ⟨rfl, hb1⟩; have hz1 := hb1.size; simp only [World.size_alloc, World.size_setCell] at hz1; obtain ⟨hc1, hf1⟩ := hb1.cells)
    refine bodyPost_ret (v := .tuple #[.agg #[.int .i64 0, .int .i64 0, .int .i64 0, .int .i64 0, .int .i64 0], .int .i64 50]) (by simp [results, Tryz.results52, go_sem, hc1]) rfl ⟨rfl, ?_⟩
    repeat (first | (with_reducible exact Gr.refl _ _) | (with_reducible refine Gr.setCell ?_ (.inr (by dsimp only; omega)) _) | (with_reducible refine Gr.alloc ?_ _) | (with_reducible refine Gr.next ?_ (by assumption)))
  · rw [if_pos rfl]
    go_enter Tryz.func52, Tryz.ntmps52
    go_wp2_with (go_at_call 64; refine (perm_r _ _ _ _ _ _).mono ?_; rintro e w1 ⟨rfl, hb1⟩; have hz1 := hb1.size; simp only [World.size_alloc, World.size_setCell] at hz1; obtain ⟨hc1, hf1⟩ := hb1.cells)
    refine bodyPost_ret (v := .tuple #[.agg #[.int .i64 u, .int .i64 g, .int .i64 u, .int .i64 g, .int .i64 m], .int .i64 0]) (by simp [results, Tryz.results52, go_sem, hc1]) rfl ⟨rfl, ?_⟩
    repeat (first | (with_reducible exact Gr.refl _ _) | (with_reducible refine Gr.setCell ?_ (.inr (by dsimp only; omega)) _) | (with_reducible refine Gr.alloc ?_ _) | (with_reducible refine Gr.next ?_ (by assumption)))

set_option maxHeartbeats 1000000 in
theorem owns_r (u g pu pg pcu pcg m : Int) (w : World) : Calls Tryz.prog 57 #[.agg #[.int .i64 u, .int .i64 g], .agg #[.int .i64 pu, .int .i64 pg, .int .i64 pcu, .int .i64 pcg, .int .i64 m]] w fun e w' => e = .returned (.bool (ownsB u g pu pg pcu pcg m)) ∧ Same w w' := by
  have HO := Lib.hid (show ownsB u g pu pg pcu pcg m = (areB [u, g] && permB pu pg pcu pcg m && (u == 0 || u == pu || u == pcu)) from rfl)
  cases h1 : areB [u, g]
  · go_enter Tryz.func57, Tryz.ntmps57
    go_wp2_with (first | (go_at_call 49; refine (right_r _ _ _).mono ?_; rintro e w1 ⟨rfl, hb1⟩; have hz1 := hb1.size; simp only [World.size_alloc, World.size_setCell] at hz1; obtain ⟨hc1, hf1⟩ := hb1.cells) | (go_at_call 64; refine (perm_r _ _ _ _ _ _).mono ?_; rintro e w2 ⟨rfl, hb2'⟩; have hb2 := Gr.next hb1 hb2'; clear hc1 hf1 hb2' hz1 hb1; have hz2 := hb2.size; simp only [World.size_alloc, World.size_setCell] at hz2; obtain ⟨hc2, hf2⟩ := hb2.cells))
    go_ret
    refine ⟨by rw [HO.out]; simp [h1], ?_⟩
    repeat (first | (with_reducible exact Gr.refl _ _) | (with_reducible refine Gr.setCell ?_ (.inr (by dsimp only; omega)) _) | (with_reducible refine Gr.alloc ?_ _) | (with_reducible refine Gr.next ?_ (by assumption)))
  · cases h2 : permB pu pg pcu pcg m
    · go_enter Tryz.func57, Tryz.ntmps57
      go_wp2_with (first | (go_at_call 49; refine (right_r _ _ _).mono ?_; rintro e w1 ⟨rfl, hb1⟩; have hz1 := hb1.size; simp only [World.size_alloc, World.size_setCell] at hz1; obtain ⟨hc1, hf1⟩ := hb1.cells) | (go_at_call 64; refine (perm_r _ _ _ _ _ _).mono ?_; rintro e w2 ⟨rfl, hb2'⟩; have hb2 := Gr.next hb1 hb2'; clear hc1 hf1 hb2' hz1 hb1; have hz2 := hb2.size; simp only [World.size_alloc, World.size_setCell] at hz2; obtain ⟨hc2, hf2⟩ := hb2.cells))
      go_ret
      refine ⟨by rw [HO.out]; simp [h1, h2], ?_⟩
      repeat (first | (with_reducible exact Gr.refl _ _) | (with_reducible refine Gr.setCell ?_ (.inr (by dsimp only; omega)) _) | (with_reducible refine Gr.alloc ?_ _) | (with_reducible refine Gr.next ?_ (by assumption)))
    · go_enter Tryz.func57, Tryz.ntmps57
      go_wp2_with (first | (go_at_call 49; refine (right_r _ _ _).mono ?_; rintro e w1 ⟨rfl, hb1⟩; have hz1 := hb1.size; simp only [World.size_alloc, World.size_setCell] at hz1; obtain ⟨hc1, hf1⟩ := hb1.cells) | (go_at_call 64; refine (perm_r _ _ _ _ _ _).mono ?_; rintro e w2 ⟨rfl, hb2'⟩; have hb2 := Gr.next hb1 hb2'; clear hc1 hf1 hb2' hz1 hb1; have hz2 := hb2.size; simp only [World.size_alloc, World.size_setCell] at hz2; obtain ⟨hc2, hf2⟩ := hb2.cells))
      all_goals
        go_ret
        refine ⟨by rw [HO.out, h1, h2]; first | (simp [show u = 0 from by assumption]; done) | (simp [show ¬ u = 0 from by assumption, show u = pu from by assumption]; done) | simp [show ¬ u = 0 from by assumption, show ¬ u = pu from by assumption], ?_⟩
        repeat (first | (with_reducible exact Gr.refl _ _) | (with_reducible refine Gr.setCell ?_ (.inr (by dsimp only; omega)) _) | (with_reducible refine Gr.alloc ?_ _) | (with_reducible refine Gr.next ?_ (by assumption)))

set_option maxHeartbeats 2000000 in
theorem bits_r (u g pu pg pcu pcg m : Int) (w : World) : Calls Tryz.prog 50 #[.agg #[.int .i64 u, .int .i64 g], .agg #[.int .i64 pu, .int .i64 pg, .int .i64 pcu, .int .i64 pcg, .int .i64 m]] w fun e w' => e = .returned (.int .i64 (bitsOf u g pu pg pcu pcg m)) ∧ Same w w' := by
  unfold bitsOf
  cases h1 : areB [u, g]
  · rw [if_neg (by simp)]
    go_enter Tryz.func50, Tryz.ntmps50
    go_wp2_with (first | (go_at_call 49; refine (right_r _ _ _).mono ?_; rintro e w1 ⟨rfl, hb1⟩; have hz1 := hb1.size; simp only [World.size_alloc, World.size_setCell] at hz1; obtain ⟨hc1, hf1⟩ := hb1.cells) | (go_at_call 64; refine (perm_r _ _ _ _ _ _).mono ?_; rintro e w2 ⟨rfl, hb2'⟩; have hb2 := Gr.next hb1 hb2'; clear hc1 hf1 hb2' hz1 hb1; have hz2 := hb2.size; simp only [World.size_alloc, World.size_setCell] at hz2; obtain ⟨hc2, hf2⟩ := hb2.cells))
    go_ret
    refine ⟨rfl, ?_⟩
    repeat (first | (with_reducible exact Gr.refl _ _) | (with_reducible refine Gr.setCell ?_ (.inr (by dsimp only; omega)) _) | (with_reducible refine Gr.alloc ?_ _) | (with_reducible refine Gr.next ?_ (by assumption)))
  cases h2 : permB pu pg pcu pcg m
  · rw [if_neg (by simp)]
    go_enter Tryz.func50, Tryz.ntmps50
    go_wp2_with (first | (go_at_call 49; refine (right_r _ _ _).mono ?_; rintro e w1 ⟨rfl, hb1⟩; have hz1 := hb1.size; simp only [World.size_alloc, World.size_setCell] at hz1; obtain ⟨hc1, hf1⟩ := hb1.cells) | (go_at_call 64; refine (perm_r _ _ _ _ _ _).mono ?_; rintro e w2 ⟨rfl, hb2'⟩; have hb2 := Gr.next hb1 hb2'; clear hc1 hf1 hb2' hz1 hb1; have hz2 := hb2.size; simp only [World.size_alloc, World.size_setCell] at hz2; obtain ⟨hc2, hf2⟩ := hb2.cells))
    go_ret
    refine ⟨rfl, ?_⟩
    repeat (first | (with_reducible exact Gr.refl _ _) | (with_reducible refine Gr.setCell ?_ (.inr (by dsimp only; omega)) _) | (with_reducible refine Gr.alloc ?_ _) | (with_reducible refine Gr.next ?_ (by assumption)))
  rw [if_pos (by simp)]
  obtain ⟨hm0, hm1⟩ := permB_m h2
  by_cases hu : u = 0
  · rw [if_pos hu]
    subst hu
    go_enter Tryz.func50, Tryz.ntmps50
    go_wp2_with (first | (go_at_call 49; refine (right_r _ _ _).mono ?_; rintro e w1 ⟨rfl, hb1⟩; have hz1 := hb1.size; simp only [World.size_alloc, World.size_setCell] at hz1; obtain ⟨hc1, hf1⟩ := hb1.cells) | (go_at_call 64; refine (perm_r _ _ _ _ _ _).mono ?_; rintro e w2 ⟨rfl, hb2'⟩; have hb2 := Gr.next hb1 hb2'; clear hc1 hf1 hb2' hz1 hb1; have hz2 := hb2.size; simp only [World.size_alloc, World.size_setCell] at hz2; obtain ⟨hc2, hf2⟩ := hb2.cells))
    go_ret
    refine ⟨rfl, ?_⟩
    repeat (first | (with_reducible exact Gr.refl _ _) | (with_reducible refine Gr.setCell ?_ (.inr (by dsimp only; omega)) _) | (with_reducible refine Gr.alloc ?_ _) | (with_reducible refine Gr.next ?_ (by assumption)))
  rw [if_neg hu]
  have hu' : (u == 0) = false := by simp [hu]
  obtain ⟨v, hv⟩ : ∃ v, v = (if u = pu ∨ u = pcu then m / 64 else if g = pg ∨ g = pcg then m / 8 % 8 else m % 8) := ⟨_, rfl⟩
  rw [← hv]
  have HV := Lib.hid hv
  clear hv hu
  cases hA : (u == pu) <;> cases hB : (u == pcu) <;> cases hC : (g == pg) <;> cases hD : (g == pcg)
  all_goals
    go_enter Tryz.func50, Tryz.ntmps50
    go_wp2_with (first | (go_at_call 49; refine (right_r _ _ _).mono ?_; rintro e w1 ⟨rfl, hb1⟩; have hz1 := hb1.size; simp only [World.size_alloc, World.size_setCell] at hz1; obtain ⟨hc1, hf1⟩ := hb1.cells) | (go_at_call 64; refine (perm_r _ _ _ _ _ _).mono ?_; rintro e w2 ⟨rfl, hb2'⟩; have hb2 := Gr.next hb1 hb2'; clear hc1 hf1 hb2' hz1 hb1; have hz2 := hb2.size; simp only [World.size_alloc, World.size_setCell] at hz2; obtain ⟨hc2, hf2⟩ := hb2.cells))
    go_ret
    refine ⟨ret_int ?_, ?_⟩
    · rw [HV.out]
      simp only [beq_iff_eq, beq_eq_false_iff_ne] at hA hB hC hD
      simp only [hA, hB, hC, hD, or_true, true_or, or_self, if_true, if_false, or_false, false_or]
    repeat (first | (with_reducible exact Gr.refl _ _) | (with_reducible refine Gr.setCell ?_ (.inr (by dsimp only; omega)) _) | (with_reducible refine Gr.alloc ?_ _) | (with_reducible refine Gr.next ?_ (by assumption)))
end Go.Proofs
