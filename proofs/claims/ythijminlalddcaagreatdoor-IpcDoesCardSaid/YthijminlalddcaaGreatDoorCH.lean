/- The reference's Allowed; Set, both. -/
import Derived.Test.YthijminlalddcaaGreatDoorCG
set_option linter.unusedVariables false
set_option linter.unusedSimpArgs false
namespace Go.Proofs
open Go.RowKit Go.Shelf

set_option maxHeartbeats 1000000 in
theorem allowed_r (u g pu pg pcu pcg m want : Int) (w : World) : Calls Tryz.prog 35 #[.agg #[.int .i64 u, .int .i64 g], .agg #[.int .i64 pu, .int .i64 pg, .int .i64 pcu, .int .i64 pcg, .int .i64 m], .int .i64 want] w fun e w' => e = .returned (.int .i64 (allowedV u g pu pg pcu pcg m want)) ∧ Same w w' := by
  obtain ⟨v, hv⟩ : ∃ v, v = allowedV u g pu pg pcu pcg m want := ⟨_, rfl⟩
  rw [← hv]
  have HV := Lib.hid hv
  clear hv
  cases h1 : areB [u, g]
  · go_enter Tryz.func35, Tryz.ntmps35
    go_wp2_with (first | (go_at_call 49; refine (right_r _ _ _).mono ?_; rintro e w1 ⟨rfl, hb1⟩; have hz1 := hb1.size; simp only [World.size_alloc, World.size_setCell] at hz1; obtain ⟨hc1, hf1⟩ := hb1.cells) | (go_at_call 64; refine (perm_r _ _ _ _ _ _).mono ?_; rintro e w2 ⟨rfl, hb2'⟩; have hb2 := Gr.next hb1 hb2'; clear hc1 hf1 hb2' hz1 hb1; have hz2 := hb2.size; simp only [World.size_alloc, World.size_setCell] at hz2; obtain ⟨hc2, hf2⟩ := hb2.cells))
    go_ret
    refine ⟨ret_int (by rw [HV.out]; simp [allowedV, h1]), ?_⟩
    repeat (first | (with_reducible exact Gr.refl _ _) | (with_reducible refine Gr.setCell ?_ (.inr (by dsimp only; omega)) _) | (with_reducible refine Gr.alloc ?_ _) | (with_reducible refine Gr.next ?_ (by assumption)))
  cases h2 : permB pu pg pcu pcg m
  · go_enter Tryz.func35, Tryz.ntmps35
    go_wp2_with (first | (go_at_call 49; refine (right_r _ _ _).mono ?_; rintro e w1 ⟨rfl, hb1⟩; have hz1 := hb1.size; simp only [World.size_alloc, World.size_setCell] at hz1; obtain ⟨hc1, hf1⟩ := hb1.cells) | (go_at_call 64; refine (perm_r _ _ _ _ _ _).mono ?_; rintro e w2 ⟨rfl, hb2'⟩; have hb2 := Gr.next hb1 hb2'; clear hc1 hf1 hb2' hz1 hb1; have hz2 := hb2.size; simp only [World.size_alloc, World.size_setCell] at hz2; obtain ⟨hc2, hf2⟩ := hb2.cells))
    go_ret
    refine ⟨ret_int (by rw [HV.out]; simp [allowedV, h1, h2]), ?_⟩
    repeat (first | (with_reducible exact Gr.refl _ _) | (with_reducible refine Gr.setCell ?_ (.inr (by dsimp only; omega)) _) | (with_reducible refine Gr.alloc ?_ _) | (with_reducible refine Gr.next ?_ (by assumption)))
  by_cases hw : want = 2 ∨ want = 4 ∨ want = 6
  · by_cases h3 : bits .and .i64 (bitsOf u g pu pg pcu pcg m) want = want
    · have E : v = 0 := by rw [HV.out]; simp [allowedV, h1, h2, hw, h3]
      subst E
      rcases hw with rfl | rfl | rfl
      all_goals
        go_enter Tryz.func35, Tryz.ntmps35
        go_wp2_with (first | (go_at_call 49; refine (right_r _ _ _).mono ?_; rintro e w1 ⟨rfl, hb1⟩; have hz1 := hb1.size; simp only [World.size_alloc, World.size_setCell] at hz1; obtain ⟨hc1, hf1⟩ := hb1.cells) | (go_at_call 64; refine (perm_r _ _ _ _ _ _).mono ?_; rintro e w2 ⟨rfl, hb2'⟩; have hb2 := Gr.next hb1 hb2'; clear hc1 hf1 hb2' hz1 hb1; have hz2 := hb2.size; simp only [World.size_alloc, World.size_setCell] at hz2; obtain ⟨hc2, hf2⟩ := hb2.cells) | (go_at_call 50; refine (bits_r _ _ _ _ _ _ _ _).mono ?_; rintro e w3 ⟨rfl, hb3'⟩; have hb3 := Gr.next hb2 hb3'; clear hc2 hf2 hb3' hz2 hb2; have hz3 := hb3.size; simp only [World.size_alloc, World.size_setCell] at hz3; obtain ⟨hc3, hf3⟩ := hb3.cells))
        go_ret
        refine ⟨rfl, ?_⟩
        repeat (first | (with_reducible exact Gr.refl _ _) | (with_reducible refine Gr.setCell ?_ (.inr (by dsimp only; omega)) _) | (with_reducible refine Gr.alloc ?_ _) | (with_reducible refine Gr.next ?_ (by assumption)))
    · have E : v = 51 := by rw [HV.out]; simp [allowedV, h1, h2, hw, h3]
      subst E
      rcases hw with rfl | rfl | rfl
      all_goals
        go_enter Tryz.func35, Tryz.ntmps35
        go_wp2_with (first | (go_at_call 49; refine (right_r _ _ _).mono ?_; rintro e w1 ⟨rfl, hb1⟩; have hz1 := hb1.size; simp only [World.size_alloc, World.size_setCell] at hz1; obtain ⟨hc1, hf1⟩ := hb1.cells) | (go_at_call 64; refine (perm_r _ _ _ _ _ _).mono ?_; rintro e w2 ⟨rfl, hb2'⟩; have hb2 := Gr.next hb1 hb2'; clear hc1 hf1 hb2' hz1 hb1; have hz2 := hb2.size; simp only [World.size_alloc, World.size_setCell] at hz2; obtain ⟨hc2, hf2⟩ := hb2.cells) | (go_at_call 50; refine (bits_r _ _ _ _ _ _ _ _).mono ?_; rintro e w3 ⟨rfl, hb3'⟩; have hb3 := Gr.next hb2 hb3'; clear hc2 hf2 hb3' hz2 hb2; have hz3 := hb3.size; simp only [World.size_alloc, World.size_setCell] at hz3; obtain ⟨hc3, hf3⟩ := hb3.cells))
        go_ret
        refine ⟨rfl, ?_⟩
        repeat (first | (with_reducible exact Gr.refl _ _) | (with_reducible refine Gr.setCell ?_ (.inr (by dsimp only; omega)) _) | (with_reducible refine Gr.alloc ?_ _) | (with_reducible refine Gr.next ?_ (by assumption)))
  · have E : v = 50 := by rw [HV.out]; simp [allowedV, hw]
    subst E
    have q2 : (want != 2) = true := by simp; omega
    have q4 : (want != 4) = true := by simp; omega
    have q6 : (want != 6) = true := by simp; omega
    clear hw
    go_enter Tryz.func35, Tryz.ntmps35
    go_wp2_with (first | (go_at_call 49; refine (right_r _ _ _).mono ?_; rintro e w1 ⟨rfl, hb1⟩; have hz1 := hb1.size; simp only [World.size_alloc, World.size_setCell] at hz1; obtain ⟨hc1, hf1⟩ := hb1.cells) | (go_at_call 64; refine (perm_r _ _ _ _ _ _).mono ?_; rintro e w2 ⟨rfl, hb2'⟩; have hb2 := Gr.next hb1 hb2'; clear hc1 hf1 hb2' hz1 hb1; have hz2 := hb2.size; simp only [World.size_alloc, World.size_setCell] at hz2; obtain ⟨hc2, hf2⟩ := hb2.cells) | (go_at_call 50; refine (bits_r _ _ _ _ _ _ _ _).mono ?_; rintro e w3 ⟨rfl, hb3'⟩; have hb3 := Gr.next hb2 hb3'; clear hc2 hf2 hb3' hz2 hb2; have hz3 := hb3.size; simp only [World.size_alloc, World.size_setCell] at hz3; obtain ⟨hc3, hf3⟩ := hb3.cells))
    go_ret
    refine ⟨rfl, ?_⟩
    repeat (first | (with_reducible exact Gr.refl _ _) | (with_reducible refine Gr.setCell ?_ (.inr (by dsimp only; omega)) _) | (with_reducible refine Gr.alloc ?_ _) | (with_reducible refine Gr.next ?_ (by assumption)))

set_option maxHeartbeats 1000000 in
theorem set_r (u g pu pg pcu pcg m uid gid mode : Int) (w : World) : Calls Tryz.prog 55 #[.agg #[.int .i64 u, .int .i64 g], .agg #[.int .i64 pu, .int .i64 pg, .int .i64 pcu, .int .i64 pcg, .int .i64 m], .int .i64 uid, .int .i64 gid, .int .i64 mode] w fun e w' => e = .returned (setV u g pu pg pcu pcg m uid gid mode) ∧ Same w w' := by
  unfold setV
  cases h1 : areB [u, g] <;> cases h2 : permB pu pg pcu pcg m <;> cases h3 : permB uid gid pcu pcg mode
  case true.true.true =>
    rw [if_pos (by simp)]
    cases h4 : ownsB u g pu pg pcu pcg m
    · rw [if_neg (by simp)]
      go_enter Tryz.func55, Tryz.ntmps55
      go_wp2_with (first | (go_at_call 49; refine (right_r _ _ _).mono ?_; rintro e w1 ⟨rfl, hb1⟩; have hz1 := hb1.size; simp only [World.size_alloc, World.size_setCell] at hz1; obtain ⟨hc1, hf1⟩ := hb1.cells) | (go_at_call 64; refine (perm_r _ _ _ _ _ _).mono ?_; rintro e w2 ⟨rfl, hb2'⟩; have hb2 := Gr.next hb1 hb2'; clear hc1 hf1 hb2' hz1 hb1; have hz2 := hb2.size; simp only [World.size_alloc, World.size_setCell] at hz2; obtain ⟨hc2, hf2⟩ := hb2.cells) | (go_at_call 64; refine (perm_r _ _ _ _ _ _).mono ?_; rintro e w3 ⟨rfl, hb3'⟩; have hb3 := Gr.next hb2 hb3'; clear hc2 hf2 hb3' hz2 hb2; have hz3 := hb3.size; simp only [World.size_alloc, World.size_setCell] at hz3; obtain ⟨hc3, hf3⟩ := hb3.cells) | (go_at_call 57; refine (owns_r _ _ _ _ _ _ _ _).mono ?_; rintro e w4 ⟨rfl, hb4'⟩; have hb4 := Gr.next hb3 hb4'; clear hc3 hf3 hb4' hz3 hb3; have hz4 := hb4.size; simp only [World.size_alloc, World.size_setCell] at hz4; obtain ⟨hc4, hf4⟩ := hb4.cells))
      refine bodyPost_ret (v := .tuple #[.agg #[.int .i64 0, .int .i64 0, .int .i64 0, .int .i64 0, .int .i64 0], .int .i64 51]) (by simp [results, Tryz.results55, go_sem, hc4]) rfl ⟨rfl, ?_⟩
      repeat (first | (with_reducible exact Gr.refl _ _) | (with_reducible refine Gr.setCell ?_ (.inr (by dsimp only; omega)) _) | (with_reducible refine Gr.alloc ?_ _) | (with_reducible refine Gr.next ?_ (by assumption)))
    · rw [if_pos rfl]
      go_enter Tryz.func55, Tryz.ntmps55
      go_wp2_with (first | (go_at_call 49; refine (right_r _ _ _).mono ?_; rintro e w1 ⟨rfl, hb1⟩; have hz1 := hb1.size; simp only [World.size_alloc, World.size_setCell] at hz1; obtain ⟨hc1, hf1⟩ := hb1.cells) | (go_at_call 64; refine (perm_r _ _ _ _ _ _).mono ?_; rintro e w2 ⟨rfl, hb2'⟩; have hb2 := Gr.next hb1 hb2'; clear hc1 hf1 hb2' hz1 hb1; have hz2 := hb2.size; simp only [World.size_alloc, World.size_setCell] at hz2; obtain ⟨hc2, hf2⟩ := hb2.cells) | (go_at_call 64; refine (perm_r _ _ _ _ _ _).mono ?_; rintro e w3 ⟨rfl, hb3'⟩; have hb3 := Gr.next hb2 hb3'; clear hc2 hf2 hb3' hz2 hb2; have hz3 := hb3.size; simp only [World.size_alloc, World.size_setCell] at hz3; obtain ⟨hc3, hf3⟩ := hb3.cells) | (go_at_call 57; refine (owns_r _ _ _ _ _ _ _ _).mono ?_; rintro e w4 ⟨rfl, hb4'⟩; have hb4 := Gr.next hb3 hb4'; clear hc3 hf3 hb4' hz3 hb3; have hz4 := hb4.size; simp only [World.size_alloc, World.size_setCell] at hz4; obtain ⟨hc4, hf4⟩ := hb4.cells))
      refine bodyPost_ret (v := .tuple #[.agg #[.int .i64 uid, .int .i64 gid, .int .i64 pcu, .int .i64 pcg, .int .i64 mode], .int .i64 0]) (by simp [results, Tryz.results55, go_sem, hc4]) rfl ⟨rfl, ?_⟩
      repeat (first | (with_reducible exact Gr.refl _ _) | (with_reducible refine Gr.setCell ?_ (.inr (by dsimp only; omega)) _) | (with_reducible refine Gr.alloc ?_ _) | (with_reducible refine Gr.next ?_ (by assumption)))
  all_goals
    rw [if_neg (by simp)]
    go_enter Tryz.func55, Tryz.ntmps55
    go_wp2_with (first | (go_at_call 49; refine (right_r _ _ _).mono ?_; rintro e w1 ⟨rfl, hb1⟩; have hz1 := hb1.size; simp only [World.size_alloc, World.size_setCell] at hz1; obtain ⟨hc1, hf1⟩ := hb1.cells) | (go_at_call 64; refine (perm_r _ _ _ _ _ _).mono ?_; rintro e w2 ⟨rfl, hb2'⟩; have hb2 := Gr.next hb1 hb2'; clear hc1 hf1 hb2' hz1 hb1; have hz2 := hb2.size; simp only [World.size_alloc, World.size_setCell] at hz2; obtain ⟨hc2, hf2⟩ := hb2.cells) | (go_at_call 64; refine (perm_r _ _ _ _ _ _).mono ?_; rintro e w3 ⟨rfl, hb3'⟩; have hb3 := Gr.next hb2 hb3'; clear hc2 hf2 hb3' hz2 hb2; have hz3 := hb3.size; simp only [World.size_alloc, World.size_setCell] at hz3; obtain ⟨hc3, hf3⟩ := hb3.cells) | (go_at_call 57; refine (owns_r _ _ _ _ _ _ _ _).mono ?_; rintro e w4 ⟨rfl, hb4'⟩; have hb4 := Gr.next hb3 hb4'; clear hc3 hf3 hb4' hz3 hb3; have hz4 := hb4.size; simp only [World.size_alloc, World.size_setCell] at hz4; obtain ⟨hc4, hf4⟩ := hb4.cells))
    refine bodyPost_ret (v := .tuple #[.agg #[.int .i64 0, .int .i64 0, .int .i64 0, .int .i64 0, .int .i64 0], .int .i64 50]) (by simp [results, Tryz.results55, go_sem, hc3]) rfl ⟨rfl, ?_⟩
    repeat (first | (with_reducible exact Gr.refl _ _) | (with_reducible refine Gr.setCell ?_ (.inr (by dsimp only; omega)) _) | (with_reducible refine Gr.alloc ?_ _) | (with_reducible refine Gr.next ?_ (by assumption)))

end Go.Proofs
