/- cred: Set. -/
import Derived.Test.YthijminlalddcaaGreatDoorCF
set_option linter.unusedVariables false
set_option linter.unusedSimpArgs false
namespace Go.Proofs
open Go.RowKit Go.Shelf
theorem World.size_setCell (w : World) (a : Addr) (v : Value) : (w.setCell a v).heap.size = w.heap.size := by simp [World.setCell]

theorem ret_int {k : IntKind} {a b : Int} (h : a = b) : Ending.returned (.int k a) = .returned (.int k b) := by rw [h]

def setV (u g pu pg pcu pcg m uid gid mode : Int) : Value :=
  if areB [u, g] = true ∧ permB pu pg pcu pcg m = true ∧ permB uid gid pcu pcg mode = true then
    (if ownsB u g pu pg pcu pcg m = true then .tuple #[.agg #[.int .i64 uid, .int .i64 gid, .int .i64 pcu, .int .i64 pcg, .int .i64 mode], .int .i64 0] else .tuple #[.agg #[.int .i64 0, .int .i64 0, .int .i64 0, .int .i64 0, .int .i64 0], .int .i64 51])
  else .tuple #[.agg #[.int .i64 0, .int .i64 0, .int .i64 0, .int .i64 0, .int .i64 0], .int .i64 50]

set_option maxHeartbeats 1000000 in
theorem set_s (u g pu pg pcu pcg m uid gid mode : Int) (w : World) : Calls Tryz.prog 54 #[.agg #[.int .i64 u, .int .i64 g], .agg #[.int .i64 pu, .int .i64 pg, .int .i64 pcu, .int .i64 pcg, .int .i64 m], .int .i64 uid, .int .i64 gid, .int .i64 mode] w fun e w' => e = .returned (setV u g pu pg pcu pcg m uid gid mode) ∧ Same w w' := by
  unfold setV
  cases h1 : areB [u, g] <;> cases h2 : permB pu pg pcu pcg m <;> cases h3 : permB uid gid pcu pcg mode
  case true.true.true =>
    rw [if_pos (by simp)]
    cases h4 : ownsB u g pu pg pcu pcg m
    · rw [if_neg (by simp)]
      go_enter Tryz.func54, Tryz.ntmps54
      go_wp2_with (first | (go_at_call 37; refine (right_s _ _ _).mono ?_; rintro e w1 ⟨rfl, hb1⟩; have hz1 := hb1.size; simp only [World.size_alloc, World.size_setCell] at hz1; obtain ⟨hc1, hf1⟩ := hb1.cells) | (go_at_call 61; refine (perm_s _ _ _ _ _ _).mono ?_; rintro e w2 ⟨rfl, hb2'⟩; have hb2 := Gr.next hb1 hb2'; clear hc1 hf1 hb2' hz1 hb1; have hz2 := hb2.size; simp only [World.size_alloc, World.size_setCell] at hz2; obtain ⟨hc2, hf2⟩ := hb2.cells) | (go_at_call 61; refine (perm_s _ _ _ _ _ _).mono ?_; rintro e w3 ⟨rfl, hb3'⟩; have hb3 := Gr.next hb2 hb3'; clear hc2 hf2 hb3' hz2 hb2; have hz3 := hb3.size; simp only [World.size_alloc, World.size_setCell] at hz3; obtain ⟨hc3, hf3⟩ := hb3.cells) | (go_at_call 45; refine (owns_s _ _ _ _ _ _ _ _).mono ?_; rintro e w4 ⟨rfl, hb4'⟩; have hb4 := Gr.next hb3 hb4'; clear hc3 hf3 hb4' hz3 hb3; have hz4 := hb4.size; simp only [World.size_alloc, World.size_setCell] at hz4; obtain ⟨hc4, hf4⟩ := hb4.cells) | (go_at_call 45; refine (owns_s _ _ _ _ _ _ _ _).mono ?_; rintro e w5 ⟨rfl, hb5'⟩; have hb5 := Gr.next hb4 hb5'; clear hc4 hf4 hb5' hz4 hb4; have hz5 := hb5.size; simp only [World.size_alloc, World.size_setCell] at hz5; obtain ⟨hc5, hf5⟩ := hb5.cells))
      all_goals
        (try (have e : uid = pu := by assumption
              subst e))
        (try (have e : gid = pg := by assumption
              subst e))
        (try (have e : mode = m := by assumption
              subst e))
        refine bodyPost_ret (v := .tuple #[.agg #[.int .i64 0, .int .i64 0, .int .i64 0, .int .i64 0, .int .i64 0], .int .i64 51]) (by first | (simp [results, Tryz.results54, go_sem, hc4]; done) | simp [results, Tryz.results54, go_sem, hc5]) rfl ⟨rfl, ?_⟩
        repeat (first | (with_reducible exact Gr.refl _ _) | (with_reducible refine Gr.setCell ?_ (.inr (by dsimp only; omega)) _) | (with_reducible refine Gr.alloc ?_ _) | (with_reducible refine Gr.next ?_ (by assumption)))
    · rw [if_pos rfl]
      go_enter Tryz.func54, Tryz.ntmps54
      go_wp2_with (first | (go_at_call 37; refine (right_s _ _ _).mono ?_; rintro e w1 ⟨rfl, hb1⟩; have hz1 := hb1.size; simp only [World.size_alloc, World.size_setCell] at hz1; obtain ⟨hc1, hf1⟩ := hb1.cells) | (go_at_call 61; refine (perm_s _ _ _ _ _ _).mono ?_; rintro e w2 ⟨rfl, hb2'⟩; have hb2 := Gr.next hb1 hb2'; clear hc1 hf1 hb2' hz1 hb1; have hz2 := hb2.size; simp only [World.size_alloc, World.size_setCell] at hz2; obtain ⟨hc2, hf2⟩ := hb2.cells) | (go_at_call 61; refine (perm_s _ _ _ _ _ _).mono ?_; rintro e w3 ⟨rfl, hb3'⟩; have hb3 := Gr.next hb2 hb3'; clear hc2 hf2 hb3' hz2 hb2; have hz3 := hb3.size; simp only [World.size_alloc, World.size_setCell] at hz3; obtain ⟨hc3, hf3⟩ := hb3.cells) | (go_at_call 45; refine (owns_s _ _ _ _ _ _ _ _).mono ?_; rintro e w4 ⟨rfl, hb4'⟩; have hb4 := Gr.next hb3 hb4'; clear hc3 hf3 hb4' hz3 hb3; have hz4 := hb4.size; simp only [World.size_alloc, World.size_setCell] at hz4; obtain ⟨hc4, hf4⟩ := hb4.cells) | (go_at_call 45; refine (owns_s _ _ _ _ _ _ _ _).mono ?_; rintro e w5 ⟨rfl, hb5'⟩; have hb5 := Gr.next hb4 hb5'; clear hc4 hf4 hb5' hz4 hb4; have hz5 := hb5.size; simp only [World.size_alloc, World.size_setCell] at hz5; obtain ⟨hc5, hf5⟩ := hb5.cells))
      all_goals
        (try (have e : uid = pu := by assumption
              subst e))
        (try (have e : gid = pg := by assumption
              subst e))
        (try (have e : mode = m := by assumption
              subst e))
        refine bodyPost_ret (v := .tuple #[.agg #[.int .i64 uid, .int .i64 gid, .int .i64 pcu, .int .i64 pcg, .int .i64 mode], .int .i64 0]) (by first | (simp [results, Tryz.results54, go_sem, hc4]; done) | simp [results, Tryz.results54, go_sem, hc5]) rfl ⟨rfl, ?_⟩
        repeat (first | (with_reducible exact Gr.refl _ _) | (with_reducible refine Gr.setCell ?_ (.inr (by dsimp only; omega)) _) | (with_reducible refine Gr.alloc ?_ _) | (with_reducible refine Gr.next ?_ (by assumption)))
  all_goals
    rw [if_neg (by simp)]
    go_enter Tryz.func54, Tryz.ntmps54
    go_wp2_with (first | (go_at_call 37; refine (right_s _ _ _).mono ?_; rintro e w1 ⟨rfl, hb1⟩; have hz1 := hb1.size; simp only [World.size_alloc, World.size_setCell] at hz1; obtain ⟨hc1, hf1⟩ := hb1.cells) | (go_at_call 61; refine (perm_s _ _ _ _ _ _).mono ?_; rintro e w2 ⟨rfl, hb2'⟩; have hb2 := Gr.next hb1 hb2'; clear hc1 hf1 hb2' hz1 hb1; have hz2 := hb2.size; simp only [World.size_alloc, World.size_setCell] at hz2; obtain ⟨hc2, hf2⟩ := hb2.cells) | (go_at_call 61; refine (perm_s _ _ _ _ _ _).mono ?_; rintro e w3 ⟨rfl, hb3'⟩; have hb3 := Gr.next hb2 hb3'; clear hc2 hf2 hb3' hz2 hb2; have hz3 := hb3.size; simp only [World.size_alloc, World.size_setCell] at hz3; obtain ⟨hc3, hf3⟩ := hb3.cells) | (go_at_call 45; refine (owns_s _ _ _ _ _ _ _ _).mono ?_; rintro e w4 ⟨rfl, hb4'⟩; have hb4 := Gr.next hb3 hb4'; clear hc3 hf3 hb4' hz3 hb3; have hz4 := hb4.size; simp only [World.size_alloc, World.size_setCell] at hz4; obtain ⟨hc4, hf4⟩ := hb4.cells) | (go_at_call 45; refine (owns_s _ _ _ _ _ _ _ _).mono ?_; rintro e w5 ⟨rfl, hb5'⟩; have hb5 := Gr.next hb4 hb5'; clear hc4 hf4 hb5' hz4 hb4; have hz5 := hb5.size; simp only [World.size_alloc, World.size_setCell] at hz5; obtain ⟨hc5, hf5⟩ := hb5.cells))
    refine bodyPost_ret (v := .tuple #[.agg #[.int .i64 0, .int .i64 0, .int .i64 0, .int .i64 0, .int .i64 0], .int .i64 50]) (by first | (simp [results, Tryz.results54, go_sem, hc1]; done) | (simp [results, Tryz.results54, go_sem, hc2]; done) | simp [results, Tryz.results54, go_sem, hc3]) rfl ⟨rfl, ?_⟩
    repeat (first | (with_reducible exact Gr.refl _ _) | (with_reducible refine Gr.setCell ?_ (.inr (by dsimp only; omega)) _) | (with_reducible refine Gr.alloc ?_ _) | (with_reducible refine Gr.next ?_ (by assumption)))
end Go.Proofs
