/- CredBits, CredOthers. -/
import Derived.Test.YtlkbmmcbhfhalaaN
set_option linter.unusedVariables false
set_option linter.unusedSimpArgs false
namespace Go.Proofs
open Go.RowKit Go.Shelf

theorem okN_iff (n : Int) : okN n = true ↔ 0 ≤ n ∧ n ≤ 65535 := by unfold okN; simp
theorem areB_two (u g : Int) : areB [u, g] = true ↔ (0 ≤ u ∧ u ≤ 65535) ∧ 0 ≤ g ∧ g ≤ 65535 := by simp [areB, okN_iff]
theorem permB_full (pu pg pcu pcg m : Int) : permB pu pg pcu pcg m = true ↔ ((0 ≤ pu ∧ pu ≤ 65535) ∧ (0 ≤ pg ∧ pg ≤ 65535) ∧ (0 ≤ pcu ∧ pcu ≤ 65535) ∧ 0 ≤ pcg ∧ pcg ≤ 65535) ∧ 0 ≤ m ∧ m ≤ 511 := by
  rw [permB_iff]; simp [areB, okN_iff]

set_option maxHeartbeats 1000000 in
theorem credBits_walk (uid gid other mode : Int) (w : World) : Calls Try.prog 5 #[.int .i64 uid, .int .i64 gid, .int .i64 other, .int .i64 mode] w fun e w' => e = .returned (.bool true) ∧ Below w.heap.size w w' := by
  cases hp : permB uid gid uid gid mode
  · go_enter Try.func5, Try.ntmps5
    go_wp2_with (first | (go_at_call 10; refine (shown_s _).mono ?_; rintro e w1 ⟨rfl, hb1⟩; have hz1 := hb1.size; (try simp only [World.size_alloc, World.size_setCell] at hz1)) | (go_at_call 12; refine (make_no uid gid mode _ hp).mono ?_; rintro e w2 ⟨rfl, hb2⟩; have hz2 := hb2.size; (try simp only [World.size_alloc, World.size_setCell] at hz2)))
    all_goals
      go_ret
      refine ⟨ret_bool (by rfl), Gr.below ?_⟩
      repeat (first | (with_reducible exact Gr.refl _ _) | (with_reducible refine Gr.setCell ?_ (.inr (by dsimp only; omega)) _) | (with_reducible refine Gr.alloc ?_ _) | (with_reducible refine Gr.next ?_ (by assumption)))
  by_cases h1 : uid < 1
  · go_enter Try.func5, Try.ntmps5
    go_wp2_with (first | (go_at_call 10; refine (shown_s _).mono ?_; rintro e w1 ⟨rfl, hb1⟩; have hz1 := hb1.size; (try simp only [World.size_alloc, World.size_setCell] at hz1)) | (go_at_call 12; refine (make_yes uid gid mode _ hp).mono ?_; rintro e w2 ⟨rfl, hb2⟩; have hz2 := hb2.size; (try simp only [World.size_alloc, World.size_setCell] at hz2)))
    all_goals
      go_ret
      refine ⟨ret_bool (by rfl), Gr.below ?_⟩
      repeat (first | (with_reducible exact Gr.refl _ _) | (with_reducible refine Gr.setCell ?_ (.inr (by dsimp only; omega)) _) | (with_reducible refine Gr.alloc ?_ _) | (with_reducible refine Gr.next ?_ (by assumption)))
  by_cases h2 : other < 1
  · go_enter Try.func5, Try.ntmps5
    go_wp2_with (first | (go_at_call 10; refine (shown_s _).mono ?_; rintro e w1 ⟨rfl, hb1⟩; have hz1 := hb1.size; (try simp only [World.size_alloc, World.size_setCell] at hz1)) | (go_at_call 12; refine (make_yes uid gid mode _ hp).mono ?_; rintro e w2 ⟨rfl, hb2⟩; have hz2 := hb2.size; (try simp only [World.size_alloc, World.size_setCell] at hz2)))
    all_goals
      go_ret
      refine ⟨ret_bool (by rfl), Gr.below ?_⟩
      repeat (first | (with_reducible exact Gr.refl _ _) | (with_reducible refine Gr.setCell ?_ (.inr (by dsimp only; omega)) _) | (with_reducible refine Gr.alloc ?_ _) | (with_reducible refine Gr.next ?_ (by assumption)))
  by_cases h3 : 65535 < other
  · go_enter Try.func5, Try.ntmps5
    go_wp2_with (first | (go_at_call 10; refine (shown_s _).mono ?_; rintro e w1 ⟨rfl, hb1⟩; have hz1 := hb1.size; (try simp only [World.size_alloc, World.size_setCell] at hz1)) | (go_at_call 12; refine (make_yes uid gid mode _ hp).mono ?_; rintro e w2 ⟨rfl, hb2⟩; have hz2 := hb2.size; (try simp only [World.size_alloc, World.size_setCell] at hz2)))
    all_goals
      go_ret
      refine ⟨ret_bool (by rfl), Gr.below ?_⟩
      repeat (first | (with_reducible exact Gr.refl _ _) | (with_reducible refine Gr.setCell ?_ (.inr (by dsimp only; omega)) _) | (with_reducible refine Gr.alloc ?_ _) | (with_reducible refine Gr.next ?_ (by assumption)))
  by_cases h4 : other = uid
  · subst h4
    go_enter Try.func5, Try.ntmps5
    go_wp2_with (first | (go_at_call 10; refine (shown_s _).mono ?_; rintro e w1 ⟨rfl, hb1⟩; have hz1 := hb1.size; (try simp only [World.size_alloc, World.size_setCell] at hz1)) | (go_at_call 12; refine (make_yes other gid mode _ hp).mono ?_; rintro e w2 ⟨rfl, hb2⟩; have hz2 := hb2.size; (try simp only [World.size_alloc, World.size_setCell] at hz2)))
    all_goals
      go_ret
      refine ⟨ret_bool (by rfl), Gr.below ?_⟩
      repeat (first | (with_reducible exact Gr.refl _ _) | (with_reducible refine Gr.setCell ?_ (.inr (by dsimp only; omega)) _) | (with_reducible refine Gr.alloc ?_ _) | (with_reducible refine Gr.next ?_ (by assumption)))
  obtain ⟨⟨⟨a1, a2⟩, ⟨a3, a4⟩, _⟩, hm0, hm1⟩ := (permB_full _ _ _ _ _).1 hp
  have r1 : areB [uid, 0] = true := (areB_two _ _).2 ⟨⟨a1, a2⟩, by omega, by omega⟩
  have r2 : areB [other, gid] = true := (areB_two _ _).2 ⟨⟨by omega, by omega⟩, a3, a4⟩
  have b1 : bitsOf uid 0 uid gid uid gid mode = mode / 64 := by rw [bitsOf_dig _ _ _ _ _ _ _ r1 hp, if_neg (by omega), if_pos (.inl rfl)]
  have b2 : bitsOf other gid uid gid uid gid mode = bits .and .i64 (mode / 8) 7 := by
    rw [bitsOf_dig _ _ _ _ _ _ _ r2 hp, if_neg (by omega), if_neg (by omega), if_pos (.inl rfl), bits_and7 _ (by omega) (by omega)]
  have h4' : (other == uid) = false := by simp [h4]
  clear r1 r2 h4
  go_enter Try.func5, Try.ntmps5
  go_wp2_with (first | (go_at_call 10; refine (shown_s _).mono ?_; rintro e w1 ⟨rfl, hb1⟩; have hz1 := hb1.size; (try simp only [World.size_alloc, World.size_setCell] at hz1)) | (go_at_call 12; refine (make_yes uid gid mode _ hp).mono ?_; rintro e w2 ⟨rfl, hb2⟩; have hz2 := hb2.size; (try simp only [World.size_alloc, World.size_setCell] at hz2)) | (go_at_call 13; refine (bits_s _ _ _ _ _ _ _ _).mono ?_; rintro e w3 ⟨rfl, hb3⟩; have hz3 := hb3.size; (try simp only [World.size_alloc, World.size_setCell] at hz3); have hc3_0 := fun o => hb3.cell (p := ⟨w2.heap.size, o, none⟩) (by first | (simp only [World.size_alloc, World.size_setCell]; omega) | (dsimp only; omega)) (fun f => f); have hl3_0 : w2.heap.size < w3.heap.size := (by omega)))
  all_goals
    go_ret
    refine ⟨ret_bool (by rfl), Gr.below ?_⟩
    repeat (first | (with_reducible exact Gr.refl _ _) | (with_reducible refine Gr.setCell ?_ (.inr (by dsimp only; omega)) _) | (with_reducible refine Gr.alloc ?_ _) | (with_reducible refine Gr.next ?_ (by assumption)))

set_option maxHeartbeats 1000000 in
theorem credOthers_walk (uid gid other group mode : Int) (w : World) : Calls Try.prog 6 #[.int .i64 uid, .int .i64 gid, .int .i64 other, .int .i64 group, .int .i64 mode] w fun e w' => e = .returned (.bool true) ∧ Below w.heap.size w w' := by
  cases hp : permB uid gid uid gid mode
  · go_enter Try.func6, Try.ntmps6
    go_wp2_with (first | (go_at_call 10; refine (shown_s _).mono ?_; rintro e w1 ⟨rfl, hb1⟩; have hz1 := hb1.size; (try simp only [World.size_alloc, World.size_setCell] at hz1)) | (go_at_call 12; refine (make_no uid gid mode _ hp).mono ?_; rintro e w2 ⟨rfl, hb2⟩; have hz2 := hb2.size; (try simp only [World.size_alloc, World.size_setCell] at hz2)))
    all_goals
      go_ret
      refine ⟨ret_bool (by rfl), Gr.below ?_⟩
      repeat (first | (with_reducible exact Gr.refl _ _) | (with_reducible refine Gr.setCell ?_ (.inr (by dsimp only; omega)) _) | (with_reducible refine Gr.alloc ?_ _) | (with_reducible refine Gr.next ?_ (by assumption)))
  by_cases h1 : uid = other
  · subst h1
    go_enter Try.func6, Try.ntmps6
    go_wp2_with (first | (go_at_call 10; refine (shown_s _).mono ?_; rintro e w1 ⟨rfl, hb1⟩; have hz1 := hb1.size; (try simp only [World.size_alloc, World.size_setCell] at hz1)) | (go_at_call 12; refine (make_yes uid gid mode _ hp).mono ?_; rintro e w2 ⟨rfl, hb2⟩; have hz2 := hb2.size; (try simp only [World.size_alloc, World.size_setCell] at hz2)))
    all_goals
      go_ret
      refine ⟨ret_bool (by rfl), Gr.below ?_⟩
      repeat (first | (with_reducible exact Gr.refl _ _) | (with_reducible refine Gr.setCell ?_ (.inr (by dsimp only; omega)) _) | (with_reducible refine Gr.alloc ?_ _) | (with_reducible refine Gr.next ?_ (by assumption)))
  have h1' : (uid == other) = false := by simp [h1]
  by_cases h2 : gid = group
  · subst h2
    clear h1
    go_enter Try.func6, Try.ntmps6
    go_wp2_with (first | (go_at_call 10; refine (shown_s _).mono ?_; rintro e w1 ⟨rfl, hb1⟩; have hz1 := hb1.size; (try simp only [World.size_alloc, World.size_setCell] at hz1)) | (go_at_call 12; refine (make_yes uid gid mode _ hp).mono ?_; rintro e w2 ⟨rfl, hb2⟩; have hz2 := hb2.size; (try simp only [World.size_alloc, World.size_setCell] at hz2)))
    all_goals
      go_ret
      refine ⟨ret_bool (by rfl), Gr.below ?_⟩
      repeat (first | (with_reducible exact Gr.refl _ _) | (with_reducible refine Gr.setCell ?_ (.inr (by dsimp only; omega)) _) | (with_reducible refine Gr.alloc ?_ _) | (with_reducible refine Gr.next ?_ (by assumption)))
  have h2' : (gid == group) = false := by simp [h2]
  by_cases h3 : other < 1
  · clear h1 h2
    go_enter Try.func6, Try.ntmps6
    go_wp2_with (first | (go_at_call 10; refine (shown_s _).mono ?_; rintro e w1 ⟨rfl, hb1⟩; have hz1 := hb1.size; (try simp only [World.size_alloc, World.size_setCell] at hz1)) | (go_at_call 12; refine (make_yes uid gid mode _ hp).mono ?_; rintro e w2 ⟨rfl, hb2⟩; have hz2 := hb2.size; (try simp only [World.size_alloc, World.size_setCell] at hz2)))
    all_goals
      go_ret
      refine ⟨ret_bool (by rfl), Gr.below ?_⟩
      repeat (first | (with_reducible exact Gr.refl _ _) | (with_reducible refine Gr.setCell ?_ (.inr (by dsimp only; omega)) _) | (with_reducible refine Gr.alloc ?_ _) | (with_reducible refine Gr.next ?_ (by assumption)))
  by_cases h4 : group < 0
  · clear h1 h2
    go_enter Try.func6, Try.ntmps6
    go_wp2_with (first | (go_at_call 10; refine (shown_s _).mono ?_; rintro e w1 ⟨rfl, hb1⟩; have hz1 := hb1.size; (try simp only [World.size_alloc, World.size_setCell] at hz1)) | (go_at_call 12; refine (make_yes uid gid mode _ hp).mono ?_; rintro e w2 ⟨rfl, hb2⟩; have hz2 := hb2.size; (try simp only [World.size_alloc, World.size_setCell] at hz2)))
    all_goals
      go_ret
      refine ⟨ret_bool (by rfl), Gr.below ?_⟩
      repeat (first | (with_reducible exact Gr.refl _ _) | (with_reducible refine Gr.setCell ?_ (.inr (by dsimp only; omega)) _) | (with_reducible refine Gr.alloc ?_ _) | (with_reducible refine Gr.next ?_ (by assumption)))
  by_cases h5 : 65535 < other
  · clear h1 h2
    go_enter Try.func6, Try.ntmps6
    go_wp2_with (first | (go_at_call 10; refine (shown_s _).mono ?_; rintro e w1 ⟨rfl, hb1⟩; have hz1 := hb1.size; (try simp only [World.size_alloc, World.size_setCell] at hz1)) | (go_at_call 12; refine (make_yes uid gid mode _ hp).mono ?_; rintro e w2 ⟨rfl, hb2⟩; have hz2 := hb2.size; (try simp only [World.size_alloc, World.size_setCell] at hz2)))
    all_goals
      go_ret
      refine ⟨ret_bool (by rfl), Gr.below ?_⟩
      repeat (first | (with_reducible exact Gr.refl _ _) | (with_reducible refine Gr.setCell ?_ (.inr (by dsimp only; omega)) _) | (with_reducible refine Gr.alloc ?_ _) | (with_reducible refine Gr.next ?_ (by assumption)))
  by_cases h6 : 65535 < group
  · clear h1 h2
    go_enter Try.func6, Try.ntmps6
    go_wp2_with (first | (go_at_call 10; refine (shown_s _).mono ?_; rintro e w1 ⟨rfl, hb1⟩; have hz1 := hb1.size; (try simp only [World.size_alloc, World.size_setCell] at hz1)) | (go_at_call 12; refine (make_yes uid gid mode _ hp).mono ?_; rintro e w2 ⟨rfl, hb2⟩; have hz2 := hb2.size; (try simp only [World.size_alloc, World.size_setCell] at hz2)))
    all_goals
      go_ret
      refine ⟨ret_bool (by rfl), Gr.below ?_⟩
      repeat (first | (with_reducible exact Gr.refl _ _) | (with_reducible refine Gr.setCell ?_ (.inr (by dsimp only; omega)) _) | (with_reducible refine Gr.alloc ?_ _) | (with_reducible refine Gr.next ?_ (by assumption)))
  obtain ⟨⟨⟨a1, a2⟩, ⟨a3, a4⟩, _⟩, hm0, hm1⟩ := (permB_full _ _ _ _ _).1 hp
  have r1 : areB [other, group] = true := (areB_two _ _).2 ⟨⟨by omega, by omega⟩, by omega, by omega⟩
  have r2 : areB [0, group] = true := (areB_two _ _).2 ⟨⟨by omega, by omega⟩, by omega, by omega⟩
  have b1 : bitsOf other group uid gid uid gid mode = bits .and .i64 mode 7 := by
    rw [bitsOf_dig _ _ _ _ _ _ _ r1 hp, if_neg (by omega), if_neg (by omega), if_neg (by omega), bits_and7 _ (by omega) (by omega)]
  have b2 : bitsOf 0 group uid gid uid gid mode = 7 := by rw [bitsOf_dig _ _ _ _ _ _ _ r2 hp, if_pos rfl]
  clear r1 r2 h1 h2
  go_enter Try.func6, Try.ntmps6
  go_wp2_with (first | (go_at_call 10; refine (shown_s _).mono ?_; rintro e w1 ⟨rfl, hb1⟩; have hz1 := hb1.size; (try simp only [World.size_alloc, World.size_setCell] at hz1)) | (go_at_call 12; refine (make_yes uid gid mode _ hp).mono ?_; rintro e w2 ⟨rfl, hb2⟩; have hz2 := hb2.size; (try simp only [World.size_alloc, World.size_setCell] at hz2)) | (go_at_call 13; refine (bits_s _ _ _ _ _ _ _ _).mono ?_; rintro e w3 ⟨rfl, hb3⟩; have hz3 := hb3.size; (try simp only [World.size_alloc, World.size_setCell] at hz3); have hc3_0 := fun o => hb3.cell (p := ⟨w2.heap.size, o, none⟩) (by first | (simp only [World.size_alloc, World.size_setCell]; omega) | (dsimp only; omega)) (fun f => f); have hl3_0 : w2.heap.size < w3.heap.size := (by omega)))
  all_goals
    go_ret
    refine ⟨ret_bool (by rfl), Gr.below ?_⟩
    repeat (first | (with_reducible exact Gr.refl _ _) | (with_reducible refine Gr.setCell ?_ (.inr (by dsimp only; omega)) _) | (with_reducible refine Gr.alloc ?_ _) | (with_reducible refine Gr.next ?_ (by assumption)))
end Go.Proofs
