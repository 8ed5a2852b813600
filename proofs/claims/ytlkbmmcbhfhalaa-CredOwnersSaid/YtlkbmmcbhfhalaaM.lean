/- Plain laws of permissions. -/
import Derived.Test.YtlkbmmcbhfhalaaH
set_option linter.unusedVariables false
set_option linter.unusedSimpArgs false
namespace Go.Proofs
open Go.RowKit

theorem and_small (a b : Nat) (ha : a < 8) (hb : b < 8) : bits .and .i64 (a : Int) (b : Int) = ((a &&& b : Nat) : Int) := i64_and_nat a b (by omega) (by omega)
theorem or_self_and : ∀ a, a < 8 → ∀ b, b < 8 → ∀ w, w < 8 → a &&& w = w → (a ||| b) &&& w = w := by decide +kernel
theorem or_dig (m k : Nat) : (m ||| k) % 8 = (m % 8) ||| (k % 8) := Nat.or_mod_two_pow (n := 3)
theorem or_div (m k j : Nat) : (m ||| k) / 2 ^ j = (m / 2 ^ j) ||| (k / 2 ^ j) := by
  rw [← Nat.shiftRight_eq_div_pow, ← Nat.shiftRight_eq_div_pow, ← Nat.shiftRight_eq_div_pow, Nat.shiftRight_or_distrib]

/-- the bits as a digit -/
theorem bitsOf_dig (u g pu pg pcu pcg m : Int) (h1 : areB [u, g] = true) (h2 : permB pu pg pcu pcg m = true) :
    bitsOf u g pu pg pcu pcg m = if u = 0 then 7 else if u = pu ∨ u = pcu then m / 64 else if g = pg ∨ g = pcg then m / 8 % 8 else m % 8 := by
  simp [bitsOf, h1, h2]
theorem permB_iff (pu pg pcu pcg m : Int) : permB pu pg pcu pcg m = true ↔ areB [pu, pg, pcu, pcg] = true ∧ 0 ≤ m ∧ m ≤ 511 := by
  simp [permB, and_assoc]

theorem allowed_zero (u g pu pg pcu pcg m want : Int) : allowedV u g pu pg pcu pcg m want = 0 ↔ (want = 2 ∨ want = 4 ∨ want = 6) ∧ areB [u, g] = true ∧ permB pu pg pcu pcg m = true ∧ bits .and .i64 (bitsOf u g pu pg pcu pcg m) want = want := by
  unfold allowedV
  by_cases h : (want = 2 ∨ want = 4 ∨ want = 6) ∧ areB [u, g] = true ∧ permB pu pg pcu pcg m = true
  · rw [if_pos h]
    by_cases h3 : bits .and .i64 (bitsOf u g pu pg pcu pcg m) want = want
    · rw [if_pos h3]; exact ⟨fun _ => ⟨h.1, h.2.1, h.2.2, h3⟩, fun _ => rfl⟩
    · rw [if_neg h3]; exact ⟨fun e => by omega, fun e => absurd e.2.2.2 h3⟩
  · rw [if_neg h]; exact ⟨fun e => by omega, fun e => absurd ⟨e.1, e.2.1, e.2.2.1⟩ h⟩

theorem bitsOf_nat (u g pu pg pcu pcg m : Int) (h1 : areB [u, g] = true) (h2 : permB pu pg pcu pcg m = true) : ∃ d : Nat, d < 8 ∧ bitsOf u g pu pg pcu pcg m = d := by
  rw [bitsOf_dig _ _ _ _ _ _ _ h1 h2]
  obtain ⟨h3, h4⟩ := permB_m h2
  refine ⟨(if u = 0 then 7 else if u = pu ∨ u = pcu then m / 64 else if g = pg ∨ g = pcg then m / 8 % 8 else m % 8 : Int).toNat, ?_, ?_⟩ <;> (repeat' split) <;> omega

theorem or_range (m more : Int) (h0 : 0 ≤ m) (h1 : m ≤ 511) (h2 : 0 ≤ more) (h3 : more ≤ 511) : ∃ a b : Nat, m = a ∧ more = b ∧ a < 512 ∧ b < 512 ∧ bits .or .i64 m more = ((a ||| b : Nat) : Int) ∧ (a ||| b) < 512 := by
  obtain ⟨a, rfl⟩ := Int.eq_ofNat_of_zero_le h0
  obtain ⟨b, rfl⟩ := Int.eq_ofNat_of_zero_le h2
  exact ⟨a, b, rfl, rfl, by omega, by omega, i64_or_nat a b (by omega) (by omega), Nat.or_lt_two_pow (n := 9) (by omega) (by omega)⟩

theorem allowed_more (u g pu pg pcu pcg m more want : Int) (h0 : 0 ≤ more) (h1 : more ≤ 511) (h : allowedV u g pu pg pcu pcg m want = 0) :
    allowedV u g pu pg pcu pcg (bits .or .i64 m more) want = 0 := by
  rw [allowed_zero] at h ⊢
  obtain ⟨hw, hr, hp, hb⟩ := h
  obtain ⟨hm0, hm1⟩ := permB_m hp
  obtain ⟨a, b, rfl, rfl, ha, hb', ho, hlt⟩ := or_range m more hm0 hm1 h0 h1
  have hp' : permB pu pg pcu pcg (bits .or .i64 a b) = true := by
    rw [permB_iff] at hp ⊢
    rw [ho]
    exact ⟨hp.1, by omega, by omega⟩
  refine ⟨hw, hr, hp', ?_⟩
  rw [bitsOf_dig _ _ _ _ _ _ _ hr hp] at hb
  rw [bitsOf_dig _ _ _ _ _ _ _ hr hp']
  rw [ho] at hp' ⊢
  obtain ⟨wn, hwn, hw8⟩ : ∃ wn : Nat, want = wn ∧ wn < 8 := by
    rcases hw with h | h | h
    · exact ⟨2, h, by omega⟩
    · exact ⟨4, h, by omega⟩
    · exact ⟨6, h, by omega⟩
  subst hwn
  have step : ∀ x y : Nat, x < 8 → y < 8 → bits .and .i64 (x : Int) (wn : Int) = (wn : Int) → bits .and .i64 ((x ||| y : Nat) : Int) (wn : Int) = (wn : Int) := by
    intro x y hx hy he
    rw [and_small _ _ hx hw8] at he
    rw [and_small _ _ (Nat.or_lt_two_pow (n := 3) hx hy) hw8]
    have := or_self_and x hx y hy wn hw8 (by omega)
    omega
  by_cases hu : u = 0
  · rw [if_pos hu] at hb ⊢; exact hb
  rw [if_neg hu] at hb ⊢
  by_cases h3 : u = pu ∨ u = pcu
  · rw [if_pos h3] at hb ⊢
    have e : (((a ||| b : Nat) : Int) / 64) = ((a / 64 ||| b / 64 : Nat) : Int) := by rw [← or_div a b 6]; omega
    rw [e]
    exact step (a / 64) (b / 64) (by omega) (by omega) (by rw [show ((a / 64 : Nat) : Int) = (a : Int) / 64 from by omega]; exact hb)
  rw [if_neg h3] at hb ⊢
  by_cases h4 : g = pg ∨ g = pcg
  · rw [if_pos h4] at hb ⊢
    have e : (((a ||| b : Nat) : Int) / 8 % 8) = (((a / 8 % 8) ||| (b / 8 % 8) : Nat) : Int) := by
      rw [← or_dig, ← or_div a b 3]; omega
    rw [e]
    exact step (a / 8 % 8) (b / 8 % 8) (by omega) (by omega) (by rw [show ((a / 8 % 8 : Nat) : Int) = (a : Int) / 8 % 8 from by omega]; exact hb)
  rw [if_neg h4] at hb ⊢
  have e : (((a ||| b : Nat) : Int) % 8) = (((a % 8) ||| (b % 8) : Nat) : Int) := by rw [← or_dig]; omega
  rw [e]
  exact step (a % 8) (b % 8) (by omega) (by omega) (by rw [show ((a % 8 : Nat) : Int) = (a : Int) % 8 from by omega]; exact hb)

theorem and_both : ∀ d, d < 8 → (d &&& 6 = 6 ↔ (d &&& 2 = 2 ∧ d &&& 4 = 4)) := by decide +kernel

theorem allowed_both (u g pu pg pcu pcg m : Int) : allowedV u g pu pg pcu pcg m 6 = 0 ↔ allowedV u g pu pg pcu pcg m 2 = 0 ∧ allowedV u g pu pg pcu pcg m 4 = 0 := by
  rw [allowed_zero, allowed_zero, allowed_zero]
  by_cases h1 : areB [u, g] = true
  · by_cases h2 : permB pu pg pcu pcg m = true
    · obtain ⟨d, hd, hb⟩ := bitsOf_nat u g pu pg pcu pcg m h1 h2
      have a6 := and_small d 6 hd (by omega)
      have a2 := and_small d 2 hd (by omega)
      have a4 := and_small d 4 hd (by omega)
      rw [hb]
      have e6 : ((6 : Nat) : Int) = 6 := rfl
      have e2 : ((2 : Nat) : Int) = 2 := rfl
      have e4 : ((4 : Nat) : Int) = 4 := rfl
      rw [e6] at a6
      rw [e2] at a2
      rw [e4] at a4
      rw [a6, a2, a4]
      have := and_both d hd
      constructor
      · rintro ⟨_, _, _, h⟩
        have h' := this.1 (by omega)
        exact ⟨⟨by omega, h1, h2, by omega⟩, ⟨by omega, h1, h2, by omega⟩⟩
      · rintro ⟨⟨_, _, _, h⟩, ⟨_, _, _, h'⟩⟩
        have := this.2 ⟨by omega, by omega⟩
        exact ⟨by omega, h1, h2, by omega⟩
    · simp [h2]
  · simp [h1]

theorem allowed_root (g pu pg pcu pcg m : Int) : allowedV 0 g pu pg pcu pcg m 6 ≠ 51 := by
  unfold allowedV
  split
  · rename_i h
    rw [bitsOf_dig _ _ _ _ _ _ _ h.2.1 h.2.2]
    have : bits .and .i64 7 6 = 6 := by decide +kernel
    simp [this]
  · omega
end Go.Proofs
