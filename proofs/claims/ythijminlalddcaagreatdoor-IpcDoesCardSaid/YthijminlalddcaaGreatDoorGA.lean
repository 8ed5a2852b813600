/- asked, isMade: bits of flags. -/
import Derived.Test.YthijminlalddcaaGreatDoorCS
set_option linter.unusedVariables false
set_option linter.unusedSimpArgs false
namespace Go.Proofs
open Go.RowKit Go.Shelf
attribute [local go_sem] Oper.semAt_some

/-- the bits that a mode asks for -/
def askN (m : Nat) : Nat := (m ||| m / 8 ||| m / 64) % 8
theorem askN_lt (m : Nat) : askN m < 8 := Nat.mod_lt _ (by omega)
theorem asked_any (m : Nat) (hm : m < 512) (w : World) : Calls Tryz.prog 39 #[.int .i64 m] w fun e w' => e = .returned (.int .i64 (askN m : Nat)) ∧ w = w' := by
  have h1 : bits .or .i64 (m : Int) ((m : Int) / 8) = ((m ||| m / 8 : Nat) : Int) := i64_or_nat m (m / 8) (by omega) (by omega)
  have hx : m ||| m / 8 < 2 ^ 9 := Nat.or_lt_two_pow (by omega) (by omega)
  have h2 : bits .or .i64 ((m ||| m / 8 : Nat) : Int) ((m : Int) / 8 / 8) = ((m ||| m / 8 ||| m / 64 : Nat) : Int) := by
    have := i64_or_nat (m ||| m / 8) (m / 64) (by omega) (by omega)
    rw [← this]
    congr 1
    omega
  have hx2 : m ||| m / 8 ||| m / 64 < 2 ^ 9 := Nat.or_lt_two_pow hx (by omega)
  have e : ((askN m : Nat) : Int) = ((m ||| m / 8 ||| m / 64 : Nat) : Int) % 8 := by unfold askN; omega
  rw [e]
  generalize (m ||| m / 8 ||| m / 64) = q2 at *
  generalize (m ||| m / 8) = q1 at *
  clear e
  go_enter Tryz.func39, Tryz.ntmps39
  go_wp2
  go_ret
  exact ⟨rfl, rfl⟩
/-- whether the flag 512 is set -/
def crB (flags : Int) : Bool := decide (flags / 512 % 2 = 1)
theorem and512 (f : Nat) (hf : f < 2048) : f &&& 512 = (if f / 512 % 2 = 1 then 512 else 0) := by
  have h : ∀ f : Fin 2048, f.1 &&& 512 = (if f.1 / 512 % 2 = 1 then 512 else 0) := by decide +kernel
  exact h ⟨f, hf⟩
theorem crB_bits (flags : Int) (h0 : 0 ≤ flags) (h1 : flags ≤ 2047) : (bits .and .i64 flags 512 != 0) = crB flags := by
  obtain ⟨f, rfl⟩ := Int.eq_ofNat_of_zero_le h0
  have h := i64_and_nat f 512 (by omega) (by omega)
  rw [show ((512 : Nat) : Int) = 512 from rfl] at h
  rw [h, and512 f (by omega)]
  unfold crB
  by_cases hc : f / 512 % 2 = 1
  · rw [if_pos hc, decide_eq_true (by omega)]; rfl
  · rw [if_neg hc, decide_eq_false (by omega)]; rfl
theorem isMade_any (key flags : Int) (h0 : 0 ≤ flags) (h1 : flags ≤ 2047) (w : World) : Calls Tryz.prog 41 #[.int .i64 key, .int .i64 flags] w fun e w' => e = .returned (.bool (decide (key = 0) || crB flags)) ∧ w = w' := by
  have hb := crB_bits flags h0 h1
  by_cases hk : key = 0
  · subst hk
    rw [show (decide ((0 : Int) = 0) || crB flags) = true by simp]
    clear hb
    go_enter Tryz.func41, Tryz.ntmps41
    go_wp2
    go_ret
    exact ⟨rfl, rfl⟩
  · have hk' : (key == 0) = false := by simp [hk]
    rw [show (decide (key = 0) || crB flags) = crB flags by simp [hk]]
    cases hc : crB flags
    all_goals
      rw [hc] at hb
      clear hk hc
      go_enter Tryz.func41, Tryz.ntmps41
      go_wp2
      go_ret
      exact ⟨rfl, rfl⟩
end Go.Proofs
