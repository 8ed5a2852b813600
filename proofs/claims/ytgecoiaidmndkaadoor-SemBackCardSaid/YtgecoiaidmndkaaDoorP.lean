/- Semaphores, the plain law: operations done one behind the other. -/
import Derived.Test.YtgecoiaidmndkaaDoorD
set_option linter.unusedVariables false
set_option linter.unusedSimpArgs false
namespace Go.Proofs
open Go.RowKit Go.Shelf

/-- The value of which operation i is, of values s. -/
def at_ (Nm : Nat → Int) (s : List Int) (i : Nat) : Int := s[(Nm i).toNat]?.getD 0
/-- The values behind i operations. -/
def stp (Nm Dl Fl : Nat → Int) (xs : List Int) : Nat → List Int
  | 0 => xs
  | i + 1 => if erk (at_ Nm (stp Nm Dl Fl xs i) i) (Dl i) (Fl i) = 0 then (stp Nm Dl Fl xs i).set (Nm i).toNat (at_ Nm (stp Nm Dl Fl xs i) i + Dl i) else stp Nm Dl Fl xs i
/-- What is wrong with operation i. -/
def er (Nm Dl Fl : Nat → Int) (xs : List Int) (i : Nat) : Nat := erk (at_ Nm (stp Nm Dl Fl xs i) i) (Dl i) (Fl i)

variable {Nm Dl Fl : Nat → Int} {xs : List Int}
theorem stp_zero : stp Nm Dl Fl xs 0 = xs := rfl
theorem stp_ok {i : Nat} (h : er Nm Dl Fl xs i = 0) : stp Nm Dl Fl xs (i + 1) = (stp Nm Dl Fl xs i).set (Nm i).toNat (at_ Nm (stp Nm Dl Fl xs i) i + Dl i) := by
  show (if er Nm Dl Fl xs i = 0 then _ else _) = _
  rw [if_pos h]
theorem stp_no {i : Nat} (h : er Nm Dl Fl xs i ≠ 0) : stp Nm Dl Fl xs (i + 1) = stp Nm Dl Fl xs i := by
  show (if er Nm Dl Fl xs i = 0 then _ else _) = _
  rw [if_neg h]
theorem stp_len (i : Nat) : (stp Nm Dl Fl xs i).length = xs.length := by
  induction i with
  | zero => rfl
  | succ i ih =>
    by_cases h : er Nm Dl Fl xs i = 0
    · rw [stp_ok h, List.length_set, ih]
    · rw [stp_no h, ih]
theorem erk_le (v d fl : Int) : erk v d fl ≤ 3 := by unfold erk; repeat' split <;> try omega
theorem erk_zero {v d fl : Int} (h0 : 0 ≤ v) (h1 : v ≤ 32767) (h : erk v d fl = 0) : 0 ≤ v + d ∧ v + d ≤ 32767 := by
  unfold erk at h
  split at h
  · omega
  · split at h
    · split at h <;> omega
    · rename_i h2 h3
      unfold mw at h3
      split at h3
      · simp at h3; omega
      · split at h3
        · simp at h3; omega
        · omega
theorem areB_get {s : List Int} (h : areB s = true) (j : Nat) : 0 ≤ s[j]?.getD 0 ∧ s[j]?.getD 0 ≤ 32767 := by
  rcases Nat.lt_or_ge j s.length with hj | hj
  · rw [List.getElem?_eq_getElem hj]
    exact okN_iff.1 (List.all_eq_true.1 h _ (List.getElem_mem hj))
  · rw [List.getElem?_eq_none hj]; simp
theorem stp_are (h : areB xs = true) (i : Nat) : areB (stp Nm Dl Fl xs i) = true := by
  induction i with
  | zero => exact h
  | succ i ih =>
    by_cases he : er Nm Dl Fl xs i = 0
    · rw [stp_ok he]
      obtain ⟨a, b⟩ := areB_get ih (Nm i).toNat
      have hz := erk_zero a b he
      unfold areB
      rw [List.all_eq_true]
      intro x hx
      rcases List.mem_or_eq_of_mem_set hx with hx | hx
      · exact List.all_eq_true.1 ih x hx
      · subst hx; exact okN_iff.2 hz
    · rw [stp_no he]; exact ih
end Go.Proofs
