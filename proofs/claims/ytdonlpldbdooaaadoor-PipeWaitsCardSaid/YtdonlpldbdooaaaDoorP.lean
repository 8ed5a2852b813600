/- Ring, the plain law: where bytes lie, and what is put and got. -/
import Derived.Lib.BufferWrite
import Derived.Laws.CopyOwn
set_option linter.unusedVariables false
set_option linter.unusedSimpArgs false
namespace Go.Proofs
open Go.RowKit

/-- xs laid over hs from place o on. -/
def lay (hs : List UInt8) (o : Nat) (xs : List UInt8) : List UInt8 := hs.take o ++ (xs ++ hs.drop (o + xs.length))
theorem lay_len {hs xs : List UInt8} {o : Nat} (h : o + xs.length ≤ hs.length) : (lay hs o xs).length = hs.length := by
  unfold lay; simp; omega
theorem lay_get {hs xs : List UInt8} {o : Nat} (h : o + xs.length ≤ hs.length) (j : Nat) : (lay hs o xs)[j]? = if o ≤ j ∧ j < o + xs.length then xs[j - o]? else hs[j]? := by
  unfold lay
  by_cases h1 : j < o
  · rw [List.getElem?_append_left (by simp; omega), if_neg (by omega), List.getElem?_take_of_lt h1]
  · rw [List.getElem?_append_right (by simp; omega), List.length_take, Nat.min_eq_left (by omega)]
    by_cases h2 : j < o + xs.length
    · rw [List.getElem?_append_left (by omega), if_pos (by omega)]
    · rw [List.getElem?_append_right (by omega), if_neg (by omega), List.getElem?_drop]
      congr 1; omega

theorem mod2 {a sz : Nat} (h : a < 2 * sz) : a % sz = if a < sz then a else a - sz := by
  split
  · exact Nat.mod_eq_of_lt (by assumption)
  · rw [Nat.mod_eq_sub_mod (by omega), Nat.mod_eq_of_lt (by omega)]

/-- hs are the 64 bytes of a ring of size sz, whose first byte is at f; it holds L. -/
structure RInv (hs : List UInt8) (sz f : Nat) (L : List UInt8) : Prop where
  len : hs.length = 64
  s1 : 1 ≤ sz
  s2 : sz ≤ 64
  hf : f < sz
  hn : L.length ≤ sz
  at_ : ∀ i, i < L.length → hs[(f + i) % sz]? = L[i]?

variable {hs L : List UInt8} {sz f : Nat}

theorem RInv.new (h1 : 1 ≤ sz) (h2 : sz ≤ 64) (h : hs.length = 64) : RInv hs sz 0 [] := ⟨h, h1, h2, by omega, by simp, fun i hi => by simp at hi⟩

/-- All bytes: the two parts. -/
theorem RInv.bytes (h : RInv hs sz f L) : (hs.drop f).take (min L.length (sz - f)) ++ hs.take (L.length - min L.length (sz - f)) = L := by
  obtain ⟨hl, s1, s2, hf, hn, hat⟩ := h
  apply List.ext_getElem?
  intro i
  by_cases hi : i < L.length
  · rw [← hat i hi, mod2 (by omega)]
    by_cases hk : i < sz - f
    · rw [List.getElem?_append_left (by simp; omega), List.getElem?_take_of_lt (by omega), List.getElem?_drop, if_pos (by omega)]
    · rw [List.getElem?_append_right (by simp; omega), if_neg (by omega)]
      have e : ((hs.drop f).take (min L.length (sz - f))).length = sz - f := by simp; omega
      rw [e, List.getElem?_take_of_lt (by omega)]
      congr 1; omega
  · rw [List.getElem?_eq_none (by simp; omega), List.getElem?_eq_none (by omega)]

/-- Put: s, all of which there is room for. -/
theorem RInv.put (h : RInv hs sz f L) (s : List UInt8) (hs' : L.length + s.length ≤ sz) :
    RInv (lay (lay hs ((f + L.length) % sz) (s.take (min s.length (sz - (f + L.length) % sz)))) 0 (s.drop (min s.length (sz - (f + L.length) % sz)))) sz f (L ++ s) := by
  obtain ⟨hl, s1, s2, hf, hn, hat⟩ := h
  generalize ha : (f + L.length) % sz = a
  have ha' := ha
  rw [mod2 (by omega)] at ha'
  have hasz : a < sz := by rw [← ha]; exact Nat.mod_lt _ (by omega)
  generalize hk : min s.length (sz - a) = k
  have hkl : (s.take k).length = k := by simp; omega
  have hdl : (s.drop k).length = s.length - k := by simp
  have hle : a + (s.take k).length ≤ hs.length := by omega
  have hl2 := lay_len hle
  have hle2 : 0 + (s.drop k).length ≤ (lay hs a (s.take k)).length := by omega
  refine ⟨by rw [lay_len hle2, hl2, hl], s1, s2, hf, by simp; omega, fun i hi => ?_⟩
  simp at hi
  rw [lay_get hle2, lay_get hle, hkl, hdl, mod2 (by omega)]
  by_cases h1 : i < L.length
  · rw [List.getElem?_append_left h1, ← hat i h1, mod2 (by omega)]
    split at ha' <;> (split <;> (rw [if_neg (by omega), if_neg (by omega)]))
  · rw [List.getElem?_append_right (by omega)]
    by_cases h2 : i - L.length < k
    · split at ha' <;> split
      all_goals first
        | omega
        | (rw [if_neg (by omega), if_pos (by omega), List.getElem?_take_of_lt (by omega)]; congr 1; omega)
    · split at ha' <;> split
      all_goals first
        | omega
        | (rw [if_pos (by omega), List.getElem?_drop]; congr 1; omega)

/-- Get: the first m bytes. -/
theorem RInv.get (h : RInv hs sz f L) (m : Nat) (hm : m ≤ L.length) : RInv hs sz ((f + m) % sz) (L.drop m) := by
  obtain ⟨hl, s1, s2, hf, hn, hat⟩ := h
  refine ⟨hl, s1, s2, Nat.mod_lt _ (by omega), by simp; omega, fun i hi => ?_⟩
  simp at hi
  rw [Nat.mod_add_mod, List.getElem?_drop, ← hat (m + i) (by omega), Nat.add_assoc]
end Go.Proofs
