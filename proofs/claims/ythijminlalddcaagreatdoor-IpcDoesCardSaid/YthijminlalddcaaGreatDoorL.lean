/- Arguments that are lists of structs: opened, cell by cell. -/
import Derived.Test.YthijminlalddcaaGreatDoorK
set_option linter.unusedVariables false
set_option linter.unusedSimpArgs false
namespace Go.Proofs
open Go.RowKit Go.WideShapes Go.ChangeShapes Go.Joins Go.Deep

def strOf : Value → ByteArray | .string s => s | _ => ⟨#[]⟩
def toB : Value → Bool | .bool b => b | _ => false

section
variable {H : Type} {enc : TypeId × Value → H} {P : Program} {w : World} {base : Nat} {spare : Nat → Bool} {held : Bool}

theorem open_slice_flat {r : Reach} {b0 : Nat} {t e : TypeId} {fs : Array Field} {v : Value} {d : DataW H} {p : List MemPlace} (ht : P.underlying t = some (.slice e)) (he : P.underlying e = some (.struct fs))
    (hone : oneCellFields P fs = true) (hC : P.cellsOf e = fs.size) (hpos : 0 < fs.size) (hv : Value.okWide P w r b0 t v) (h : DataW.Trod enc P w base spare held t v d p) :
    ∃ (A : Option Addr) (len cap n : Nat) (V : Nat → Nat → Value), v = .slice A len cap ∧ len ≤ maxLen ∧ (0 < len → ∃ g off, A = some ⟨g, off, none⟩ ∧ g < w.heap.size ∧
      ∀ i, i < len → ∀ (j : Nat) (f : Field), fs[j]? = some f → w.cell? ⟨g, off + i * fs.size + j, none⟩ = some (V i j) ∧ ∃ y, DataW.trod enc P w base spare held n f.type [V i j] = some y) := by
  obtain ⟨A, len, cap, rfl⟩ := okWide_slice ht hv
  obtain ⟨fuel, hf⟩ := h
  rcases open_slice ht hf with ⟨h0, _⟩ | ⟨a, len', cap', m, n, D, Pl, h0, hb, hl, hm, hmm, _, hx⟩
  · simp [Value.cells] at h0
    obtain ⟨rfl, rfl, rfl⟩ := h0
    exact ⟨none, 0, 0, 0, fun _ _ => undef, rfl, by omega, fun h => by omega⟩
  · simp [Value.cells] at h0
    obtain ⟨rfl, rfl, rfl⟩ := h0
    have hlm : len ≤ m := by rw [hmm]; split <;> omega
    have each : ∀ i, i < m → ∃ cs : List Value, ∀ (j : Nat) (f : Field), fs[j]? = some f → w.cell? ((a.add (i * fs.size)).add j) = some (cs.getD j undef) ∧ ∃ y, DataW.trod enc P w base spare held (n - 1) f.type [cs.getD j undef] = some y := by
      intro i hi
      obtain ⟨cs, h1, h2⟩ := hx i hi
      rw [hC] at h1
      obtain ⟨_, hlen, hcell⟩ := World.cells?_some h1
      obtain ⟨xs, k, hk, hxy, _, hxl, hg⟩ := DataW.trod_struct he h2
      have hk' : k = n - 1 := by omega
      subst hk'
      refine ⟨cs, fun j f hj => ?_⟩
      have hlt : j < fs.size := (Array.getElem?_eq_some_iff.1 hj).1
      obtain ⟨o0, c0⟩ := hone_of hone j f hj
      have g0 := hg j f hj
      rw [o0, c0, take1_drop cs j undef (by omega)] at g0
      have e0 := hcell j hlt
      rw [List.getElem?_eq_getElem (by omega)] at e0 g0
      refine ⟨?_, _, g0⟩
      rw [e0]
      simp [List.getD, List.getElem?_eq_getElem (show j < cs.length by omega)]
    obtain ⟨q, hq⟩ := choose_lt each
    refine ⟨some a, len, cap, n - 1, fun i j => (q i).getD j undef, rfl, by omega, fun hn => ?_⟩
    obtain ⟨f0, hf0⟩ : ∃ f0, fs[0]? = some f0 := ⟨fs[0], Array.getElem?_eq_getElem hpos⟩
    have c0 := (hq 0 (by omega) 0 f0 hf0).1
    obtain ⟨g, off, spot⟩ := a
    have hspot : spot = none := by simpa [Addr.add] using World.cell?_spot c0
    subst hspot
    have hlt : g < w.heap.size := by
      have := World.block_lt_of_cell? _ _ c0
      rwa [add_plain, add_plain] at this
    refine ⟨g, off, rfl, hlt, fun i hi j f hj => ?_⟩
    have := hq i (by omega) j f hj
    rwa [add_plain, add_plain] at this

/-- As open_slice_flat, with the capacity. -/
theorem open_slice_flat2 {r : Reach} {b0 : Nat} {t e : TypeId} {fs : Array Field} {v : Value} {d : DataW H} {p : List MemPlace} (ht : P.underlying t = some (.slice e)) (he : P.underlying e = some (.struct fs))
    (hone : oneCellFields P fs = true) (hC : P.cellsOf e = fs.size) (hpos : 0 < fs.size) (hv : Value.okWide P w r b0 t v) (h : DataW.Trod enc P w base spare held t v d p) :
    ∃ (A : Option Addr) (len cap n : Nat) (V : Nat → Nat → Value), v = .slice A len cap ∧ len ≤ cap ∧ cap ≤ maxLen ∧ (0 < len → ∃ g off, A = some ⟨g, off, none⟩ ∧ g < w.heap.size ∧
      ∀ i, i < len → ∀ (j : Nat) (f : Field), fs[j]? = some f → w.cell? ⟨g, off + i * fs.size + j, none⟩ = some (V i j) ∧ ∃ y, DataW.trod enc P w base spare held n f.type [V i j] = some y) := by
  obtain ⟨A, len, cap, rfl⟩ := okWide_slice ht hv
  obtain ⟨fuel, hf⟩ := h
  rcases open_slice ht hf with ⟨h0, _⟩ | ⟨a, len', cap', m, n, D, Pl, h0, hb, hl, hm, hmm, _, hx⟩
  · simp [Value.cells] at h0
    obtain ⟨rfl, rfl, rfl⟩ := h0
    exact ⟨none, 0, 0, 0, fun _ _ => undef, rfl, by omega, by unfold maxLen; omega, fun h => by omega⟩
  · simp [Value.cells] at h0
    obtain ⟨rfl, rfl, rfl⟩ := h0
    have hlm : len ≤ m := by rw [hmm]; split <;> omega
    have each : ∀ i, i < m → ∃ cs : List Value, ∀ (j : Nat) (f : Field), fs[j]? = some f → w.cell? ((a.add (i * fs.size)).add j) = some (cs.getD j undef) ∧ ∃ y, DataW.trod enc P w base spare held (n - 1) f.type [cs.getD j undef] = some y := by
      intro i hi
      obtain ⟨cs, h1, h2⟩ := hx i hi
      rw [hC] at h1
      obtain ⟨_, hlen, hcell⟩ := World.cells?_some h1
      obtain ⟨xs, k, hk, hxy, _, hxl, hg⟩ := DataW.trod_struct he h2
      have hk' : k = n - 1 := by omega
      subst hk'
      refine ⟨cs, fun j f hj => ?_⟩
      have hlt : j < fs.size := (Array.getElem?_eq_some_iff.1 hj).1
      obtain ⟨o0, c0⟩ := hone_of hone j f hj
      have g0 := hg j f hj
      rw [o0, c0, take1_drop cs j undef (by omega)] at g0
      have e0 := hcell j hlt
      rw [List.getElem?_eq_getElem (by omega)] at e0 g0
      refine ⟨?_, _, g0⟩
      rw [e0]
      simp [List.getD, List.getElem?_eq_getElem (show j < cs.length by omega)]
    obtain ⟨q, hq⟩ := choose_lt each
    refine ⟨some a, len, cap, n - 1, fun i j => (q i).getD j undef, rfl, hl, hm, fun hn => ?_⟩
    obtain ⟨f0, hf0⟩ : ∃ f0, fs[0]? = some f0 := ⟨fs[0], Array.getElem?_eq_getElem hpos⟩
    have c0 := (hq 0 (by omega) 0 f0 hf0).1
    obtain ⟨g, off, spot⟩ := a
    have hspot : spot = none := by simpa [Addr.add] using World.cell?_spot c0
    subst hspot
    have hlt : g < w.heap.size := by
      have := World.block_lt_of_cell? _ _ c0
      rwa [add_plain, add_plain] at this
    refine ⟨g, off, rfl, hlt, fun i hi j f hj => ?_⟩
    have := hq i (by omega) j f hj
    rwa [add_plain, add_plain] at this

theorem flat_int {n : Nat} {t : TypeId} {v : Value} (ht : P.underlying t = some (.int .i64)) (h : ∃ y, DataW.trod enc P w base spare held n t [v] = some y) : v = .int .i64 (intOf v) ∧ (Lit.int .i64 (intOf v)).wf = true := by
  obtain ⟨y, hy⟩ := h
  obtain ⟨a, ha, _, hw⟩ := DataW.trod_int ht hy
  obtain rfl : v = .int .i64 a := by simpa using ha
  exact ⟨rfl, hw⟩

theorem flat_bool {n : Nat} {t : TypeId} {v : Value} (ht : P.underlying t = some .bool) (h : ∃ y, DataW.trod enc P w base spare held n t [v] = some y) : v = .bool (toB v) := by
  obtain ⟨y, hy⟩ := h
  obtain ⟨a, ha, _⟩ := DataW.trod_bool ht hy
  obtain rfl : v = .bool a := by simpa using ha
  rfl
theorem flat_string {n : Nat} {t : TypeId} {v : Value} (ht : P.underlying t = some .string) (h : ∃ y, DataW.trod enc P w base spare held n t [v] = some y) : v = .string (strOf v) ∧ (strOf v).size ≤ maxLen := by
  obtain ⟨y, hy⟩ := h
  obtain ⟨s, hs, _, hw⟩ := DataW.trod_string ht hy
  obtain rfl : v = .string s := by simpa using hs
  exact ⟨rfl, hw⟩
end
end Go.Proofs
