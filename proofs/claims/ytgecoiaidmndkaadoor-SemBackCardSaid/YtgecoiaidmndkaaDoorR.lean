/- Arguments: a list of whole numbers; a list of operations. -/
import Derived.Test.YtgecoiaidmndkaaDoorL
import Derived.Test.YtgecoiaidmndkaaDoorG
import Derived.ChangeSlices
set_option linter.unusedVariables false
set_option linter.unusedSimpArgs false
namespace Go.Proofs
open Go.RowKit Go.WideShapes Go.ChangeShapes Go.Joins Go.Deep

theorem wf_range {a : Int} (h : (Lit.int .i64 a).wf = true) : -9223372036854775808 ≤ a ∧ a < 9223372036854775808 := by
  have h1 : IntKind.i64.min ≤ a ∧ a ≤ 9223372036854775807 := by simpa [Lit.wf] using h
  have h2 : IntKind.i64.min = -9223372036854775808 := by decide
  rw [h2] at h1
  omega

section
variable {H : Type} {enc : TypeId × Value → H} {w : World} {base : Nat} {spare : Nat → Bool} {held : Bool}
theorem open_intslice {r : Reach} {b0 : Nat} {v : Value} {d : DataW H} {p : List MemPlace} (hv : Value.okWide Tryd.prog w r b0 22 v) (h : DataW.Trod enc Tryd.prog w base spare held 22 v d p) :
    ∃ (A : Option Addr) (xs : List Int) (c : Nat), v = .slice A xs.length c ∧ xs.length ≤ c ∧ c ≤ maxLen ∧ Ints w A xs := by
  obtain ⟨A, len, cap, rfl⟩ := okWide_slice Tryd.underlying22 hv
  obtain ⟨fuel, hf⟩ := h
  rcases Go.ChangeShapes.open_ints Tryd.underlying22 Tryd.underlying3 (by kernel_rfl) hf with ⟨h0, _⟩ | ⟨a, len', cap', zs, h0, hb, hl, hm, hzl, _, hc, _⟩
  · simp [Value.cells] at h0
    obtain ⟨rfl, rfl, rfl⟩ := h0
    exact ⟨none, [], 0, rfl, Nat.le_refl _, by unfold maxLen; omega, fun h => by simp at h⟩
  · simp [Value.cells] at h0
    obtain ⟨rfl, rfl, rfl⟩ := h0
    have hlz : len ≤ zs.length := by rw [hzl]; split <;> omega
    have hxl : (zs.take len).length = len := by rw [List.length_take]; omega
    refine ⟨some a, zs.take len, cap, by rw [hxl], by omega, hm, fun hn => ?_⟩
    rw [hxl] at hn
    have c0 := hc 0 (by omega)
    obtain ⟨g, off, spot⟩ := a
    have hspot : spot = none := by simpa [Addr.add] using World.cell?_spot c0
    subst hspot
    refine ⟨g, off, rfl, ?_, fun j hj => ?_⟩
    · have := World.block_lt_of_cell? _ _ c0
      rwa [add_plain] at this
    · have := hc j (by omega)
      rw [add_plain] at this
      rw [this]
      simp [List.getD, List.getElem?_take_of_lt (show j < len by omega)]
end
end Go.Proofs
