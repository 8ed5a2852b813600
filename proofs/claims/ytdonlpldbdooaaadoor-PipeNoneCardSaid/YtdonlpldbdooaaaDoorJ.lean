/- Pipes: the two sentinels, what they tell; isOf. -/
import Derived.Test.YtdonlpldbdooaaaDoorI
import Derived.Deep.QuietTactic
import Derived.BigQuiet
set_option linter.unusedVariables false
set_option linter.unusedSimpArgs false
namespace Go.Proofs
open Go.RowKit Go.Shelf
attribute [local go_sem] Oper.semAt_some

/-- The two sentinels lie: wait, broken. -/
structure Sen (w : World) (aW aB : Addr) : Prop where
  g0 : w.cell? ⟨0, 0, none⟩ = some (.iface 93 (.pointer (some aW)))
  g1 : w.cell? ⟨1, 0, none⟩ = some (.iface 93 (.pointer (some aB)))
  bW : ∃ c t, w.heap[aW.block]? = some (.cells c t (0, 0))
  bB : ∃ c t, w.heap[aB.block]? = some (.cells c t (0, 0))
  nWB : aW ≠ aB
theorem Sen.gr {w w' : World} {aW aB : Addr} {X : Nat → Prop} (h : Sen w aW aB) (hG : Gr w w' X) (x0 : ¬ X 0) (x1 : ¬ X 1) (xW : ¬ X aW.block) (xB : ¬ X aB.block) : Sen w' aW aB := by
  have hb : ∀ {b : Nat}, ¬ X b → (∃ c t, w.heap[b]? = some (.cells c t (0, 0))) → ∃ c t, w'.heap[b]? = some (.cells c t (0, 0)) := fun hx ⟨c, t, h⟩ => ⟨c, t, hG.blk (show Blk w _ t c from h) hx⟩
  have hc : ∀ {g : Nat} {v : Value}, ¬ X g → w.cell? ⟨g, 0, none⟩ = some v → w'.cell? ⟨g, 0, none⟩ = some v := fun {g v} hx h => (hG.cell (p := ⟨g, 0, none⟩) (World.block_lt_of_cell? _ _ h) hx).trans h
  exact ⟨hc x0 h.g0, hc x1 h.g1, hb xW h.bW, hb xB h.bB, h.nWB⟩
theorem Sen.same {w w' : World} {aW aB : Addr} (h : Sen w aW aB) (hG : Same w w') : Sen w' aW aB := h.gr hG (fun f => f) (fun f => f) (fun f => f) (fun f => f)
theorem Sen.lt {w : World} {aW aB : Addr} (h : Sen w aW aB) : 0 < w.heap.size ∧ 1 < w.heap.size ∧ aW.block < w.heap.size ∧ aB.block < w.heap.size := by
  obtain ⟨c1, t1, h1⟩ := h.bW
  obtain ⟨c2, t2, h2⟩ := h.bB
  exact ⟨World.block_lt_of_cell? _ _ h.g0, World.block_lt_of_cell? _ _ h.g1, (Array.getElem?_eq_some_iff.1 h1).1, (Array.getElem?_eq_some_iff.1 h2).1⟩

variable {aW aB : Addr}
set_option maxHeartbeats 1000000 in
theorem told_wait (w : World) (h : Sen w aW aB) : Calls Tryd.prog 26 #[.iface 93 (.pointer (some aW))] w fun e w' => e = .returned (.int .i64 63) ∧ w = w' := by
  have g0 := h.g0
  have g1 := h.g1
  go_enter Tryd.func26, Tryd.ntmps26
  go_wp2_with fail
  refine (is_same aW _).mono ?_; rintro e w1 ⟨rfl, rfl⟩
  go_wp2
  go_ret
  exact ⟨rfl, rfl⟩
set_option maxHeartbeats 1000000 in
theorem told_broken (w : World) (h : Sen w aW aB) : Calls Tryd.prog 26 #[.iface 93 (.pointer (some aB))] w fun e w' => e = .returned (.int .i64 90) ∧ w = w' := by
  have g0 := h.g0
  have g1 := h.g1
  obtain ⟨cW, tW, bW⟩ := h.bW
  obtain ⟨cB, tB, bB⟩ := h.bB
  go_enter Tryd.func26, Tryd.ntmps26
  go_wp2_with fail
  refine (is_other aB aW _ _ _ _ _ h.nWB.symm bB bW).mono ?_; rintro e w1 ⟨rfl, rfl⟩
  go_wp2_with fail
  refine (is_same aB _).mono ?_; rintro e w1 ⟨rfl, rfl⟩
  go_wp2
  go_ret
  exact ⟨rfl, rfl⟩

def isEnd (k : Int) : Bool := decide (k = 1) || decide (k = 2)
theorem isOf_any (k : Int) (b : Nat) (w : World) (h0 : w.cell? ⟨b, 0, none⟩ = some (.int .i64 1)) (h1 : w.cell? ⟨b, 1, none⟩ = some (.int .i64 2)) :
    Calls Tryd.prog 37 #[.int .i64 k, .slice (some ⟨b, 0, none⟩) 2 2] w fun e w' => e = .returned (.bool (isEnd k)) ∧ w = w' := by
  go_enter Tryd.func37, Tryd.ntmps37
  go_wp2
  go_loopw [9] (fun i wr => w = wr ∧ (i = .int .i64 0 ∨ (i = .int .i64 1 ∧ k ≠ 1) ∨ (i = .int .i64 2 ∧ k ≠ 1 ∧ k ≠ 2))) (fun i _ => 2 - (intOf i).toNat)
  case atStart => exact ⟨rfl, .inl rfl⟩
  case round =>
    obtain ⟨rfl, hrel⟩ := hrel
    rcases hrel with rfl | ⟨rfl, n1⟩ | ⟨rfl, n1, n2⟩
    · by_cases hk : k = 1
      · subst hk
        go_wp2
        go_ret
        exact ⟨rfl, rfl⟩
      · have hk' : ((1 : Int) == k) = false := by simp; omega
        go_wp2
        go_roundw
        case rel => exact ⟨trivial, .inr (.inl ⟨rfl, hk⟩)⟩
        case measure => decide
    · by_cases hk : k = 2
      · subst hk
        go_wp2
        go_ret
        exact ⟨rfl, rfl⟩
      · have hk' : ((2 : Int) == k) = false := by simp; omega
        go_wp2
        go_roundw
        case rel => exact ⟨trivial, .inr (.inr ⟨rfl, n1, hk⟩)⟩
        case measure => decide
    · have hf : isEnd k = false := by unfold isEnd; simp [n1, n2]
      go_wp2
      go_ret
      exact ⟨by rw [hf]; rfl, rfl⟩
end Go.Proofs
