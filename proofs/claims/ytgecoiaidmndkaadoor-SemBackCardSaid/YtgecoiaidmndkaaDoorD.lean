/- Semaphores: New, copied. -/
import Derived.Test.YtgecoiaidmndkaaDoorB
import Derived.Laws.CopyOwn
import Derived.Deep.OwnRows
set_option linter.unusedVariables false
set_option linter.unusedSimpArgs false
namespace Go.Proofs
open Go.RowKit Go.Shelf

theorem info3 : (Tryd.prog.info? 3).map (fun i => (i.zero, i.size, i.bytes)) = some (some (.int .i64 0), 1, 8) := by kernel_rfl
theorem info3s : (Tryd.prog.info? 3).map (·.size) = some 1 := by kernel_rfl
theorem made_zero (n : Nat) : madeCells #[Value.int .i64 0] n = ((List.replicate n (0 : Int)).map (Value.int .i64)).toArray := by
  apply Array.ext
  · simp [size_madeCells]
  · intro i h1 h2
    simp [madeCells, Nat.mod_one]
theorem setRow_blk {w : World} {g : Nat} {t : TypeId} {cs : Array Value} (h : Blk w g t cs) (ds : Array Value) : Blk (w.setRow g ds) g t ds := setRow_heap w g cs ds t (0, 0) h
theorem Gr.setRow {a w : World} {X : Nat → Prop} (h : Gr a w X) (b : Nat) (ds : Array Value) (hb : X b ∨ a.heap.size ≤ b) : Gr a (w.setRow b ds) X :=
  ⟨h.1, h.2.1, h.2.2.1, by rw [setRow_size]; exact h.size, fun i hi hx => (setRow_other w b i ds (fun e => by rcases hb with hb | hb; exact hx (e ▸ hb); omega)).trans (h.2.2.2.2 i hi hx)⟩

theorem new_any (n : Nat) (w : World) (h0 : 1 ≤ n) (h1 : n ≤ 8) : Calls Tryd.prog 19 #[.int .i64 n] w fun e w' => e = .returned (.tuple #[.slice (some ⟨w.heap.size, 0, none⟩) n n, .int .i64 0]) ∧ Same w w' ∧ Blk w' w.heap.size 3 ((List.replicate n (0 : Int)).map (Value.int .i64)).toArray := by
  have hmk := fun W => run_make_row' (P := Tryd.prog) 22 3 (.int .i64 0) 8 Tryd.underlying22 info3 rfl .i64 .i64 n (by omega) (by omega) W
  rw [made_zero] at hmk
  generalize ((List.replicate n (0 : Int)).map (Value.int .i64)).toArray = Z at *
  go_enter Tryd.func19, Tryd.ntmps19
  go_wp2
  go_ret2
  exact ⟨rfl, Gr.a1 _ _, Blk.new _ _ _ _ rfl⟩
theorem new_bad (n : Int) (w : World) (h : n < 1 ∨ 8 < n) : Calls Tryd.prog 19 #[.int .i64 n] w fun e w' => e = .returned (.tuple #[.slice none 0 0, .int .i64 2]) ∧ w = w' := by
  rcases h with h | h
  all_goals
    go_enter Tryd.func19, Tryd.ntmps19
    go_wp2
    all_goals (go_ret2; exact ⟨rfl, rfl⟩)
set_option maxHeartbeats 1000000 in
theorem copied_any (xs : List Int) (A : Option Addr) (n c : Nat) (w : World) (hn : xs.length = n) (h1 : 1 ≤ n) (h8 : n ≤ 8) (hc : Ints w A xs) :
    Calls Tryd.prog 26 #[.slice A n c] w fun e w' => e = .returned (.slice (some ⟨w.heap.size, 0, none⟩) n n) ∧ Same w w' ∧ Blk w' w.heap.size 3 (xs.map (Value.int .i64)).toArray := by
  obtain ⟨b, off, rfl, hb, hcc⟩ := hc (by omega)
  have hmk := fun W => run_make_row' (P := Tryd.prog) 22 3 (.int .i64 0) 8 Tryd.underlying22 info3 rfl .i64 .i64 n (by omega) (by omega) W
  rw [made_zero] at hmk
  have hZs : ((List.replicate n (0 : Int)).map (Value.int .i64)).toArray.size = n := by simp
  generalize ((List.replicate n (0 : Int)).map (Value.int .i64)).toArray = Z at *
  have hcp := run_copy_row (P := Tryd.prog) (w.alloc (.cells Z 3)) 22 22 3 3 w.heap.size 0 n n ⟨b, off, none⟩ n c Z 3 (xs.map (Value.int .i64)) Tryd.underlying22 info3s (Blk.new _ _ _ _ rfl) (by rw [List.length_map, hn]; exact (Nat.min_self n).symm)
    (fun j v hv => by
      have hj : j < xs.length := by have := (List.getElem?_eq_some_iff.1 hv).1; simpa using this
      rw [Go.WideShapes.add_plain, World.cell?_alloc_past _ _ _ hb, hcc j hj]
      simp [List.getElem?_eq_getElem hj] at hv ⊢
      exact hv) (by rw [List.length_map, hZs, hn]; omega) (by simp [Value.oneCell'])
  have e1 : (Z.toList.take 0 ++ xs.map (Value.int .i64) ++ Z.toList.drop (0 + (xs.map (Value.int .i64)).length)).toArray = (xs.map (Value.int .i64)).toArray := by
    rw [List.drop_eq_nil_of_le (by rw [List.length_map, Array.length_toList, hZs, hn]; omega)]; simp
  rw [e1, List.length_map, hn] at hcp
  have HN := Lib.hid hn
  have HZ := Lib.hid hZs
  generalize hX : (xs.map (Value.int .i64)).toArray = X at *
  have HX := Lib.hid hX
  clear hn hZs hcc e1 hX hc
  go_enter Tryd.func26, Tryd.ntmps26
  go_wp2
  go_ret
  refine ⟨rfl, ((Gr.a1 _ _).setRow _ _ (.inr (Nat.le_refl _))), setRow_blk (Blk.new _ _ _ _ rfl) _⟩
end Go.Proofs
