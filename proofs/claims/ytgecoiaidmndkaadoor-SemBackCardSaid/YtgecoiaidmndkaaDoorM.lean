/- Semaphores: what each statement begins with. -/
import Derived.Test.YtgecoiaidmndkaaDoorH
set_option linter.unusedVariables false
set_option linter.unusedSimpArgs false
namespace Go.Proofs
open Go.RowKit Go.Shelf
variable {aR aA aW : Addr}

def mk (l : List Int) : Nat → Int := fun i => l[i]?.getD 0
theorem ops_two {w : World} {b : Nat} {t : TypeId} {n0 d0 f0 n1 d1 f1 : Int} (h : Blk w b t #[.int .i64 n0, .int .i64 d0, .int .i64 f0, .int .i64 n1, .int .i64 d1, .int .i64 f1]) : Ops w (some ⟨b, 0, none⟩) 2 (mk [n0, n1]) (mk [d0, d1]) (mk [f0, f1]) := fun _ =>
  ⟨b, 0, rfl, h.lt, fun i hi => by
    rcases (show i = 0 ∨ i = 1 by omega) with rfl | rfl
    · exact ⟨(h.cell _).trans rfl, (h.cell _).trans rfl, (h.cell _).trans rfl⟩
    · exact ⟨(h.cell _).trans rfl, (h.cell _).trans rfl, (h.cell _).trans rfl⟩⟩
theorem ops_one {w : World} {b : Nat} {t : TypeId} {n0 d0 f0 : Int} (h : Blk w b t #[.int .i64 n0, .int .i64 d0, .int .i64 f0]) : Ops w (some ⟨b, 0, none⟩) 1 (mk [n0]) (mk [d0]) (mk [f0]) := fun _ =>
  ⟨b, 0, rfl, h.lt, fun i hi => by
    obtain rfl : i = 0 := by omega
    exact ⟨(h.cell _).trans rfl, (h.cell _).trans rfl, (h.cell _).trans rfl⟩⟩
theorem ints_blk {w : World} {b : Nat} {t : TypeId} {xs : List Int} (h : Blk w b t (xs.map (Value.int .i64)).toArray) : Ints w (some ⟨b, 0, none⟩) xs := fun _ =>
  ⟨b, 0, rfl, h.lt, fun j hj => by rw [h.cell]; simp [List.getElem?_eq_getElem hj]⟩
theorem flags_mk {l : List Int} (h : ∀ x ∈ l, -9223372036854775808 ≤ x ∧ x < 9223372036854775808) (m : Nat) : ∀ i, i < m → -9223372036854775808 ≤ mk l i ∧ mk l i < 9223372036854775808 := fun i _ => by
  unfold mk
  rcases Nat.lt_or_ge i l.length with hi | hi
  · rw [List.getElem?_eq_getElem hi]; exact h _ (List.getElem_mem hi)
  · rw [List.getElem?_eq_none hi]; simp

/-- Try, done: told by what is known. -/
theorem try_ok {w : World} {n m : Nat} {Nm Dl Fl : Nat → Int} {xs : List Int} {e : Ending} {w' : World} (h : TryPost aR aA aW w n m Nm Dl Fl xs e w') (h1 : ∀ i, i < m → inB n (Nm i) = true) (h2 : ∀ i, i < m → er Nm Dl Fl xs i = 0) :
    Same w w' ∧ ∃ b, w.heap.size ≤ b ∧ e = .returned (.tuple #[.slice (some ⟨b, 0, none⟩) n n, .int .i64 0, .int .i64 0]) ∧ Blk w' b 3 ((stp Nm Dl Fl xs m).map (Value.int .i64)).toArray := by
  obtain ⟨hG, ⟨⟨i, hi, hb⟩, _⟩ | ⟨_, i, hi, hne, _⟩ | ⟨_, _, h⟩⟩ := h
  · rw [h1 i hi] at hb; cases hb
  · exact absurd (h2 i hi) hne
  · exact ⟨hG, h⟩
/-- Try, not done at i. -/
theorem try_no {w : World} {n m : Nat} {Nm Dl Fl : Nat → Int} {xs : List Int} {e : Ending} {w' : World} (h : TryPost aR aA aW w n m Nm Dl Fl xs e w') (h1 : ∀ i, i < m → inB n (Nm i) = true) (i : Nat) (hi : i < m) (h2 : er Nm Dl Fl xs i ≠ 0) (h3 : ∀ j, j < i → er Nm Dl Fl xs j = 0) :
    Same w w' ∧ e = .returned (.tuple #[.slice none 0 0, .int .i64 i, .int .i64 (code (er Nm Dl Fl xs i))]) := by
  obtain ⟨hG, ⟨⟨j, hj, hb⟩, _⟩ | ⟨_, j, hj, hne, hlt, he⟩ | ⟨_, h, _⟩⟩ := h
  · rw [h1 j hj] at hb; cases hb
  · obtain rfl : j = i := by
      rcases Nat.lt_trichotomy i j with h | h | h
      · exact absurd (hlt i h) h2
      · exact h.symm
      · exact absurd (h3 j h) hne
    exact ⟨hG, he⟩
  · exact absurd (h i hi) h2
/-- Try, of an operation that is in no set. -/
theorem try_out {w : World} {n m : Nat} {Nm Dl Fl : Nat → Int} {xs : List Int} {e : Ending} {w' : World} (h : TryPost aR aA aW w n m Nm Dl Fl xs e w') (i : Nat) (hi : i < m) (h1 : inB n (Nm i) = false) :
    Same w w' ∧ e = .returned (.tuple #[.slice none 0 0, .int .i64 0, .int .i64 131]) := by
  obtain ⟨hG, ⟨_, he⟩ | ⟨h, _⟩ | ⟨h, _⟩⟩ := h
  · exact ⟨hG, he⟩
  · rw [h i hi] at h1; cases h1
  · rw [h i hi] at h1; cases h1

set_option maxHeartbeats 4000000 in
theorem shown_any (w : World) (hS : Sen w aR aA aW) : Calls Tryd.prog 11 #[] w fun e w' => e = .returned (.bool true) ∧ Same w w' := by
  have hI0 : Ints (w.alloc (.cells #[.int .i64 1, .int .i64 0] 3)) (some ⟨w.heap.size, 0, none⟩) [1, 0] := ints_blk (Blk.new _ 3 _ _ rfl)
  have HI0 := Lib.hid hI0
  go_enter Tryd.func11, Tryd.ntmps11
  go_wp2_with fail
  have ho1 := ops_two (Blk.new (w.alloc (.cells #[.int .i64 1, .int .i64 0] 3)) 32 #[.int .i64 0, .int .i64 (-1), .int .i64 0, .int .i64 1, .int .i64 2, .int .i64 0] (w.heap.size + 1) (by simp))
  have hs1 : Same w ((w.alloc (.cells #[.int .i64 1, .int .i64 0] 3)).alloc (.cells #[.int .i64 0, .int .i64 (-1), .int .i64 0, .int .i64 1, .int .i64 2, .int .i64 0] 32)) := Gr.a2 _ _ _
  refine (try_any (aR := aR) (aA := aA) (aW := aW) [1, 0] _ 2 2 _ 2 2 (mk [0, 1]) (mk [-1, 2]) (mk [0, 0]) _ rfl (by omega) (by omega) (hI0.same (Gr.a1 _ _)) (by decide) ho1 (flags_mk (by decide) _) (hS.same hs1)).mono ?_
  rintro e w1 hp1
  obtain ⟨hT1, b1, hb1, rfl, hB1⟩ := try_ok hp1 (by decide) (by decide)
  have hG1 := hs1.next hT1
  have hJ1 : Same (w.alloc (.cells #[.int .i64 1, .int .i64 0] 3)) w1 := (Gr.a1 _ _).next hT1
  clear hp1 ho1 hs1
  go_wp2_with fail
  have ho2 := ops_two (Blk.new w1 32 #[.int .i64 0, .int .i64 (-1), .int .i64 0, .int .i64 1, .int .i64 (-1), .int .i64 0] (w1.heap.size) (by rfl))
  have hs2 : Same w (w1.alloc (.cells #[.int .i64 0, .int .i64 (-1), .int .i64 0, .int .i64 1, .int .i64 (-1), .int .i64 0] 32)) := hG1.alloc _
  refine (try_any (aR := aR) (aA := aA) (aW := aW) [1, 0] _ 2 2 _ 2 2 (mk [0, 1]) (mk [-1, -1]) (mk [0, 0]) _ rfl (by omega) (by omega) (hI0.same (hJ1.alloc _)) (by decide) ho2 (flags_mk (by decide) _) (hS.same hs2)).mono ?_
  rintro e w2 hp2
  obtain ⟨hT2, rfl⟩ := try_no hp2 (by decide) 1 (by decide) (by decide) (by decide)
  rw [show code (er (mk [0, 1]) (mk [-1, -1]) (mk [0, 0]) [1, 0] 1) = 133 by decide]
  have hG2 := hs2.next hT2
  have hJ2 : Same (w.alloc (.cells #[.int .i64 1, .int .i64 0] 3)) w2 := (hJ1.alloc _).next hT2
  clear hp2 ho2 hs2
  go_wp2_with fail
  have ho3 := ops_two (Blk.new w2 32 #[.int .i64 1, .int .i64 0, .int .i64 0, .int .i64 0, .int .i64 (-2), .int .i64 1] (w2.heap.size) (by rfl))
  have hs3 : Same w (w2.alloc (.cells #[.int .i64 1, .int .i64 0, .int .i64 0, .int .i64 0, .int .i64 (-2), .int .i64 1] 32)) := hG2.alloc _
  refine (try_any (aR := aR) (aA := aA) (aW := aW) [1, 0] _ 2 2 _ 2 2 (mk [1, 0]) (mk [0, -2]) (mk [0, 1]) _ rfl (by omega) (by omega) (hI0.same (hJ2.alloc _)) (by decide) ho3 (flags_mk (by decide) _) (hS.same hs3)).mono ?_
  rintro e w3 hp3
  obtain ⟨hT3, rfl⟩ := try_no hp3 (by decide) 1 (by decide) (by decide) (by decide)
  rw [show code (er (mk [1, 0]) (mk [0, -2]) (mk [0, 1]) [1, 0] 1) = 63 by decide]
  have hG3 := hs3.next hT3
  have hJ3 : Same (w.alloc (.cells #[.int .i64 1, .int .i64 0] 3)) w3 := (hJ2.alloc _).next hT3
  clear hp3 ho3 hs3
  have hB3 := (hT2.mono (Y := fun _ => False) (fun _ _ h => h))
  have hC : Ints w3 (some ⟨b1, 0, none⟩) [0, 2] := ((ints_blk hB1 : Ints w1 (some ⟨b1, 0, none⟩) (stp (mk [0, 1]) (mk [-1, 2]) (mk [0, 0]) [1, 0] 2)).same ((Gr.a1 _ _).next hT2)).same ((Gr.a1 _ _).next hT3)
  go_wp2_with fail
  refine (ints_same [0, 2] _ _ 2 2 2 _ rfl (by omega) (hC.same (Gr.a1 _ _)) (ints_blk (Blk.new _ 3 _ _ rfl))).mono ?_
  rintro e w4 ⟨rfl, hG4⟩
  go_wp2
  go_ret
  exact ⟨rfl, (hG3.alloc _).next hG4⟩
end Go.Proofs
