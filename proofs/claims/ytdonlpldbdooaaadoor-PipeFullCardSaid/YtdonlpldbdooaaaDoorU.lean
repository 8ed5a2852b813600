/- Pipes: ends are changed. -/
import Derived.Test.YtdonlpldbdooaaaDoorJ
set_option linter.unusedVariables false
set_option linter.unusedSimpArgs false
namespace Go.Proofs
open Go.RowKit Go.Shelf
attribute [local go_sem] Oper.semAt_some

/-- A pipe's own block: its ring, R readers, W writers. -/
def PB (w : World) (b rb : Nat) (R W : Int) : Prop := Blk w b 54 #[.pointer (some ⟨rb, 0, none⟩), .int .i64 0, .int .i64 R, .int .i64 W]
theorem PB.c0 {w : World} {b rb : Nat} {R W : Int} (h : PB w b rb R W) : w.cell? ⟨b, 0, none⟩ = some (.pointer (some ⟨rb, 0, none⟩)) := by simpa using Blk.cell h 0
theorem PB.c2 {w : World} {b rb : Nat} {R W : Int} (h : PB w b rb R W) : w.cell? ⟨b, 2, none⟩ = some (.int .i64 R) := by simpa using Blk.cell h 2
theorem PB.c3 {w : World} {b rb : Nat} {R W : Int} (h : PB w b rb R W) : w.cell? ⟨b, 3, none⟩ = some (.int .i64 W) := by simpa using Blk.cell h 3

theorem change_nil (kind n : Int) (w : World) : Calls Tryd.prog 29 #[.pointer none, .int .i64 kind, .int .i64 n] w fun e w' => e = .returned (.int .i64 1) ∧ w = w' := by
  go_enter Tryd.func29, Tryd.ntmps29
  go_wp2
  go_ret
  exact ⟨rfl, rfl⟩
theorem change_bad (b : Nat) (kind n : Int) (w : World) (hk : isEnd kind = false) : Calls Tryd.prog 29 #[.pointer (some ⟨b, 0, none⟩), .int .i64 kind, .int .i64 n] w fun e w' => e = .returned (.int .i64 2) ∧ Same w w' := by
  have c0 : (w.alloc (.cells #[.int .i64 1, .int .i64 2] 3)).cell? ⟨w.heap.size, 0, none⟩ = some (.int .i64 1) := by simp
  have c1 : (w.alloc (.cells #[.int .i64 1, .int .i64 2] 3)).cell? ⟨w.heap.size, 1, none⟩ = some (.int .i64 2) := by simp
  go_enter Tryd.func29, Tryd.ntmps29
  go_wp2_with fail
  refine (isOf_any kind w.heap.size _ c0 c1).mono ?_; rintro e w1 ⟨rfl, rfl⟩
  rw [hk]
  go_wp2
  go_ret
  exact ⟨rfl, Gr.a1 _ _⟩
set_option maxHeartbeats 1000000 in
theorem change_reader (b rb : Nat) (R W n : Int) (w : World) (h : PB w b rb R W) (hR : 0 ≤ R ∧ R ≤ 100) (hn : -1 ≤ n ∧ n ≤ 1) : Calls Tryd.prog 29 #[.pointer (some ⟨b, 0, none⟩), .int .i64 1, .int .i64 n] w fun e w' =>
    (0 ≤ R + n ∧ R + n ≤ 100 ∧ e = .returned (.int .i64 0) ∧ PB w' b rb (R + n) W ∧ Gr w w' (fun k => k = b)) ∨ ((R + n < 0 ∨ 100 < R + n) ∧ e = .returned (.int .i64 2) ∧ Same w w') := by
  have c0 : (w.alloc (.cells #[.int .i64 1, .int .i64 2] 3)).cell? ⟨w.heap.size, 0, none⟩ = some (.int .i64 1) := by simp
  have c1 : (w.alloc (.cells #[.int .i64 1, .int .i64 2] 3)).cell? ⟨w.heap.size, 1, none⟩ = some (.int .i64 2) := by simp
  have hP := Blk.alloc (show Blk w b 54 _ from h) (.cells #[.int .i64 1, .int .i64 2] 3)
  have p2 := PB.c2 hP
  have p2' := PB.c2 (hP.drew)
  have pf := Blk.frozen hP.drew 2
  go_enter Tryd.func29, Tryd.ntmps29
  go_wp2_with fail
  refine (isOf_any 1 w.heap.size _ c0 c1).mono ?_; rintro e w1 ⟨rfl, rfl⟩
  rcases (show R + n < 0 ∨ (0 ≤ R + n ∧ 100 < R + n) ∨ (0 ≤ R + n ∧ R + n ≤ 100) by omega) with hx | ⟨hx, hx'⟩ | ⟨hx, hx'⟩
  · rw [show isEnd 1 = true from rfl]
    go_wp2
    go_ret
    exact .inr ⟨.inl hx, rfl, Gr.a1 _ _⟩
  · rw [show isEnd 1 = true from rfl]
    go_wp2
    go_ret
    exact .inr ⟨.inr hx', rfl, Gr.a1 _ _⟩
  · rw [show isEnd 1 = true from rfl]
    go_wp2
    go_region
    go_wp2
    go_ret
    exact .inl ⟨hx, hx', rfl, by simpa [PB] using (Blk.set_ hP 2 (.int .i64 (R + n))).drew, ((Gr.a1 _ _).no.set1 2 _).drew⟩
set_option maxHeartbeats 1000000 in
theorem change_writer (b rb : Nat) (R W n : Int) (w : World) (h : PB w b rb R W) (hR : 0 ≤ W ∧ W ≤ 100) (hn : -1 ≤ n ∧ n ≤ 1) : Calls Tryd.prog 29 #[.pointer (some ⟨b, 0, none⟩), .int .i64 2, .int .i64 n] w fun e w' =>
    (0 ≤ W + n ∧ W + n ≤ 100 ∧ e = .returned (.int .i64 0) ∧ PB w' b rb R (W + n) ∧ Gr w w' (fun k => k = b)) ∨ ((W + n < 0 ∨ 100 < W + n) ∧ e = .returned (.int .i64 2) ∧ Same w w') := by
  have c0 : (w.alloc (.cells #[.int .i64 1, .int .i64 2] 3)).cell? ⟨w.heap.size, 0, none⟩ = some (.int .i64 1) := by simp
  have c1 : (w.alloc (.cells #[.int .i64 1, .int .i64 2] 3)).cell? ⟨w.heap.size, 1, none⟩ = some (.int .i64 2) := by simp
  have hP := Blk.alloc (show Blk w b 54 _ from h) (.cells #[.int .i64 1, .int .i64 2] 3)
  have p2 := PB.c3 hP
  have p2' := PB.c3 (hP.drew)
  have pf := Blk.frozen hP.drew 3
  go_enter Tryd.func29, Tryd.ntmps29
  go_wp2_with fail
  refine (isOf_any 2 w.heap.size _ c0 c1).mono ?_; rintro e w1 ⟨rfl, rfl⟩
  rcases (show W + n < 0 ∨ (0 ≤ W + n ∧ 100 < W + n) ∨ (0 ≤ W + n ∧ W + n ≤ 100) by omega) with hx | ⟨hx, hx'⟩ | ⟨hx, hx'⟩
  · rw [show isEnd 2 = true from rfl]
    go_wp2
    go_ret
    exact .inr ⟨.inl hx, rfl, Gr.a1 _ _⟩
  · rw [show isEnd 2 = true from rfl]
    go_wp2
    go_ret
    exact .inr ⟨.inr hx', rfl, Gr.a1 _ _⟩
  · rw [show isEnd 2 = true from rfl]
    go_wp2
    go_region
    go_wp2
    go_ret
    exact .inl ⟨hx, hx', rfl, by simpa [PB] using (Blk.set_ hP 3 (.int .i64 (W + n))).drew, ((Gr.a1 _ _).no.set1 3 _).drew⟩
theorem gr_nil (k : Int) (w : World) : Calls Tryd.prog 19 #[.pointer none, .int .i64 k] w fun e w' => e = .returned (.int .i64 1) ∧ w = w' := by
  go_enter Tryd.func19, Tryd.ntmps19
  go_wp2_with fail
  refine (change_nil k 1 _).mono ?_; rintro e w1 ⟨rfl, rfl⟩
  go_wp2
  go_ret
  exact ⟨rfl, rfl⟩
theorem ends_nil (w : World) : Calls Tryd.prog 24 #[.pointer none] w fun e w' => e = .returned (.tuple #[.int .i64 0, .int .i64 0]) ∧ w = w' := by
  go_enter Tryd.func24, Tryd.ntmps24
  go_wp2
  go_ret2
  exact ⟨rfl, rfl⟩
theorem ends_any (b rb : Nat) (R W : Int) (w : World) (h : PB w b rb R W) : Calls Tryd.prog 24 #[.pointer (some ⟨b, 0, none⟩)] w fun e w' => e = .returned (.tuple #[.int .i64 R, .int .i64 W]) ∧ Same w w' := by
  have p2 := PB.c2 (show PB w.drew b rb R W from Blk.drew h)
  have p3 := PB.c3 (show PB w.drew b rb R W from Blk.drew h)
  go_enter Tryd.func24, Tryd.ntmps24
  go_wp2
  go_region
  go_wp2
  go_ret2
  exact ⟨rfl, (Gr.refl _ _).drew⟩
/-- What an end more, or one less, makes of the numbers of ends. -/
theorem change_any (b rb : Nat) (R W n : Int) (k : Int) (w : World) (h : PB w b rb R W) (hR : 0 ≤ R ∧ R ≤ 100) (hW : 0 ≤ W ∧ W ≤ 100) (hn : -1 ≤ n ∧ n ≤ 1) : Calls Tryd.prog 29 #[.pointer (some ⟨b, 0, none⟩), .int .i64 k, .int .i64 n] w fun e w' =>
    (k = 1 ∧ 0 ≤ R + n ∧ R + n ≤ 100 ∧ e = .returned (.int .i64 0) ∧ PB w' b rb (R + n) W ∧ Gr w w' (fun j => j = b)) ∨
    (k = 2 ∧ 0 ≤ W + n ∧ W + n ≤ 100 ∧ e = .returned (.int .i64 0) ∧ PB w' b rb R (W + n) ∧ Gr w w' (fun j => j = b)) ∨
    ((k = 1 → R + n < 0 ∨ 100 < R + n) ∧ (k = 2 → W + n < 0 ∨ 100 < W + n) ∧ e = .returned (.int .i64 2) ∧ Same w w') := by
  by_cases h1 : k = 1
  · subst h1
    refine (change_reader b rb R W n w h hR hn).mono ?_
    rintro e w' (⟨a, c, rfl, p, g⟩ | ⟨a, rfl, g⟩)
    · exact .inl ⟨rfl, a, c, rfl, p, g⟩
    · exact .inr (.inr ⟨fun _ => a, fun h => absurd h (by decide), rfl, g⟩)
  · by_cases h2 : k = 2
    · subst h2
      refine (change_writer b rb R W n w h hW hn).mono ?_
      rintro e w' (⟨a, c, rfl, p, g⟩ | ⟨a, rfl, g⟩)
      · exact .inr (.inl ⟨rfl, a, c, rfl, p, g⟩)
      · exact .inr (.inr ⟨fun h => absurd h (by decide), fun _ => a, rfl, g⟩)
    · refine (change_bad b k n w (by unfold isEnd; simp [h1, h2])).mono ?_
      rintro e w' ⟨rfl, g⟩
      exact .inr (.inr ⟨fun h => absurd h h1, fun h => absurd h h2, rfl, g⟩)
/-- What is told of one end more. -/
def OpenPost (w : World) (b rb : Nat) (R W k : Int) (e : Ending) (w' : World) : Prop :=
  (k = 1 ∧ R < 100 ∧ e = .returned (.int .i64 0) ∧ PB w' b rb (R + 1) W ∧ Gr w w' (fun j => j = b)) ∨
  (k = 2 ∧ W < 100 ∧ e = .returned (.int .i64 0) ∧ PB w' b rb R (W + 1) ∧ Gr w w' (fun j => j = b)) ∨
  ((k = 1 → R = 100) ∧ (k = 2 → W = 100) ∧ e = .returned (.int .i64 2) ∧ Same w w')
theorem open_any (b rb : Nat) (R W : Int) (k : Int) (w : World) (h : PB w b rb R W) (hR : 0 ≤ R ∧ R ≤ 100) (hW : 0 ≤ W ∧ W ≤ 100) : Calls Tryd.prog 19 #[.pointer (some ⟨b, 0, none⟩), .int .i64 k] w (OpenPost w b rb R W k) := by
  go_enter Tryd.func19, Tryd.ntmps19
  go_wp2_with fail
  refine (change_any b rb R W 1 k _ h hR hW (by omega)).mono ?_
  rintro e w1 (⟨rfl, a, c, rfl, p, g⟩ | ⟨rfl, a, c, rfl, p, g⟩ | ⟨a, c, rfl, g⟩)
  · have hlt : R < 100 := by omega
    clear hR hW a c
    go_wp2
    go_ret
    exact Or.inl ⟨rfl, hlt, rfl, p, g⟩
  · have hlt : W < 100 := by omega
    clear hR hW a c
    go_wp2
    go_ret
    exact Or.inr (Or.inl ⟨rfl, hlt, rfl, p, g⟩)
  · have h1 : k = 1 → R = 100 := fun h => by have := a h; omega
    have h2 : k = 2 → W = 100 := fun h => by have := c h; omega
    clear a c
    go_wp2
    go_ret
    exact Or.inr (Or.inr ⟨h1, h2, rfl, g⟩)
end Go.Proofs
