/- Pipes: written. -/
import Derived.Test.YtdonlpldbdooaaaDoorV
import Derived.Test.YtdonlpldbdooaaaDoorH
set_option linter.unusedVariables false
set_option linter.unusedSimpArgs false
namespace Go.Proofs
open Go.RowKit Go.Shelf
attribute [local go_sem] Oper.semAt_some
variable {aW aB : Addr}

theorem write_nil (s : ByteArray) (w : World) : Calls Tryd.prog 13 #[.pointer none, .string s] w fun e w' => e = .returned (.tuple #[.int .i64 0, .int .i64 1]) ∧ w = w' := by
  go_enter Tryd.func13, Tryd.ntmps13
  go_wp2
  go_ret2
  exact ⟨rfl, rfl⟩
/-- What is told of a write. -/
def WritePost (w : World) (b rb : Nat) (L : List UInt8) (R W : Int) (s : ByteArray) (e : Ending) (w' : World) : Prop :=
  (R = 0 ∧ e = .returned (.tuple #[.int .i64 0, .int .i64 90]) ∧ Same w w') ∨
  (R ≠ 0 ∧ s.size ≠ 0 ∧ L.length = 32 ∧ e = .returned (.tuple #[.int .i64 0, .int .i64 63]) ∧ Same w w') ∨
  (R ≠ 0 ∧ (s.size = 0 ∨ L.length < 32) ∧ e = .returned (.tuple #[.int .i64 ((min s.size (32 - L.length) : Nat) : Int), .int .i64 0]) ∧ Pip w' b rb (L ++ s.data.toList.take (min s.size (32 - L.length))) R W ∧ Gr w w' (fun j => j = rb))
theorem write_any (b rb : Nat) (L : List UInt8) (R W : Int) (s : ByteArray) (hs : s.size ≤ maxLen) (w : World) (h : Pip w b rb L R W) (hS : Sen w aW aB) : Calls Tryd.prog 13 #[.pointer (some ⟨b, 0, none⟩), .string s] w (WritePost w b rb L R W s) := by
  have c0 := h.pb.c0
  have c2 := h.pb.c2
  have g0 := hS.g0
  have g1 := hS.g1
  have hL := h.rg.le
  have hc := canW_any b rb L R W w h
  have hput : ∀ W1, Same w W1 → Calls Tryd.prog 28 #[.pointer (some ⟨rb, 0, none⟩), .string s] W1 fun e w' => e = .returned (.tuple #[.int .i64 ((min s.size (32 - L.length) : Nat) : Int), .int .i64 0]) ∧ Pip w' b rb (L ++ s.data.toList.take (min s.size (32 - L.length))) R W ∧ Gr w w' (fun j => j = rb) := fun W1 hG1 =>
    (put_any rb s hs W1 (h.rg.gr hG1 (fun f => f))).mono fun e w' ⟨he, hr, hG⟩ => ⟨he, ⟨h.ne, hG.blk (hG1.blk h.pb (fun f => f)) (fun e => h.ne e.symm), hr, h.hr, h.hw⟩, (hG1.no).trans hG (fun j _ f => f)⟩
  by_cases hR : R = 0
  · subst hR
    clear hc hput
    go_enter Tryd.func13, Tryd.ntmps13
    go_wp2_with fail
    refine (told_broken _ hS).mono ?_; rintro e w1 ⟨rfl, rfl⟩
    go_wp2
    go_ret2
    exact Or.inl ⟨rfl, rfl, Gr.refl _ _⟩
  · have hR' : (R == 0) = false := by simp; omega
    by_cases hz : s.size = 0
    · have hem : s.toList.isEmpty = true := empty_yes (List.eq_nil_of_length_eq_zero (by rw [← Lib.size_eq]; exact hz))
      have hp := hput w (Gr.refl _ _)
      clear hput hc
      unfold WritePost
      generalize min s.size (32 - L.length) = z at hp ⊢
      go_enter Tryd.func13, Tryd.ntmps13
      go_wp2_with fail
      refine hp.mono ?_; rintro e w1 ⟨rfl, hP, hG⟩
      go_wp2
      go_ret2
      exact Or.inr (Or.inr ⟨hR, .inl hz, rfl, hP, hG⟩)
    · have hne : s.toList.isEmpty = false := empty_no (fun h0 => hz (by rw [Lib.size_eq, h0]; rfl))
      by_cases hl : L.length < 32
      · have hcw : canW L R = true := by unfold canW; simp [hl]
        rw [hcw] at hc
        go_enter Tryd.func13, Tryd.ntmps13
        go_wp2_with fail
        refine hc.mono ?_; rintro e w1 ⟨rfl, hG1⟩
        have c0' := (h.gr hG1 (fun f => f) (fun f => f)).pb.c0
        clear c0
        go_wp2_with fail
        refine (hput _ hG1).mono ?_; rintro e w2 ⟨rfl, hP, hG⟩
        go_wp2
        go_ret2
        exact Or.inr (Or.inr ⟨hR, .inr hl, rfl, hP, hG⟩)
      · have hcw : canW L R = false := by unfold canW; simp [hl, hR]
        rw [hcw] at hc
        clear hput
        go_enter Tryd.func13, Tryd.ntmps13
        go_wp2_with fail
        refine hc.mono ?_; rintro e w1 ⟨rfl, hG⟩
        have hS1 := hS.same hG
        have g0' := hS1.g0
        clear g0 g1
        go_wp2_with fail
        refine (told_wait _ hS1).mono ?_; rintro e w2 ⟨rfl, rfl⟩
        go_wp2
        go_ret2
        exact Or.inr (Or.inl ⟨hR, hz, by omega, rfl, hG⟩)
end Go.Proofs
