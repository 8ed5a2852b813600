/- Pipes: made, asked, read, written. -/
import Derived.Test.YtdonlpldbdooaaaDoorU
import Derived.Test.YtdonlpldbdooaaaDoorG
set_option linter.unusedVariables false
set_option linter.unusedSimpArgs false
namespace Go.Proofs
open Go.RowKit Go.Shelf
attribute [local go_sem] Oper.semAt_some
variable {aW aB : Addr}

/-- A pipe, its ring, its bytes, its ends. -/
structure Pip (w : World) (b rb : Nat) (L : List UInt8) (R W : Int) : Prop where
  ne : rb ≠ b
  pb : PB w b rb R W
  rg : Ring w rb 32 L
  hr : 0 ≤ R ∧ R ≤ 100
  hw : 0 ≤ W ∧ W ≤ 100
theorem Pip.gr {w w' : World} {b rb : Nat} {L : List UInt8} {R W : Int} {X : Nat → Prop} (h : Pip w b rb L R W) (hG : Gr w w' X) (x1 : ¬ X b) (x2 : ¬ X rb) : Pip w' b rb L R W :=
  ⟨h.ne, hG.blk h.pb x1, h.rg.gr hG x2, h.hr, h.hw⟩
theorem Pip.lt {w : World} {b rb : Nat} {L : List UInt8} {R W : Int} (h : Pip w b rb L R W) : b < w.heap.size ∧ rb < w.heap.size := ⟨Blk.lt h.pb, h.rg.lt⟩

theorem pnew_any (w : World) : Calls Tryd.prog 11 #[] w fun e w' => ∃ b rb, w.heap.size ≤ b ∧ w.heap.size ≤ rb ∧ e = .returned (.pointer (some ⟨b, 0, none⟩)) ∧ Pip w' b rb [] 1 1 ∧ Same w w' := by
  go_enter Tryd.func11, Tryd.ntmps11
  go_wp2_with fail
  refine (new_ok 32 (by omega) (by omega) _).mono ?_; rintro e w1 ⟨rfl, hG1, hR1⟩
  go_wp2
  go_ret
  have hs := hG1.size
  have hl := hR1.lt
  exact ⟨w1.heap.size, w.heap.size + 1, hs, by omega, rfl, ⟨by omega, Blk.new _ _ _ _ rfl, hR1.gr (Gr.a1 _ _) (fun f => f), by omega, by omega⟩, hG1.next (Gr.a1 _ _)⟩
theorem plen_nil (w : World) : Calls Tryd.prog 16 #[.pointer none] w fun e w' => e = .returned (.int .i64 0) ∧ w = w' := by
  go_enter Tryd.func16, Tryd.ntmps16
  go_wp2
  go_ret
  exact ⟨rfl, rfl⟩
theorem plen_any (b rb : Nat) (L : List UInt8) (R W : Int) (w : World) (h : Pip w b rb L R W) : Calls Tryd.prog 16 #[.pointer (some ⟨b, 0, none⟩)] w fun e w' => e = .returned (.int .i64 L.length) ∧ w = w' := by
  have c0 := h.pb.c0
  go_enter Tryd.func16, Tryd.ntmps16
  go_wp2_with fail
  refine (len_any _ _ h.rg).mono ?_; rintro e w1 ⟨rfl, rfl⟩
  go_wp2
  go_ret
  exact ⟨rfl, rfl⟩
def canR (L : List UInt8) (W : Int) : Bool := decide (0 < L.length) || decide (W = 0)
def canW (L : List UInt8) (R : Int) : Bool := decide (L.length < 32) || decide (R = 0)
theorem canR_nil (w : World) : Calls Tryd.prog 17 #[.pointer none] w fun e w' => e = .returned (.bool false) ∧ w = w' := by
  go_enter Tryd.func17, Tryd.ntmps17
  go_wp2
  go_ret
  exact ⟨rfl, rfl⟩
theorem canW_nil (w : World) : Calls Tryd.prog 18 #[.pointer none] w fun e w' => e = .returned (.bool false) ∧ w = w' := by
  go_enter Tryd.func18, Tryd.ntmps18
  go_wp2
  go_ret
  exact ⟨rfl, rfl⟩
theorem canR_any (b rb : Nat) (L : List UInt8) (R W : Int) (w : World) (h : Pip w b rb L R W) : Calls Tryd.prog 17 #[.pointer (some ⟨b, 0, none⟩)] w fun e w' => e = .returned (.bool (canR L W)) ∧ w = w' := by
  have c3 := h.pb.c3
  have hL := h.rg.le
  have hp := plen_any b rb L R W w h
  rcases (show 0 < L.length ∨ (L.length = 0 ∧ W = 0) ∨ (L.length = 0 ∧ W ≠ 0) by omega) with hl | ⟨hl, rfl⟩ | ⟨hl, hw⟩
  · have e : canR L W = true := by unfold canR; simp [hl]
    rw [e]
    generalize L.length = z at *
    go_enter Tryd.func17, Tryd.ntmps17
    go_wp2_with fail
    refine hp.mono ?_; rintro e w1 ⟨rfl, rfl⟩
    go_wp2
    go_ret
    exact ⟨rfl, rfl⟩
  · have e : canR L 0 = true := by unfold canR; simp
    rw [e]
    rw [hl] at hp
    go_enter Tryd.func17, Tryd.ntmps17
    go_wp2_with fail
    refine hp.mono ?_; rintro e w1 ⟨rfl, rfl⟩
    go_wp2
    go_ret
    exact ⟨rfl, rfl⟩
  · have e : canR L W = false := by unfold canR; simp [hl, hw]
    have hw' : (W == 0) = false := by simp; omega
    rw [e]
    rw [hl] at hp
    go_enter Tryd.func17, Tryd.ntmps17
    go_wp2_with fail
    refine hp.mono ?_; rintro e w1 ⟨rfl, rfl⟩
    go_wp2
    go_ret
    exact ⟨rfl, rfl⟩
theorem canW_any (b rb : Nat) (L : List UInt8) (R W : Int) (w : World) (h : Pip w b rb L R W) : Calls Tryd.prog 18 #[.pointer (some ⟨b, 0, none⟩)] w fun e w' => e = .returned (.bool (canW L R)) ∧ Same w w' := by
  have c0 := h.pb.c0
  have hL := h.rg.le
  have hp := room_any rb w h.rg
  rcases (show L.length < 32 ∨ (L.length = 32 ∧ R = 0) ∨ (L.length = 32 ∧ R ≠ 0) by omega) with hl | ⟨hl, rfl⟩ | ⟨hl, hw⟩
  · have e : canW L R = true := by unfold canW; simp [hl]
    have h0 : 0 < 32 - L.length := by omega
    rw [e]
    generalize 32 - L.length = z at *
    go_enter Tryd.func18, Tryd.ntmps18
    go_wp2_with fail
    refine hp.mono ?_; rintro e w1 ⟨rfl, hG⟩
    go_wp2
    go_ret
    exact ⟨rfl, hG⟩
  · have e : canW L 0 = true := by unfold canW; simp
    rw [e]
    rw [show ((32 - L.length : Nat) : Int) = 0 by omega] at hp
    go_enter Tryd.func18, Tryd.ntmps18
    go_wp2_with fail
    refine hp.mono ?_; rintro e w1 ⟨rfl, hG⟩
    have c2 := (h.gr hG (fun f => f) (fun f => f)).pb.c2
    go_wp2
    go_ret
    exact ⟨rfl, hG⟩
  · have e : canW L R = false := by unfold canW; simp [hl, hw]
    have hw' : (R == 0) = false := by simp; omega
    rw [e]
    rw [show ((32 - L.length : Nat) : Int) = 0 by omega] at hp
    go_enter Tryd.func18, Tryd.ntmps18
    go_wp2_with fail
    refine hp.mono ?_; rintro e w1 ⟨rfl, hG⟩
    have c2 := (h.gr hG (fun f => f) (fun f => f)).pb.c2
    go_wp2
    go_ret
    exact ⟨rfl, hG⟩
end Go.Proofs
