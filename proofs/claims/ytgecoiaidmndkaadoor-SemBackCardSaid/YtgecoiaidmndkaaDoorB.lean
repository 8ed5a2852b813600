/- Semaphores: what is wrong with one operation. -/
import Derived.Test.YtgecoiaidmndkaaDoorA
set_option linter.unusedVariables false
set_option linter.unusedSimpArgs false
namespace Go.Proofs
open Go.RowKit Go.Shelf
attribute [local go_sem] Oper.semAt_some

theorem band1 (x : Int) (h : -9223372036854775808 ≤ x) (h' : x < 9223372036854775808) : bits .and .i64 x 1 = x % 2 := by
  show IntKind.i64.wrap ((BitVec.ofInt 64 x &&& BitVec.ofInt 64 1).toNat : Int) = _
  have e1 : (BitVec.ofInt 64 1).toNat = 1 := by decide
  have e2 : ((BitVec.ofInt 64 x).toNat : Int) = x % 18446744073709551616 := by
    rw [BitVec.toNat_ofInt]; simp; omega
  rw [BitVec.toNat_and, e1, Nat.and_one_is_mod, IntKind.wrap_i64]
  omega

/-- Must one wait, of a value v, at a change d? -/
def mw (v d : Int) : Bool := if d < 0 then decide (d < -v) else if d = 0 then decide (v ≠ 0) else false
/-- What is wrong (as a number). -/
def erk (v d fl : Int) : Nat := if d > 32767 - v then 1 else if mw v d then (if fl % 2 ≠ 0 then 2 else 3) else 0

theorem mustWait_any (v num d fl : Int) (h0 : 0 ≤ v) (h1 : v ≤ 32767) (w : World) : Calls Tryd.prog 30 #[.int .i64 v, .agg #[.int .i64 num, .int .i64 d, .int .i64 fl]] w fun e w' => e = .returned (.bool (mw v d)) ∧ Same w w' := by
  rcases (show d < 0 ∨ d = 0 ∨ 0 < d by omega) with h | h | h
  · have e : mw v d = decide (d < -v) := by unfold mw; rw [if_pos h]
    rw [e]
    go_enter Tryd.func30, Tryd.ntmps30
    go_wp2
    all_goals (go_ret; exact ⟨rfl, Gr.a1 _ _⟩)
  · subst h
    have e : mw v 0 = decide (v ≠ 0) := by unfold mw; simp
    rw [e]
    go_enter Tryd.func30, Tryd.ntmps30
    go_wp2
    all_goals (go_ret; exact ⟨by first | rfl | (congr 2; simp; done) | (congr 2; simp; rfl), Gr.a1 _ _⟩)
  · have e : mw v d = false := by unfold mw; rw [if_neg (by omega), if_neg (by omega)]
    rw [e]
    go_enter Tryd.func30, Tryd.ntmps30
    go_wp2
    all_goals (go_ret; exact ⟨rfl, Gr.a1 _ _⟩)

variable {aR aA aW : Addr}
set_option maxHeartbeats 1000000 in
theorem wrong_any (v num d fl : Int) (h0 : 0 ≤ v) (h1 : v ≤ 32767) (f0 : -9223372036854775808 ≤ fl) (f1 : fl < 9223372036854775808) (w : World) (h : Sen w aR aA aW) :
    Calls Tryd.prog 32 #[.int .i64 v, .agg #[.int .i64 num, .int .i64 d, .int .i64 fl]] w fun e w' => e = .returned (errV aR aA aW (erk v d fl)) ∧ Same w w' := by
  have hand := band1 fl f0 f1
  have hS1 : Sen (w.alloc (.cells #[.int .i64 num, .int .i64 d, .int .i64 fl] 32)) aR aA aW := h.same (Gr.a1 _ _)
  have k0 := hS1.g0
  have hl := World.block_lt_of_cell? _ _ h.g0
  by_cases c1 : 32767 - v < d
  · have e : erk v d fl = 1 := by unfold erk; rw [if_pos c1]
    rw [e]
    show Calls _ _ _ _ fun e w' => e = .returned (.iface 69 (.pointer (some aR))) ∧ Same w w'
    clear hand e
    go_enter Tryd.func32, Tryd.ntmps32
    go_wp2
    go_ret
    exact ⟨rfl, Gr.a1 _ _⟩
  · have hm := mustWait_any v num d fl h0 h1
    cases hmw : mw v d
    · have e : erk v d fl = 0 := by unfold erk; rw [if_neg (by omega), hmw]; rfl
      rw [e]
      show Calls _ _ _ _ fun e w' => e = .returned .nilIface ∧ Same w w'
      rw [hmw] at hm
      clear hand e hmw
      go_enter Tryd.func32, Tryd.ntmps32
      go_wp2_with fail
      refine (hm _).mono ?_; rintro e w1 ⟨rfl, hG1⟩
      have hB1 := hG1.blk (Blk.new w 32 #[.int .i64 num, .int .i64 d, .int .i64 fl] _ rfl) (fun f => f)
      have j0 := hB1.cell 0
      have j1 := hB1.cell 1
      have j2 := hB1.cell 2
      simp at j0 j1 j2
      go_wp2_with fail
      refine (hm _).mono ?_; rintro e w2 ⟨rfl, hG2⟩
      go_wp2
      go_ret
      exact ⟨rfl, ((Gr.a1 _ _).next hG1).next hG2⟩
    · rw [hmw] at hm
      by_cases c2 : fl % 2 = 0
      · have e : erk v d fl = 3 := by unfold erk; rw [if_neg (by omega), hmw]; simp [c2]
        rw [e]
        show Calls _ _ _ _ fun e w' => e = .returned (.iface 69 (.pointer (some aW))) ∧ Same w w'
        rw [c2] at hand
        clear e hmw c2
        go_enter Tryd.func32, Tryd.ntmps32
        go_wp2_with fail
        refine (hm _).mono ?_; rintro e w1 ⟨rfl, hG1⟩
        have hB1 := hG1.blk (Blk.new w 32 #[.int .i64 num, .int .i64 d, .int .i64 fl] _ rfl) (fun f => f)
        have j0 := hB1.cell 0
        have j1 := hB1.cell 1
        have j2 := hB1.cell 2
        simp at j0 j1 j2
        go_wp2_with fail
        refine (hm _).mono ?_; rintro e w2 ⟨rfl, hG2⟩
        have k2 := ((hS1.same hG1).same hG2).g2
        go_wp2
        go_ret
        exact ⟨rfl, ((Gr.a1 _ _).next hG1).next hG2⟩
      · have e : erk v d fl = 2 := by unfold erk; rw [if_neg (by omega), hmw]; simp [c2]
        rw [e]
        show Calls _ _ _ _ fun e w' => e = .returned (.iface 69 (.pointer (some aA))) ∧ Same w w'
        clear e hmw
        have c3 : fl % 2 = 1 := by omega
        rw [c3] at hand
        clear c2 c3
        go_enter Tryd.func32, Tryd.ntmps32
        go_wp2_with fail
        refine (hm _).mono ?_; rintro e w1 ⟨rfl, hG1⟩
        have hB1 := hG1.blk (Blk.new w 32 #[.int .i64 num, .int .i64 d, .int .i64 fl] _ rfl) (fun f => f)
        have j0 := hB1.cell 0
        have j1 := hB1.cell 1
        have j2 := hB1.cell 2
        simp at j0 j1 j2
        have k1 := (hS1.same hG1).g1
        go_wp2
        go_ret
        exact ⟨rfl, (Gr.a1 _ _).next hG1⟩
end Go.Proofs
