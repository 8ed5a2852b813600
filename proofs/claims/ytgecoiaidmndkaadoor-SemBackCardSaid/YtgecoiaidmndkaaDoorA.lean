/- Semaphores: the sentinels, what they tell; the small functions. -/
import Derived.Test.YtgecoiaidmndkaaDoorI
import Derived.Deep.QuietTactic
import Derived.BigQuiet
set_option linter.unusedVariables false
set_option linter.unusedSimpArgs false
namespace Go.Proofs
open Go.RowKit Go.Shelf
attribute [local go_sem] Oper.semAt_some

/-- The three sentinels lie. -/
structure Sen (w : World) (aR aA aW : Addr) : Prop where
  g0 : w.cell? ⟨0, 0, none⟩ = some (.iface 69 (.pointer (some aR)))
  g1 : w.cell? ⟨1, 0, none⟩ = some (.iface 69 (.pointer (some aA)))
  g2 : w.cell? ⟨2, 0, none⟩ = some (.iface 69 (.pointer (some aW)))
  bR : ∃ c t, w.heap[aR.block]? = some (.cells c t (0, 0))
  bA : ∃ c t, w.heap[aA.block]? = some (.cells c t (0, 0))
  bW : ∃ c t, w.heap[aW.block]? = some (.cells c t (0, 0))
  nRA : aR ≠ aA
  nRW : aR ≠ aW
  nAW : aA ≠ aW
theorem Sen.same {w w' : World} {aR aA aW : Addr} (h : Sen w aR aA aW) (hG : Same w w') : Sen w' aR aA aW := by
  have hb : ∀ {b : Nat}, (∃ c t, w.heap[b]? = some (.cells c t (0, 0))) → ∃ c t, w'.heap[b]? = some (.cells c t (0, 0)) := fun ⟨c, t, h⟩ => ⟨c, t, hG.blk (show Blk w _ t c from h) (fun f => f)⟩
  have hc : ∀ {g : Nat} {v : Value}, w.cell? ⟨g, 0, none⟩ = some v → w'.cell? ⟨g, 0, none⟩ = some v := fun {g v} h => (hG.cell (p := ⟨g, 0, none⟩) (World.block_lt_of_cell? _ _ h) (fun f => f)).trans h
  exact ⟨hc h.g0, hc h.g1, hc h.g2, hb h.bR, hb h.bA, hb h.bW, h.nRA, h.nRW, h.nAW⟩

/-- What is wrong: 0 nothing, 1 too much, 2 refused, 3 wait. -/
def errV (aR aA aW : Addr) : Nat → Value
  | 0 => .nilIface
  | 1 => .iface 69 (.pointer (some aR))
  | 2 => .iface 69 (.pointer (some aA))
  | _ => .iface 69 (.pointer (some aW))
def code : Nat → Int | 0 => 0 | 1 => 132 | 2 => 63 | _ => 133

variable {aR aA aW : Addr}
set_option maxHeartbeats 1000000 in
theorem told_any (k : Nat) (w : World) (h : Sen w aR aA aW) : Calls Tryd.prog 28 #[errV aR aA aW k] w fun e w' => e = .returned (.int .i64 (code k)) ∧ w = w' := by
  have g0 := h.g0
  have g1 := h.g1
  have g2 := h.g2
  obtain ⟨cR, tR, bR⟩ := h.bR
  obtain ⟨cA, tA, bA⟩ := h.bA
  obtain ⟨cW, tW, bW⟩ := h.bW
  match k with
  | 0 =>
    unfold errV code
    go_enter Tryd.func28, Tryd.ntmps28
    go_wp2_with fail
    refine (is_nil aR _).mono ?_; rintro e w1 ⟨rfl, rfl⟩
    go_wp2_with fail
    refine (is_nil aA _).mono ?_; rintro e w1 ⟨rfl, rfl⟩
    go_wp2_with fail
    refine (is_nil aW _).mono ?_; rintro e w1 ⟨rfl, rfl⟩
    go_wp2
    go_ret
    exact ⟨rfl, rfl⟩
  | 1 =>
    unfold errV code
    go_enter Tryd.func28, Tryd.ntmps28
    go_wp2_with fail
    refine (is_same aR _).mono ?_; rintro e w1 ⟨rfl, rfl⟩
    go_wp2
    go_ret
    exact ⟨rfl, rfl⟩
  | 2 =>
    unfold errV code
    go_enter Tryd.func28, Tryd.ntmps28
    go_wp2_with fail
    refine (is_other aA aR _ _ _ _ _ h.nRA.symm bA bR).mono ?_; rintro e w1 ⟨rfl, rfl⟩
    go_wp2_with fail
    refine (is_same aA _).mono ?_; rintro e w1 ⟨rfl, rfl⟩
    go_wp2
    go_ret
    exact ⟨rfl, rfl⟩
  | n + 3 =>
    unfold errV code
    go_enter Tryd.func28, Tryd.ntmps28
    go_wp2_with fail
    refine (is_other aW aR _ _ _ _ _ h.nRW.symm bW bR).mono ?_; rintro e w1 ⟨rfl, rfl⟩
    go_wp2_with fail
    refine (is_other aW aA _ _ _ _ _ h.nAW.symm bW bA).mono ?_; rintro e w1 ⟨rfl, rfl⟩
    go_wp2_with fail
    refine (is_same aW _).mono ?_; rintro e w1 ⟨rfl, rfl⟩
    go_wp2
    go_ret
    exact ⟨rfl, rfl⟩

def okN (n : Int) : Bool := decide (0 ≤ n) && decide (n ≤ 32767)
def areB (xs : List Int) : Bool := xs.all okN
theorem okN_false {n : Int} (h : n < 0 ∨ 32767 < n) : okN n = false := by unfold okN; simp; omega
theorem okN_true {n : Int} (h : 0 ≤ n) (h' : n ≤ 32767) : okN n = true := by unfold okN; simp; omega
theorem okN_iff {n : Int} : okN n = true ↔ 0 ≤ n ∧ n ≤ 32767 := by unfold okN; simp

theorem areB_take_succ (xs : List Int) (k : Nat) (hk : k < xs.length) (h : areB (xs.take k) = true) (h1 : okN (xs[k]?.getD 0) = true) : areB (xs.take (k + 1)) = true := by
  unfold areB at *
  rw [List.take_succ_eq_append_getElem hk, List.all_append, h]
  simp [List.getElem?_eq_getElem hk] at h1
  simp [h1]
theorem areB_false (xs : List Int) (k : Nat) (hk : k < xs.length) (h1 : okN (xs[k]?.getD 0) = false) : areB xs = false := by
  unfold areB
  rw [List.all_eq_false]
  refine ⟨xs[k], List.getElem_mem hk, ?_⟩
  simp [List.getElem?_eq_getElem hk] at h1
  simp [h1]

/-- A slice value reads as these whole numbers. -/
def Ints (w : World) (A : Option Addr) (xs : List Int) : Prop := 0 < xs.length → ∃ b off, A = some ⟨b, off, none⟩ ∧ b < w.heap.size ∧ ∀ j, j < xs.length → w.cell? ⟨b, off + j, none⟩ = some (.int .i64 (xs[j]?.getD 0))
theorem Ints.same {w w' : World} {A : Option Addr} {xs : List Int} (h : Ints w A xs) (hG : Same w w') : Ints w' A xs := fun hn => by
  obtain ⟨b, off, e, hb, hc⟩ := h hn
  exact ⟨b, off, e, Nat.lt_of_lt_of_le hb hG.size, fun j hj => (hG.cell (p := ⟨b, off + j, none⟩) hb (fun f => f)).trans (hc j hj)⟩

set_option maxHeartbeats 400000 in
theorem are_any (xs : List Int) (A : Option Addr) (n c : Nat) (w : World) (hn : xs.length = n) (hm : n ≤ maxLen) (hc : Ints w A xs) :
    Calls Tryd.prog 29 #[.slice A n c] w fun e w' => e = .returned (.bool (areB xs)) ∧ w = w' := by
  unfold maxLen at hm
  have HN := Lib.hid hn
  have HC := Lib.hid hc
  clear hn hc
  go_enter Tryd.func29, Tryd.ntmps29
  go_wp2
  go_loop [2, 4, 7] (fun r v i => r = .bool false ∧ ∃ k : Nat, k ≤ n ∧ i = .int .i64 k ∧ areB (xs.take k) = true) (fun _ _ i => n - (intOf i).toNat)
  case atStart => exact ⟨rfl, 0, Nat.zero_le _, rfl, rfl⟩
  case round =>
    obtain ⟨rfl, k, hk, rfl, hall⟩ := hrel
    have HA := Lib.hid hall
    clear hall
    by_cases hlt : k < n
    · have HK : Hid (k < xs.length) := by rw [HN.out]; exact hlt
      obtain ⟨b, off, rfl, hb, hc⟩ := HC.out (by have := HK.out; omega)
      have hck := hc k HK.out
      clear hc
      generalize hx : xs[k]?.getD 0 = x at hck
      have HX := Lib.hid hx
      clear hx
      go_wp2
      · go_ret
        rw [areB_false xs k HK.out (by rw [HX.out]; exact okN_false (by omega))]
        exact ⟨rfl, rfl⟩
      · go_round
        case rel => exact ⟨rfl, k + 1, by omega, by go_num, areB_take_succ xs k HK.out HA.out (by rw [HX.out]; exact okN_true (by omega) (by omega))⟩
        case measure => simp [intOf]; omega
      · go_ret
        rw [areB_false xs k HK.out (by rw [HX.out]; exact okN_false (by omega))]
        exact ⟨rfl, rfl⟩
    · go_wp2
      go_ret
      have h1 : areB xs = true := by
        have := HA.out
        rwa [List.take_of_length_le (by rw [HN.out]; omega)] at this
      rw [h1]
      exact ⟨rfl, rfl⟩

def rightB (xs : List Int) : Bool := decide (1 ≤ xs.length) && decide (xs.length ≤ 8) && areB xs
theorem right_any (xs : List Int) (A : Option Addr) (n c : Nat) (w : World) (hn : xs.length = n) (hm : n ≤ maxLen) (hc : Ints w A xs) :
    Calls Tryd.prog 15 #[.slice A n c] w fun e w' => e = .returned (.bool (rightB xs)) ∧ w = w' := by
  have HN := Lib.hid hn
  have HC := Lib.hid hc
  clear hn hc
  unfold maxLen at hm
  rcases (show n < 1 ∨ 8 < n ∨ (1 ≤ n ∧ n ≤ 8) by omega) with h | h | ⟨h, h'⟩
  · have e : rightB xs = false := by unfold rightB; rw [HN.out]; simp; omega
    rw [e]
    go_enter Tryd.func15, Tryd.ntmps15
    go_wp2
    all_goals (go_ret; exact ⟨rfl, rfl⟩)
  · have e : rightB xs = false := by unfold rightB; rw [HN.out]; simp; omega
    rw [e]
    go_enter Tryd.func15, Tryd.ntmps15
    go_wp2
    all_goals (go_ret; exact ⟨rfl, rfl⟩)
  · have e : rightB xs = areB xs := by unfold rightB; rw [HN.out]; simp [h, h']
    rw [e]
    go_enter Tryd.func15, Tryd.ntmps15
    go_wp2_with fail
    refine (are_any xs A n c _ HN.out (by unfold maxLen; omega) HC.out).mono ?_; rintro e w1 ⟨rfl, rfl⟩
    go_wp2
    go_ret
    exact ⟨rfl, rfl⟩

def inB (n : Nat) (k : Int) : Bool := decide (0 ≤ k) && decide (k < n)
theorem isIn_any (A : Option Addr) (n c : Nat) (k : Int) (w : World) (hm : n ≤ maxLen) : Calls Tryd.prog 25 #[.slice A n c, .int .i64 k] w fun e w' => e = .returned (.bool (inB n k)) ∧ w = w' := by
  unfold maxLen at hm
  go_enter Tryd.func25, Tryd.ntmps25
  go_wp2
  all_goals (go_ret; exact ⟨by first | rfl | (congr 2; unfold inB; simp; omega), rfl⟩)
end Go.Proofs
