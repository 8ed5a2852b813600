/- Contracts of cred's small functions. -/
import Derived.Test.YthijminlalddcaaGreatDoorC
set_option linter.unusedVariables false
set_option linter.unusedSimpArgs false
namespace Go.Proofs
open Go.RowKit

def okN (n : Int) : Bool := decide (0 ≤ n) && decide (n ≤ 65535)
def areB (xs : List Int) : Bool := xs.all okN

theorem okN_false {n : Int} (h : n < 0 ∨ 65535 < n) : okN n = false := by unfold okN; simp; omega
theorem okN_true {n : Int} (h : 0 ≤ n) (h' : n ≤ 65535) : okN n = true := by unfold okN; simp; omega

theorem areB_take_succ (xs : List Int) (k : Nat) (hk : k < xs.length) (h : areB (xs.take k) = true) (h1 : okN (xs[k]?.getD 0) = true) : areB (xs.take (k + 1)) = true := by
  unfold areB at *
  rw [List.take_succ_eq_append_getElem hk, List.all_append, h]
  simp [List.getElem?_eq_getElem hk] at h1
  simp [h1]

theorem areB_false (xs : List Int) (k : Nat) (hk : k < xs.length) (h1 : okN (xs[k]?.getD 0) = false) : areB xs = false := by
  unfold areB
  rw [List.all_eq_false]
  refine ⟨xs[k], List.getElem_mem hk, ?_⟩
  simp [List.getElem?_eq_getElem hk] at h1
  simp [h1]

set_option maxHeartbeats 400000 in
theorem are_any (xs : List Int) (b : Nat) (n : Nat) (w : World) (hn : xs.length = n) (hn8 : n ≤ 8)
    (hc : ∀ j, j < n → w.cell? ⟨b, j, none⟩ = some (.int .i64 (xs[j]?.getD 0))) :
    Calls Tryz.prog 65 #[.slice (some ⟨b, 0, none⟩) n n] w fun e w' => e = .returned (.bool (areB xs)) ∧ w = w' := by
  have HN := Lib.hid hn
  clear hn
  go_enter Tryz.func65, Tryz.ntmps65
  go_wp2
  go_loop [2, 4, 7] (fun r v i => r = .bool false ∧ ∃ k : Nat, k ≤ n ∧ i = .int .i64 k ∧ areB (xs.take k) = true) (fun _ _ i => n - (intOf i).toNat)
  case atStart => exact ⟨rfl, 0, Nat.zero_le _, rfl, rfl⟩
  case round =>
    obtain ⟨rfl, k, hk, rfl, hall⟩ := hrel
    have HA := Lib.hid hall
    clear hall
    by_cases hlt : k < n
    · have hck := hc k hlt
      have HK : Hid (k < xs.length) := by rw [HN.out]; exact hlt
      clear hc
      generalize hx : xs[k]?.getD 0 = x at hck
      have HX := Lib.hid hx
      clear hx
      go_wp2
      · go_ret
        rw [areB_false xs k HK.out (by rw [HX.out]; exact okN_false (by omega))]
        exact ⟨rfl, rfl⟩
      · go_round
        case rel => exact ⟨rfl, k + 1, by omega, by go_num, areB_take_succ xs k HK.out HA.out (by rw [HX.out]; exact okN_true (by omega) (by omega))⟩
        case measure => simp [intOf]; omega
      · go_ret
        rw [areB_false xs k HK.out (by rw [HX.out]; exact okN_false (by omega))]
        exact ⟨rfl, rfl⟩
    · go_wp2
      go_ret
      have h1 : areB xs = true := by
        have := HA.out
        rwa [List.take_of_length_le (by rw [HN.out]; omega)] at this
      rw [h1]
      exact ⟨rfl, rfl⟩

theorem are_blk (xs : List Int) (b : Nat) (w : World) (t : TypeId) (hn8 : xs.length ≤ 8) (hb : w.heap[b]? = some (.cells (xs.map (Value.int .i64)).toArray t (0, 0))) :
    Calls Tryz.prog 65 #[.slice (some ⟨b, 0, none⟩) xs.length xs.length] w fun e w' => e = .returned (.bool (areB xs)) ∧ w = w' := by
  refine are_any xs b xs.length w rfl hn8 ?_
  intro j hj
  simp [World.cell?, hb, List.getElem?_eq_getElem hj]

theorem below_two (w : World) (a b : Obj) : Below w.heap.size w ((w.alloc a).alloc b) := ((Below.refl _ _).alloc (Nat.le_refl _) _).alloc (by simp) _

set_option maxHeartbeats 400000 in
theorem right_any (u g : Int) (w : World) :
    Calls Tryz.prog 37 #[.agg #[.int .i64 u, .int .i64 g]] w fun e w' => e = .returned (.bool (areB [u, g])) ∧ Below w.heap.size w w' := by
  go_enter Tryz.func37, Tryz.ntmps37
  go_wp2_with (go_at_call 65; refine (are_blk [u, g] _ _ 3 (by simp) (heap_at _ _ _ (by simp))).mono ?_; rintro e w' ⟨rfl, rfl⟩)
  go_ret
  exact ⟨rfl, below_two _ _ _⟩

def permB (u g cu cg m : Int) : Bool := areB [u, g, cu, cg] && decide (0 ≤ m) && decide (m ≤ 511)

set_option maxHeartbeats 400000 in
theorem rightPerm_any (u g cu cg m : Int) (w : World) :
    Calls Tryz.prog 61 #[.agg #[.int .i64 u, .int .i64 g, .int .i64 cu, .int .i64 cg, .int .i64 m]] w fun e w' => e = .returned (.bool (permB u g cu cg m)) ∧ Below w.heap.size w w' := by
  go_enter Tryz.func61, Tryz.ntmps61
  go_wp2_with (go_at_call 65; refine (are_blk [u, g, cu, cg] _ _ 3 (by simp) (heap_at _ _ _ (by simp))).mono ?_; rintro e w' ⟨rfl, rfl⟩)
  all_goals (go_ret; exact ⟨by first | (simp [permB, *]; done) | (simp [permB, *]; intros; omega), below_two _ _ _⟩)
end Go.Proofs
