/- PipeEnds. -/
import Derived.Test.YtdonlpldbdooaaaDoorFa
set_option linter.unusedVariables false
set_option linter.unusedSimpArgs false
namespace Go.Proofs
open Go.RowKit Go.Shelf
attribute [local go_sem] Oper.semAt_some
variable {aW aB : Addr}

theorem ps_open1 {w0 w : World} {b rb : Nat} {L : List UInt8} (k : Nat) {W : Int} (h : PS w0 w aW aB b rb L (1 + k) W) (hk : k < 99) : Calls Tryd.prog 19 #[.pointer (some ⟨b, 0, none⟩), .int .i64 1] w fun e w' => e = .returned (.int .i64 0) ∧ PS w0 w' aW aB b rb L (1 + ((k + 1 : Nat) : Int)) W := by
  have hw := ps_open h 1
  rw [show opE (1 + k) W 1 = 0 by unfold opE opOk; simp; omega, show opR (1 + k) 1 = 1 + ((k + 1 : Nat) : Int) by unfold opR; rw [if_pos ⟨rfl, by omega⟩]; omega, show opW W 1 = W by unfold opW; simp] at hw
  exact hw.mono fun e w' ⟨he, hp, _⟩ => ⟨he, hp⟩
theorem ps_open2 {w0 w : World} {b rb : Nat} {L : List UInt8} (k : Nat) {R : Int} (h : PS w0 w aW aB b rb L R (1 + k)) (hk : k < 99) : Calls Tryd.prog 19 #[.pointer (some ⟨b, 0, none⟩), .int .i64 2] w fun e w' => e = .returned (.int .i64 0) ∧ PS w0 w' aW aB b rb L R (1 + ((k + 1 : Nat) : Int)) := by
  have hw := ps_open h 2
  rw [show opE R (1 + k) 2 = 0 by unfold opE opOk; simp; omega, show opR R 2 = R by unfold opR; simp, show opW (1 + k) 2 = 1 + ((k + 1 : Nat) : Int) by unfold opW; rw [if_pos ⟨rfl, by omega⟩]; omega] at hw
  exact hw.mono fun e w' ⟨he, hp, _⟩ => ⟨he, hp⟩
theorem ps_close1 {w0 w : World} {b rb : Nat} {L : List UInt8} {R W : Int} (h : PS w0 w aW aB b rb L R W) (hR : 0 < R) (hW : 0 < W) : Calls Tryd.prog 15 #[.pointer (some ⟨b, 0, none⟩), .int .i64 1] w fun e w' => e = .returned (.tuple #[.bool false, .int .i64 0]) ∧ PS w0 w' aW aB b rb L (R - 1) W := by
  have hw := ps_close h 1
  have o1 : clOk R W 1 = true := by unfold clOk; simp [hR]
  have e2 : clR R 1 = R - 1 := by unfold clR; rw [if_pos ⟨rfl, hR⟩]
  have e3 : clW W 1 = W := by unfold clW; simp
  rw [show clG R W 1 = false by unfold clG; rw [o1, e2, e3]; simp; omega, show clE R W 1 = 0 by unfold clE; rw [o1]; rfl, e2, e3] at hw
  exact hw.mono fun e w' ⟨he, hp, _⟩ => ⟨he, hp⟩
theorem ps_close2 {w0 w : World} {b rb : Nat} {L : List UInt8} {W : Int} (x : Bool) (h : PS w0 w aW aB b rb L 0 W) (hW : 0 < W) (hx : x = decide (W - 1 = 0)) : Calls Tryd.prog 15 #[.pointer (some ⟨b, 0, none⟩), .int .i64 2] w fun e w' => e = .returned (.tuple #[.bool x, .int .i64 0]) ∧ PS w0 w' aW aB b rb L 0 (W - 1) := by
  have hw := ps_close h 2
  have o1 : clOk 0 W 2 = true := by unfold clOk; simp [hW]
  have e2 : clR 0 2 = 0 := by unfold clR; simp
  have e3 : clW W 2 = W - 1 := by unfold clW; rw [if_pos ⟨rfl, hW⟩]
  rw [show clG 0 W 2 = x by subst hx; unfold clG; rw [o1, e2, e3]; rw [Bool.eq_iff_iff]; simp; omega, show clE 0 W 2 = 0 by unfold clE; rw [o1]; rfl, e2, e3] at hw
  exact hw.mono fun e w' ⟨he, hp, _⟩ => ⟨he, hp⟩
theorem ps_close0 {w0 w : World} {b rb : Nat} {L : List UInt8} {W : Int} (h : PS w0 w aW aB b rb L 0 W) : Calls Tryd.prog 15 #[.pointer (some ⟨b, 0, none⟩), .int .i64 1] w fun e w' => e = .returned (.tuple #[.bool false, .int .i64 2]) ∧ PS w0 w' aW aB b rb L 0 W := by
  have hw := ps_close h 1
  have o1 : clOk 0 W 1 = false := by unfold clOk; simp
  rw [show clG 0 W 1 = false by unfold clG; rw [o1]; rfl, show clE 0 W 1 = 2 by unfold clE; rw [o1]; rfl, show clR 0 1 = 0 by unfold clR; simp, show clW W 1 = W by unfold clW; simp] at hw
  exact hw.mono fun e w' ⟨he, hp, _⟩ => ⟨he, hp⟩

set_option maxRecDepth 100000 in
set_option maxHeartbeats 8000000 in
theorem pipeEnds_walk (r m : Int) (w : World) (hS : Sen w aW aB) :
    Calls Tryd.prog 9 #[.int .i64 r, .int .i64 m] w fun e w' => e = .returned (.bool true) ∧ Below w.heap.size w w' := by
  by_cases hg : 0 ≤ r ∧ r ≤ 10 ∧ 0 ≤ m ∧ m ≤ 10
  · obtain ⟨hr0, hr1, hm0, hm1⟩ := hg
    obtain ⟨R, rfl⟩ : ∃ R : Nat, r = R := ⟨r.toNat, by omega⟩
    obtain ⟨M, rfl⟩ : ∃ M : Nat, m = M := ⟨m.toNat, by omega⟩
    go_enter Tryd.func9, Tryd.ntmps9
    go_wp2_with fail
    refine (shown_any (aW := aW) (aB := aB) _ hS).mono ?_; rintro e w0 ⟨rfl, hG0⟩
    go_wp2_with fail
    refine (ps_new _ (hS.same hG0)).mono ?_; rintro e w1 ⟨b, rb, rfl, hP⟩
    go_wp2
    go_loopw [7] (fun i wr => ∃ k : Nat, k ≤ R ∧ i = .int .i64 k ∧ PS w0 wr aW aB b rb [] (1 + k) 1) (fun i _ => R - (intOf i).toNat)
    case atStart => exact ⟨0, by omega, rfl, hP⟩
    case round =>
      obtain ⟨k, hk, rfl, hP⟩ := hrel
      by_cases hlt : k < R
      · go_wp2_with fail
        refine (ps_open1 k hP (by omega)).mono ?_; rintro e w2 ⟨rfl, hP2⟩
        go_wp2
        go_roundw
        case rel => exact ⟨k + 1, by omega, by go_num, hP2⟩
        case measure => simp [intOf]; omega
      · obtain rfl : k = R := by omega
        go_wp2
        obtain ⟨wo, rfl⟩ : ∃ wo : World, wo = wr := ⟨_, rfl⟩
        go_loopw [8] (fun i wr => ∃ j : Nat, j ≤ M ∧ i = .int .i64 j ∧ PS w0 wr aW aB b rb [] (1 + k) (1 + j)) (fun i _ => M - (intOf i).toNat)
        case atStart => exact ⟨0, by omega, rfl, hP⟩
        case round =>
          clear hP
          obtain ⟨j, hj, rfl, hP⟩ := hrel
          by_cases hlt : j < M
          · go_wp2_with fail
            refine (ps_open2 j hP (by omega)).mono ?_; rintro e w2 ⟨rfl, hP2⟩
            go_wp2
            go_roundw
            case rel => exact ⟨j + 1, by omega, by go_num, hP2⟩
            case measure => simp [intOf]; omega
          · obtain rfl : j = M := by omega
            go_wp2_with fail
            refine (ps_ends hP).mono ?_; rintro e w2 ⟨rfl, hP2, _⟩
            have hn1 : ((1 : Int) + j != j + 1) = false := by simp; omega
            have hn2 : ((1 : Int) + k != k + 1) = false := by simp; omega
            go_wp2
            clear hn1 hn2
            obtain ⟨wo, rfl⟩ : ∃ wo : World, wo = w2 := ⟨_, rfl⟩
            go_loopw [11, 12, 13] (fun i _ _ wr => ∃ q : Nat, q ≤ k + 1 ∧ i = .int .i64 q ∧ PS w0 wr aW aB b rb [] (1 + k - q) (1 + j)) (fun i _ _ _ => k + 1 - (intOf i).toNat)
            case atStart => exact ⟨0, by omega, rfl, by simpa using hP2⟩
            case round =>
              clear hP hP2
              obtain ⟨q, hq, rfl, hP⟩ := hrel
              by_cases hlt : q ≤ k
              · go_wp2_with fail
                refine (ps_close1 hP (by omega) (by omega)).mono ?_; rintro e w3 ⟨rfl, hP3⟩
                go_wp2
                go_roundw
                case rel => exact ⟨q + 1, by omega, by go_num, by rw [show (1 + k - ((q + 1 : Nat) : Int)) = 1 + k - q - 1 by omega]; exact hP3⟩
                case measure => simp [intOf]; omega
              · obtain rfl : q = k + 1 := by omega
                rw [show (1 + k - ((k + 1 : Nat) : Int)) = 0 by omega] at hP
                rw [show ((k + 1 : Nat) : Int) = (k : Int) + 1 from rfl]
                go_wp2
                obtain ⟨wp, rfl⟩ : ∃ wp : World, wp = wr := ⟨_, rfl⟩
                go_loopw [14, 15, 16] (fun i _ _ wr => ∃ q : Nat, q ≤ j + 1 ∧ i = .int .i64 q ∧ PS w0 wr aW aB b rb [] 0 (1 + j - q)) (fun i _ _ _ => j + 1 - (intOf i).toNat)
                case atStart => exact ⟨0, by omega, rfl, by simpa using hP⟩
                case round =>
                  clear hP
                  obtain ⟨q, hq, rfl, hP⟩ := hrel
                  rcases (show (q : Int) < j ∨ q = j ∨ q = j + 1 by omega) with hlt | rfl | rfl
                  · have hne : ((q : Int) == j) = false := by simp; omega
                    go_wp2_with fail
                    refine (ps_close2 false hP (by omega) (by simp; omega)).mono ?_; rintro e w3 ⟨rfl, hP3⟩
                    go_wp2
                    go_roundw
                    case rel => exact ⟨q + 1, by omega, by go_num, by rw [show (1 + j - ((q + 1 : Nat) : Int)) = 1 + j - q - 1 by omega]; exact hP3⟩
                    case measure => simp [intOf]; omega
                  · go_wp2_with fail
                    refine (ps_close2 true hP (by omega) (by rw [eq_comm, decide_eq_true_iff]; omega)).mono ?_; rintro e w3 ⟨rfl, hP3⟩
                    go_wp2
                    go_roundw
                    case rel => exact ⟨q + 1, by omega, by go_num, by rw [show (1 + q - ((q + 1 : Nat) : Int)) = 1 + q - q - 1 by omega]; exact hP3⟩
                    case measure => simp [intOf]
                  · go_wp2_with fail
                    refine (ps_close0 hP).mono ?_; rintro e w3 ⟨rfl, hP3⟩
                    go_wp2
                    go_ret
                    exact ⟨rfl, (hG0.next hP3.g).below⟩
  · go_enter Tryd.func9, Tryd.ntmps9
    go_wp2_with fail
    refine (shown_any (aW := aW) (aB := aB) _ hS).mono ?_; rintro e w0 ⟨rfl, hG0⟩
    rcases (show r < 0 ∨ (0 ≤ r ∧ m < 0) ∨ (0 ≤ r ∧ 0 ≤ m ∧ 10 < r) ∨ (0 ≤ r ∧ 0 ≤ m ∧ r ≤ 10 ∧ 10 < m) by omega) with h | ⟨h1, h⟩ | ⟨h1, h2, h⟩ | ⟨h1, h2, h3, h⟩
    all_goals
      go_wp2
      go_ret
      exact ⟨rfl, hG0.below⟩
end Go.Proofs
