/- RingDoes. -/
import Derived.Test.YtjidipfagnmibaaN
set_option linter.unusedVariables false
set_option linter.unusedSimpArgs false
namespace Go.Proofs
open Go.RowKit Go.Shelf

def Acts (w : World) (A : Option Addr) (n : Nat) (Pt : Nat → Bool) (S : Nat → ByteArray) (N : Nat → Int) : Prop :=
  0 < n → ∃ g off, A = some ⟨g, off, none⟩ ∧ g < w.heap.size ∧ ∀ i, i < n → w.cell? ⟨g, off + i * 3 + 0, none⟩ = some (.bool (Pt i)) ∧ w.cell? ⟨g, off + i * 3 + 1, none⟩ = some (.string (S i)) ∧ (S i).size ≤ maxLen ∧ w.cell? ⟨g, off + i * 3 + 2, none⟩ = some (.int .i64 (N i))

def tx (s : ByteArray) : ByteArray := ⟨(s.data.toList.take 100).toArray⟩
theorem tx_size (s : ByteArray) : (tx s).size ≤ 100 := by rw [Lib.size_eq]; simp [tx]; omega
theorem text_tx (s : ByteArray) (hs : s.size ≤ maxLen) (w : World) : Calls Try.prog 13 #[.string s] w fun e w' => e = .returned (.string (tx s)) ∧ w = w' := text_any s hs w
theorem rput_same (L : List UInt8) (sz : Nat) (s : ByteArray) (m : Nat) (L' : List UInt8) (h1 : L.length ≤ sz) (h2 : sz ≤ 64) (h3 : s.size ≤ 100) (hm : min s.size (sz - L.length) = m) (hL : L ++ s.data.toList.take m = L') (w : World) :
    Calls Try.prog 15 #[.string ⟨L.toArray⟩, .int .i64 sz, .string s] w fun e w' => e = .returned (.tuple #[.string ⟨L'.toArray⟩, .int .i64 m]) ∧ Same w w' := by
  have e : L ++ s.data.toList.take (sz - L.length) = L' := by
    rw [← hL, ← hm]
    congr 1
    rw [Lib.size_eq, List.take_eq_take_iff]
    omega
  have := rput_any L sz s h1 h2 (by unfold maxLen; omega) w
  rw [e, hm] at this
  exact this

set_option maxRecDepth 100000 in
set_option maxHeartbeats 4000000 in
theorem ringDoes_walk (sz : Int) (A : Option Addr) (n cap : Nat) (Pt : Nat → Bool) (S : Nat → ByteArray) (N : Nat → Int) (w : World) (ha : Acts w A n Pt S N) (hn : n ≤ maxLen) :
    Calls Try.prog 4 #[.int .i64 sz, .slice A n cap] w fun e w' => e = .returned (.bool true) ∧ Below w.heap.size w w' := by
  unfold maxLen at hn
  by_cases hr : 1 ≤ sz ∧ sz ≤ 64
  · obtain ⟨h1, h2⟩ := hr
    obtain ⟨z, rfl⟩ : ∃ z : Nat, sz = z := ⟨sz.toNat, by omega⟩
    go_enter Try.func4, Try.ntmps4
    go_wp2_with fail
    refine (shown_any _).mono ?_; rintro e w1 ⟨rfl, hG1⟩
    go_wp2_with fail
    refine (new_ok z (by omega) (by omega) _).mono ?_; rintro e w2 ⟨rfl, hG2, hR0⟩
    have hz1 := hG1.size
    have hG0 : Same w w2 := hG1.next hG2
    clear hG1 hG2
    obtain ⟨b, hb⟩ : ∃ b, w1.heap.size + 1 = b := ⟨_, rfl⟩
    rw [hb] at hR0 ⊢
    have hwb : w.heap.size ≤ b := by omega
    clear hb hz1
    go_wp2
    go_loopw [8, 9, 10, 11, 12, 13, 14, 15, 16, 17] (fun h i _ _ _ _ _ _ _ _ wr => ∃ (k : Nat) (L : List UInt8), k ≤ n ∧ i = .int .i64 k ∧ h = .string ⟨L.toArray⟩ ∧ Ring wr b z L ∧ Same w wr) (fun _ i _ _ _ _ _ _ _ _ _ => n - (intOf i).toNat)
    case atStart => exact ⟨0, [], by omega, rfl, rfl, hR0, hG0⟩
    case round =>
      obtain ⟨k, L, hk, rfl, rfl, hR, hG⟩ := hrel
      by_cases hlt : k < n ∧ k < 200
      · obtain ⟨hlt, hlt2⟩ := hlt
        obtain ⟨g, off, rfl, hg, hc⟩ := ha (by omega)
        obtain ⟨d0, d1, ds, d2⟩ := hc k hlt
        have hle := hR.le
        have x0 := (hG.cell (p := ⟨g, off + k * 3 + 0, none⟩) hg (fun f => f)).trans d0
        have x1 := (hG.cell (p := ⟨g, off + k * 3 + 1, none⟩) hg (fun f => f)).trans d1
        have x2 := (hG.cell (p := ⟨g, off + k * 3 + 2, none⟩) hg (fun f => f)).trans d2
        clear d0 d1 d2 hc ha
        simp only [Nat.add_zero] at x0
        cases hp : Pt k
        · rw [hp] at x0
          go_wp2_with fail
          rcases (show N k < 0 ∨ 0 ≤ N k by omega) with hN | hN
          · refine (get_neg ⟨b, 0, none⟩ (N k) hN _).mono ?_; rintro e w3 ⟨rfl, rfl⟩
            go_wp2_with fail
            refine (rget_bad L (N k) (by omega) hN _).mono ?_; rintro e w3 ⟨rfl, rfl⟩
            have hR5 := hR
            have hG4' := hG
            have hG5 := Gr.refl wr (fun _ => False)
            go_wp2_with fail
            refine (bytes_ring _ _ hR5).mono ?_; rintro e w6 ⟨rfl, hG6⟩
            have hR6 := hR5.gr hG6 (fun f => f)
            go_wp2_with fail
            refine (len_any _ _ hR6).mono ?_; rintro e w7 ⟨rfl, rfl⟩
            go_wp2_with fail
            refine (room_i _ _ hR6).mono ?_; rintro e w7 ⟨rfl, hG7⟩
            have hR7 := hR6.gr hG7 (fun f => f)
            have hG7' := ((hG4'.next hG5).next hG6).next hG7
            go_wp2
            go_roundw
            case rel => exact ⟨k + 1, L, by omega, by go_num, rfl, hR7, hG7'⟩
            case measure => simp [intOf]; omega
          · obtain ⟨o, ho⟩ : ∃ o, L.take (N k).toNat = o := ⟨_, rfl⟩
            obtain ⟨L', hL'⟩ : ∃ L', L.drop (N k).toNat = L' := ⟨_, rfl⟩
            have HO := Lib.hid ho
            have HL := Lib.hid hL'
            clear ho hL'
            refine (get_at _ (N k) o L' _ hR hN HO.out HL.out).mono ?_; rintro e w4 ⟨rfl, hR4, hG4⟩
            have hG4' : Same w w4 := hG.trans hG4 (fun j hj h => by omega)
            have y2 := (hG4.cell (p := ⟨g, off + k * 3 + 2, none⟩) (by have := hG.size; dsimp only; omega) (by dsimp only; omega)).trans x2
            clear x2 hG hG4 hR
            go_wp2_with fail
            have hr := rget_any L (N k) (by omega) hN w4
            rw [HO.out, HL.out] at hr
            refine hr.mono ?_; rintro e w5 ⟨rfl, hG5⟩
            have hR5 := hR4.gr hG5 (fun f => f)
            have hl5 := hR5.le
            clear hr
            go_wp2_with fail
            refine (bytes_ring _ _ hR5).mono ?_; rintro e w6 ⟨rfl, hG6⟩
            have hR6 := hR5.gr hG6 (fun f => f)
            go_wp2_with fail
            refine (len_any _ _ hR6).mono ?_; rintro e w7 ⟨rfl, rfl⟩
            go_wp2_with fail
            refine (room_i _ _ hR6).mono ?_; rintro e w7 ⟨rfl, hG7⟩
            have hR7 := hR6.gr hG7 (fun f => f)
            have hG7' := ((hG4'.next hG5).next hG6).next hG7
            go_wp2
            go_roundw
            case rel => exact ⟨k + 1, L', by omega, by go_num, rfl, hR7, hG7'⟩
            case measure => simp [intOf]; omega
        · rw [hp] at x0
          go_wp2_with fail
          refine (text_tx _ ds _).mono ?_; rintro e w3 ⟨rfl, rfl⟩
          have hT1 := tx_size (S k)
          generalize hT : tx (S k) = T at hT1 ⊢
          have HT := Lib.hid hT
          clear hT
          obtain ⟨m, hm⟩ : ∃ m, min T.size (z - L.length) = m := ⟨_, rfl⟩
          obtain ⟨L', hL'⟩ : ∃ L', L ++ T.data.toList.take m = L' := ⟨_, rfl⟩
          have HM := Lib.hid hm
          have HL := Lib.hid hL'
          clear hm hL'
          go_wp2_with fail
          refine (put_at _ T m L' _ hR (by unfold maxLen; omega) HM.out HL.out).mono ?_; rintro e w4 ⟨rfl, hR4, hG4⟩
          have hG4' : Same w w4 := hG.trans hG4 (fun j hj h => by omega)
          have y1 := (hG4.cell (p := ⟨g, off + k * 3 + 1, none⟩) (by have := hG.size; dsimp only; omega) (by dsimp only; omega)).trans x1
          clear x1 hG hG4
          go_wp2_with fail
          refine (text_tx _ ds _).mono ?_; rintro e w5 ⟨rfl, rfl⟩
          rw [HT.out]
          go_wp2_with fail
          refine (rput_same L z T m L' (by omega) (by omega) hT1 HM.out HL.out _).mono ?_; rintro e w5 ⟨rfl, hG5⟩
          have hR5 := hR4.gr hG5 (fun f => f)
          have hl5 := hR5.le
          go_wp2_with fail
          refine (bytes_ring _ _ hR5).mono ?_; rintro e w6 ⟨rfl, hG6⟩
          have hR6 := hR5.gr hG6 (fun f => f)
          go_wp2_with fail
          refine (len_any _ _ hR6).mono ?_; rintro e w7 ⟨rfl, rfl⟩
          go_wp2_with fail
          refine (room_i _ _ hR6).mono ?_; rintro e w7 ⟨rfl, hG7⟩
          have hR7 := hR6.gr hG7 (fun f => f)
          have hG7' := ((hG4'.next hG5).next hG6).next hG7
          go_wp2
          go_roundw
          case rel => exact ⟨k + 1, L', by omega, by go_num, rfl, hR7, hG7'⟩
          case measure => simp [intOf]; omega
      · go_wp2
        all_goals (go_ret; exact ⟨rfl, hG.below⟩)
  · go_enter Try.func4, Try.ntmps4
    go_wp2_with fail
    refine (shown_any _).mono ?_; rintro e w1 ⟨rfl, hG1⟩
    go_wp2_with fail
    refine (new_bad sz (by omega) _).mono ?_; rintro e w2 ⟨rfl, hG2⟩
    go_wp2
    all_goals first | (go_ret; exact ⟨rfl, (hG1.next hG2).below⟩) | (exfalso; omega)
end Go.Proofs
