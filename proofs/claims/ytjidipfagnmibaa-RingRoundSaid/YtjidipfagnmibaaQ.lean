/- RingStreams, RingRound. -/
import Derived.Test.YtjidipfagnmibaaO
set_option linter.unusedVariables false
set_option linter.unusedSimpArgs false
namespace Go.Proofs
open Go.RowKit Go.Shelf

theorem str_eq {a b : ByteArray} (h : a.data.toList = b.data.toList) : Value.string a = .string b := by rw [bax h]

set_option maxRecDepth 100000 in
set_option maxHeartbeats 4000000 in
theorem ringStreams_walk (sz : Int) (A : Option Addr) (n cap : Nat) (Pt : Nat → Bool) (S : Nat → ByteArray) (N : Nat → Int) (w : World) (ha : Acts w A n Pt S N) (hn : n ≤ maxLen) :
    Calls Try.prog 5 #[.int .i64 sz, .slice A n cap] w fun e w' => e = .returned (.bool true) ∧ Below w.heap.size w w' := by
  unfold maxLen at hn
  by_cases hr : 1 ≤ sz ∧ sz ≤ 64
  · obtain ⟨h1, h2⟩ := hr
    obtain ⟨z, rfl⟩ : ∃ z : Nat, sz = z := ⟨sz.toNat, by omega⟩
    go_enter Try.func5, Try.ntmps5
    go_wp2_with fail
    refine (shown_any _).mono ?_; rintro e w1 ⟨rfl, hG1⟩
    go_wp2_with fail
    refine (new_ok z (by omega) (by omega) _).mono ?_; rintro e w2 ⟨rfl, hG2, hR0⟩
    have hz1 := hG1.size
    have hG0 : Same w w2 := hG1.next hG2
    clear hG1 hG2
    obtain ⟨b, hb⟩ : ∃ b, w1.heap.size + 1 = b := ⟨_, rfl⟩
    rw [hb] at hR0 ⊢
    have hwb : w.heap.size ≤ b := by omega
    clear hb hz1
    go_wp2
    go_loopw [8, 9, 10, 11, 12, 13, 14] (fun inn out i _ _ _ _ wr => ∃ (k : Nat) (L O : List UInt8), k ≤ n ∧ k ≤ 200 ∧ O.length ≤ 64 * k ∧ i = .int .i64 k ∧ inn = .string ⟨(O ++ L).toArray⟩ ∧ out = .string ⟨O.toArray⟩ ∧ Ring wr b z L ∧ Same w wr) (fun _ _ i _ _ _ _ _ => n - (intOf i).toNat)
    case atStart => exact ⟨0, [], [], by omega, by omega, by simp, rfl, rfl, rfl, hR0, hG0⟩
    case round =>
      obtain ⟨k, L, O, hk, hk2, hO, rfl, rfl, rfl, hR, hG⟩ := hrel
      have hle := hR.le
      by_cases hlt : k < n ∧ k < 200
      · obtain ⟨hlt, hlt2⟩ := hlt
        obtain ⟨g, off, rfl, hg, hc⟩ := ha (by omega)
        obtain ⟨d0, d1, ds, d2⟩ := hc k hlt
        have x0 := (hG.cell (p := ⟨g, off + k * 3 + 0, none⟩) hg (fun f => f)).trans d0
        have x1 := (hG.cell (p := ⟨g, off + k * 3 + 1, none⟩) hg (fun f => f)).trans d1
        have x2 := (hG.cell (p := ⟨g, off + k * 3 + 2, none⟩) hg (fun f => f)).trans d2
        clear d0 d1 d2 hc ha
        simp only [Nat.add_zero] at x0
        cases hp : Pt k
        · rw [hp] at x0
          go_wp2_with fail
          rcases (show N k < 0 ∨ 0 ≤ N k by omega) with hN | hN
          · refine (get_neg ⟨b, 0, none⟩ (N k) hN _).mono ?_; rintro e w3 ⟨rfl, rfl⟩
            go_wp2
            go_roundw
            case rel => exact ⟨k + 1, L, O, by omega, by omega, by omega, by go_num, rfl, str_eq (by simp), hR, hG⟩
            case measure => simp [intOf]; omega
          · obtain ⟨o, ho⟩ : ∃ o, L.take (N k).toNat = o := ⟨_, rfl⟩
            obtain ⟨L', hL'⟩ : ∃ L', L.drop (N k).toNat = L' := ⟨_, rfl⟩
            have hol : o.length ≤ 64 := by rw [← ho, List.length_take]; omega
            have hoo : o ++ L' = L := by rw [← ho, ← hL', List.take_append_drop]
            have HOO := Lib.hid hoo
            have HO := Lib.hid ho
            have HL := Lib.hid hL'
            clear ho hL' hoo
            refine (get_at _ (N k) o L' _ hR hN HO.out HL.out).mono ?_; rintro e w4 ⟨rfl, hR4, hG4⟩
            have hG4' : Same w w4 := hG.trans hG4 (fun j hj h => by omega)
            clear x2 hG hG4 hR
            go_wp2
            go_roundw
            case rel => exact ⟨k + 1, L', O ++ o, by omega, by omega, by simp; omega, by go_num, str_eq (by simp [HOO.out]), str_eq (by simp), hR4, hG4'⟩
            case measure => simp [intOf]; omega
        · rw [hp] at x0
          go_wp2_with fail
          refine (text_tx _ ds _).mono ?_; rintro e w3 ⟨rfl, rfl⟩
          have hT1 := tx_size (S k)
          generalize hT : tx (S k) = T at hT1 ⊢
          have HT := Lib.hid hT
          clear hT
          obtain ⟨m, hm⟩ : ∃ m, min T.size (z - L.length) = m := ⟨_, rfl⟩
          obtain ⟨L', hL'⟩ : ∃ L', L ++ T.data.toList.take m = L' := ⟨_, rfl⟩
          have hmT : m ≤ T.size := by omega
          have hm64 : m ≤ 64 := by omega
          have HM := Lib.hid hm
          have HL := Lib.hid hL'
          clear hm hL'
          go_wp2_with fail
          refine (put_at _ T m L' _ hR (by unfold maxLen; omega) HM.out HL.out).mono ?_; rintro e w4 ⟨rfl, hR4, hG4⟩
          have hG4' : Same w w4 := hG.trans hG4 (fun j hj h => by omega)
          have y1 := (hG4.cell (p := ⟨g, off + k * 3 + 1, none⟩) (by have := hG.size; dsimp only; omega) (by dsimp only; omega)).trans x1
          clear x1 hG hG4
          go_wp2_with fail
          refine (text_tx _ ds _).mono ?_; rintro e w5 ⟨rfl, rfl⟩
          rw [HT.out]
          go_wp2_with fail
          refine (text_tx _ ds _).mono ?_; rintro e w5 ⟨rfl, rfl⟩
          rw [HT.out]
          go_wp2
          go_roundw
          case rel => exact ⟨k + 1, L', O, by omega, by omega, by omega, by go_num, str_eq (by rw [ba_append, Lib.extract_data, ← HL.out]; simp), rfl, hR4, hG4'⟩
          case measure => simp [intOf]; omega
      · have hxy := toList_mk O L
        go_wp2_with fail
        all_goals
          refine (bytes_ring _ _ hR).mono ?_; rintro e w6 ⟨rfl, hG6⟩
          have hR6 := hR.gr hG6 (fun f => f)
          go_wp2_with fail
          refine (len_any _ _ hR6).mono ?_; rintro e w7 ⟨rfl, rfl⟩
          go_wp2_with fail
          refine (room_i _ _ hR6).mono ?_; rintro e w7 ⟨rfl, hG7⟩
          go_wp2
          go_ret
          exact ⟨by first | rfl | (simp; done) | (simp; omega), ((hG.next hG6).next hG7).below⟩
  · go_enter Try.func5, Try.ntmps5
    go_wp2_with fail
    refine (shown_any _).mono ?_; rintro e w1 ⟨rfl, hG1⟩
    go_wp2
    all_goals first | (go_ret; exact ⟨rfl, hG1.below⟩) | (exfalso; omega)

set_option maxRecDepth 100000 in
set_option maxHeartbeats 4000000 in
theorem ringRound_walk (sz : Int) (s : ByteArray) (inn : Int) (hs : s.size ≤ maxLen) (w : World) :
    Calls Try.prog 8 #[.int .i64 sz, .string s, .int .i64 inn] w fun e w' => e = .returned (.bool true) ∧ Below w.heap.size w w' := by
  by_cases hr : 1 ≤ sz ∧ sz ≤ 64 ∧ 0 ≤ inn ∧ inn < sz
  · obtain ⟨h1, h2, h3, h4⟩ := hr
    obtain ⟨z, rfl⟩ : ∃ z : Nat, sz = z := ⟨sz.toNat, by omega⟩
    obtain ⟨q, rfl⟩ : ∃ q : Nat, inn = q := ⟨inn.toNat, by omega⟩
    go_enter Try.func8, Try.ntmps8
    go_wp2_with fail
    refine (shown_any _).mono ?_; rintro e w1 ⟨rfl, hG1⟩
    go_wp2_with fail
    refine (new_ok z (by omega) (by omega) _).mono ?_; rintro e w2 ⟨rfl, hG2, hR0⟩
    have hz1 := hG1.size
    have hG0 : Same w w2 := hG1.next hG2
    clear hG1 hG2
    obtain ⟨b, hb⟩ : ∃ b, w1.heap.size + 1 = b := ⟨_, rfl⟩
    rw [hb] at hR0 ⊢
    have hwb : w.heap.size ≤ b := by omega
    clear hb hz1
    go_wp2_with fail
    refine (text_tx _ hs _).mono ?_; rintro e w3 ⟨rfl, rfl⟩
    have hT1 := tx_size s
    generalize tx s = T at hT1 ⊢
    go_wp2
    go_loopw [10, 11, 12, 13, 14, 15] (fun out i _ _ _ _ wr => ∃ (k : Nat) (L O : List UInt8), k ≤ T.size ∧ O.length ≤ k ∧ i = .int .i64 k ∧ out = .string ⟨O.toArray⟩ ∧ O ++ L = T.data.toList.take k ∧ L.length ≤ q ∧ Ring wr b z L ∧ Same w wr) (fun _ i _ _ _ _ _ => T.size - (intOf i).toNat)
    case atStart => exact ⟨0, [], [], by omega, by simp, rfl, rfl, by simp, by simp, hR0, hG0⟩
    case round =>
      obtain ⟨k, L, O, hk, hO, rfl, rfl, hOL, hLq, hR, hG⟩ := hrel
      have HOL := Lib.hid hOL
      clear hOL
      have hle := hR.le
      by_cases hlt : k < T.size
      · obtain ⟨E, hE⟩ : ∃ E, T.extract k (k + 1) = E := ⟨_, rfl⟩
        have hkl : k < T.data.toList.length := by rw [← Lib.size_eq]; exact hlt
        have hEd : E.data.toList = [T.data.toList[k]] := by
          rw [← hE, Lib.extract_data, Nat.add_sub_cancel_left, List.drop_eq_getElem_cons hkl]; rfl
        have hEs : E.size = 1 := by rw [Lib.size_eq, hEd]; rfl
        have hsn : T.data.toList.take (k + 1) = T.data.toList.take k ++ [T.data.toList[k]] := List.take_succ_eq_append_getElem hkl
        obtain ⟨c, hc⟩ : ∃ c, T.data.toList[k] = c := ⟨_, rfl⟩
        rw [hc] at hEd hsn
        have HEd := Lib.hid hEd
        have HEs := Lib.hid hEs
        have HS := Lib.hid hsn
        clear hEd hEs hsn hkl hc
        obtain ⟨d, R, hdR⟩ : ∃ d R, L ++ [c] = d :: R := by cases L with
          | nil => exact ⟨_, _, rfl⟩
          | cons x l => exact ⟨_, _, rfl⟩
        have hRl : R.length = L.length := by have := congrArg List.length hdR; simp at this; omega
        have HD := Lib.hid hdR
        have HR := Lib.hid hRl
        clear hdR hRl
        go_wp2_with fail
        refine (put_at _ E 1 (d :: R) _ hR (by rw [HEs.out]; decide) (by rw [HEs.out]; omega) (by rw [HEd.out, ← HD.out]; rfl)).mono ?_; rintro e w4 ⟨rfl, hR4, hG4⟩
        have hG4' : Same w w4 := hG.trans hG4 (fun j hj h => by omega)
        clear hG hG4
        go_wp2_with fail
        refine (len_at _ ((L.length : Int) + 1) _ hR4 (by rw [List.length_cons, HR.out]; rfl)).mono ?_; rintro e w5 ⟨rfl, rfl⟩
        rcases (show (q : Int) < (L.length : Int) + 1 ∨ (L.length : Int) + 1 ≤ q by omega) with hq | hq
        · go_wp2_with fail
          refine (get_at _ 1 [d] R _ hR4 (by omega) rfl rfl).mono ?_; rintro e w6 ⟨rfl, hR6, hG6⟩
          have hG6' : Same w w6 := hG4'.trans hG6 (fun j hj h => by omega)
          clear hG4' hG6
          go_wp2
          go_roundw
          case rel => exact ⟨k + 1, R, O ++ [d], by omega, by simp; omega, by go_num, str_eq (by simp), by rw [HS.out, ← HOL.out, List.append_assoc, List.append_assoc, HD.out]; rfl, by rw [HR.out]; exact hLq, hR6, hG6'⟩
          case measure => simp [intOf]; omega
        · go_wp2
          go_roundw
          case rel => exact ⟨k + 1, d :: R, O, by omega, by omega, by go_num, rfl, by rw [HS.out, ← HOL.out, List.append_assoc, HD.out], by rw [List.length_cons, HR.out]; omega, hR4, hG4'⟩
          case measure => simp [intOf]; omega
      · have hxy : (({ data := O.toArray } : ByteArray) ++ { data := L.toArray }) = T := bax (by rw [ba_append, HOL.out, List.take_of_length_le (by rw [← Lib.size_eq]; omega)])
        go_wp2_with fail
        refine (bytes_ring _ _ hR).mono ?_; rintro e w6 ⟨rfl, hG6⟩
        go_wp2
        go_ret
        exact ⟨by first | rfl | (simp; done) | (simp; omega), (hG.next hG6).below⟩
  · go_enter Try.func8, Try.ntmps8
    go_wp2_with fail
    refine (shown_any _).mono ?_; rintro e w1 ⟨rfl, hG1⟩
    go_wp2
    all_goals first | (go_ret; exact ⟨rfl, hG1.below⟩) | (exfalso; omega)
end Go.Proofs
