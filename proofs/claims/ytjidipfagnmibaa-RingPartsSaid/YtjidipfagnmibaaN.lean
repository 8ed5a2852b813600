/- RingNone, RingFull, RingParts. -/
import Derived.Test.YtjidipfagnmibaaM
import Derived.Maps.AppendAt
set_option linter.unusedVariables false
set_option linter.unusedSimpArgs false
namespace Go.Proofs
open Go.RowKit Go.Shelf

theorem room_i (b : Nat) {sz : Nat} {L : List UInt8} (w : World) (h : Ring w b sz L) : Calls Try.prog 18 #[.pointer (some ⟨b, 0, none⟩)] w fun e w' => e = .returned (.int .i64 ((sz : Int) - L.length)) ∧ Same w w' := by
  have := h.le
  have e1 : ((sz - L.length : Nat) : Int) = (sz : Int) - L.length := by omega
  have h1 := room_any b w h
  rw [e1] at h1
  exact h1

theorem toList_mk (X Y : List UInt8) : (({ data := X.toArray } : ByteArray) ++ { data := Y.toArray }).toList = X ++ Y := by rw [Lib.toList_data, ba_append]
theorem sz120 : (⟨#[120]⟩ : ByteArray).size = 1 := rfl
theorem len_at (b : Nat) {sz : Nat} {L : List UInt8} (x : Int) (w : World) (h : Ring w b sz L) (hx : (L.length : Int) = x) : Calls Try.prog 17 #[.pointer (some ⟨b, 0, none⟩)] w fun e w' => e = .returned (.int .i64 x) ∧ w = w' := by
  subst hx; exact len_any b w h
set_option maxHeartbeats 1000000 in
theorem ringNone_walk (Pt : Bool) (s : ByteArray) (n : Int) (hs : s.size ≤ maxLen) (w : World) :
    Calls Try.prog 6 #[.agg #[.bool Pt, .string s, .int .i64 n]] w fun e w' => e = .returned (.bool true) ∧ Below w.heap.size w w' := by
  go_enter Try.func6, Try.ntmps6
  go_wp2_with fail
  refine (shown_any _).mono ?_; rintro e w1 ⟨rfl, hG1⟩
  have hB : Blk (w.alloc (.cells #[.bool Pt, .string s, .int .i64 n] 36)) w.heap.size 36 #[.bool Pt, .string s, .int .i64 n] := Blk.new _ _ _ _ rfl
  have hB1 := hG1.blk hB (fun f => f)
  have k1 := hB1.cell 1
  have k2 := hB1.cell 2
  simp at k1 k2
  go_wp2_with fail
  refine (put_nil _ _).mono ?_; rintro e w2 ⟨rfl, rfl⟩
  go_wp2_with fail
  refine (get_nil _ _).mono ?_; rintro e w2 ⟨rfl, rfl⟩
  go_wp2_with fail
  refine (len_nil _).mono ?_; rintro e w2 ⟨rfl, rfl⟩
  go_wp2_with fail
  refine (room_nil _).mono ?_; rintro e w2 ⟨rfl, rfl⟩
  go_wp2_with fail
  refine (bytes_nil _).mono ?_; rintro e w2 ⟨rfl, hG2⟩
  go_wp2
  go_ret
  exact ⟨rfl, (((Gr.a1 _ _).next hG1).next hG2).below⟩

set_option maxHeartbeats 1000000 in
theorem ringFull_walk (sz : Int) (s : ByteArray) (hs : s.size ≤ maxLen) (w : World) :
    Calls Try.prog 7 #[.int .i64 sz, .string s] w fun e w' => e = .returned (.bool true) ∧ Below w.heap.size w w' := by
  by_cases hr : 1 ≤ sz ∧ sz ≤ 64
  · obtain ⟨h1, h2⟩ := hr
    obtain ⟨m, rfl⟩ : ∃ m : Nat, sz = m := ⟨sz.toNat, by omega⟩
    go_enter Try.func7, Try.ntmps7
    go_wp2_with fail
    refine (shown_any _).mono ?_; rintro e w1 ⟨rfl, hG1⟩
    go_wp2_with fail
    refine (new_ok m (by omega) (by omega) _).mono ?_; rintro e w2 ⟨rfl, hG2, hR2⟩
    go_wp2_with fail
    refine (text_any _ hs _).mono ?_; rintro e w3 ⟨rfl, rfl⟩
    obtain ⟨T, hT⟩ : ∃ T : ByteArray, (⟨(s.data.toList.take 100).toArray⟩ : ByteArray) = T := ⟨_, rfl⟩
    have hT1 : T.size ≤ 100 := by rw [← hT, Lib.size_eq]; simp; omega
    have HT := Lib.hid hT
    rw [hT]
    clear hT
    go_wp2_with fail
    refine (put_any _ T (by unfold maxLen; omega) _ hR2).mono ?_; rintro e w4 ⟨rfl, hR4, hG4⟩
    simp only [List.length_nil, Nat.sub_zero, List.nil_append] at hR4 ⊢
    rcases (show (T.size : Int) < m ∨ (m : Int) ≤ T.size by omega) with hc | hc
    · rw [show min T.size m = T.size by omega] at hR4 ⊢
      obtain ⟨L1, hL1⟩ : ∃ L1, T.data.toList.take T.size = L1 := ⟨_, rfl⟩
      have hl1 : L1.length = T.size := by rw [← hL1, List.length_take, ← Lib.size_eq]; omega
      rw [hL1] at hR4
      have HL1 := Lib.hid hl1
      clear hL1 hl1
      go_wp2_with fail
      refine (put_at _ ⟨#[120]⟩ 1 (L1 ++ [120].take 1) _ hR4 (by decide) (by rw [HL1.out]; rw [sz120]; omega) rfl).mono ?_; rintro e w5 ⟨rfl, hR5, hG5⟩
      have hlen : (L1 ++ List.take 1 [(120 : UInt8)]).length = T.size + 1 := by rw [List.length_append, HL1.out]; rfl
      have HLN := Lib.hid hlen
      clear hlen
      go_wp2_with fail
      refine (text_any _ hs _).mono ?_; rintro e w6 ⟨rfl, rfl⟩
      rw [HT.out]
      go_wp2_with fail
      refine (len_at _ ((T.size : Nat) + 1) _ hR5 (by rw [HLN.out]; rfl)).mono ?_; rintro e w6 ⟨rfl, rfl⟩
      go_wp2
      go_ret
      refine ⟨by first | rfl | (simp; omega), ?_⟩
      have hz := hG1.size
      exact (Gr.mono (((hG1.next hG2).no.trans hG4 (fun _ _ h => h)).trans hG5 (fun _ _ h => h)) (fun j hj e => by omega)).below
    · rw [show min T.size m = m by omega] at hR4 ⊢
      obtain ⟨L1, hL1⟩ : ∃ L1, T.data.toList.take m = L1 := ⟨_, rfl⟩
      have hl1 : L1.length = m := by rw [← hL1, List.length_take, ← Lib.size_eq]; omega
      rw [hL1] at hR4
      have HL1 := Lib.hid hl1
      clear hL1 hl1
      go_wp2_with fail
      refine (put_at _ ⟨#[120]⟩ 0 (L1 ++ [120].take 0) _ hR4 (by decide) (by rw [HL1.out]; rw [sz120]; omega) rfl).mono ?_; rintro e w5 ⟨rfl, hR5, hG5⟩
      have hlen : (L1 ++ List.take 0 [(120 : UInt8)]).length = m + 0 := by rw [List.length_append, HL1.out]; rfl
      have HLN := Lib.hid hlen
      clear hlen
      go_wp2_with fail
      refine (text_any _ hs _).mono ?_; rintro e w6 ⟨rfl, rfl⟩
      rw [HT.out]
      go_wp2_with fail
      refine (len_at _ ((m : Nat) + 0) _ hR5 (by rw [HLN.out]; rfl)).mono ?_; rintro e w6 ⟨rfl, rfl⟩
      go_wp2
      go_ret
      refine ⟨by first | rfl | (simp; omega), ?_⟩
      have hz := hG1.size
      exact (Gr.mono (((hG1.next hG2).no.trans hG4 (fun _ _ h => h)).trans hG5 (fun _ _ h => h)) (fun j hj e => by omega)).below
  · go_enter Try.func7, Try.ntmps7
    go_wp2_with fail
    refine (shown_any _).mono ?_; rintro e w1 ⟨rfl, hG1⟩
    go_wp2
    all_goals first | (go_ret; exact ⟨rfl, hG1.below⟩) | (exfalso; omega)

set_option maxRecDepth 100000 in
set_option maxHeartbeats 1000000 in
theorem ringParts_walk (sz : Int) (s : ByteArray) (n m : Int) (hs : s.size ≤ maxLen) (w : World) :
    Calls Try.prog 3 #[.int .i64 sz, .string s, .int .i64 n, .int .i64 m] w fun e w' => e = .returned (.bool true) ∧ Below w.heap.size w w' := by
  by_cases hr : 1 ≤ sz ∧ sz ≤ 64 ∧ 0 ≤ n ∧ 0 ≤ m ∧ n ≤ 100 ∧ m ≤ 100
  · obtain ⟨h1, h2, h3, h4, h5, h6⟩ := hr
    obtain ⟨z, rfl⟩ : ∃ z : Nat, sz = z := ⟨sz.toNat, by omega⟩
    go_enter Try.func3, Try.ntmps3
    go_wp2_with fail
    refine (shown_any _).mono ?_; rintro e w1 ⟨rfl, hG1⟩
    go_wp2_with fail
    refine (new_ok z (by omega) (by omega) _).mono ?_; rintro e w2 ⟨rfl, hG2, hA⟩
    go_wp2_with fail
    have hlA := hA.lt
    refine (new_ok z (by omega) (by omega) _).mono ?_; rintro e w3 ⟨rfl, hG3, hB⟩
    replace hA := hA.gr hG3 (fun f => f)
    have hz1 := hG1.size
    have hz2 := hG2.size
    have hGw : Same w w3 := (hG1.next hG2).next hG3
    clear hG2 hG3
    obtain ⟨a, ha⟩ : ∃ a, w1.heap.size + 1 = a := ⟨_, rfl⟩
    obtain ⟨b, hb⟩ : ∃ b, w2.heap.size + 1 = b := ⟨_, rfl⟩
    rw [ha] at hA hlA ⊢
    rw [hb] at hB ⊢
    have hne : a ≠ b := by omega
    have hwa : w.heap.size ≤ a := by omega
    have hwb : w.heap.size ≤ b := by omega
    clear ha hb hlA
    obtain ⟨n, rfl⟩ : ∃ k : Nat, n = k := ⟨n.toNat, by omega⟩
    obtain ⟨m, rfl⟩ : ∃ k : Nat, m = k := ⟨m.toNat, by omega⟩
    obtain ⟨L1, hL1⟩ : ∃ L1, [] ++ (⟨#[49, 50]⟩ : ByteArray).data.toList.take (min (⟨#[49, 50]⟩ : ByteArray).size (z - ([] : List UInt8).length)) = L1 := ⟨_, rfl⟩
    have hL1l : L1.length ≤ 2 := by rw [← hL1, List.nil_append, List.length_take]; exact Nat.min_le_right _ _
    go_wp2_with fail
    refine (put_at _ ⟨#[49, 50]⟩ _ L1 _ hA (by decide) rfl hL1).mono ?_; rintro e w4 ⟨rfl, hA4, hG4⟩
    have hB4 := hB.gr hG4 (by omega)
    go_wp2_with fail
    refine (put_at _ ⟨#[49, 50]⟩ _ L1 _ hB4 (by decide) rfl hL1).mono ?_; rintro e w5 ⟨rfl, hB5, hG5⟩
    have hA5 := hA4.gr hG5 (by omega)
    clear hL1 hA hB hA4 hB4
    have HL1 := Lib.hid hL1l
    clear hL1l
    go_wp2_with fail
    refine (get_at _ 2 _ [] _ hA5 (by decide) rfl (List.drop_eq_nil_of_le HL1.out)).mono ?_; rintro e w6 ⟨rfl, hA6, hG6⟩
    have hB6 := hB5.gr hG6 (by omega)
    go_wp2_with fail
    refine (get_at _ 2 _ [] _ hB6 (by decide) rfl (List.drop_eq_nil_of_le HL1.out)).mono ?_; rintro e w7 ⟨rfl, hB7, hG7⟩
    have hA7 := hA6.gr hG7 (by omega)
    clear hA5 hB5 hA6 hB6
    go_wp2_with fail
    refine (text_any _ hs _).mono ?_; rintro e w8 ⟨rfl, rfl⟩
    obtain ⟨T, hT⟩ : ∃ T : ByteArray, (⟨(s.data.toList.take 100).toArray⟩ : ByteArray) = T := ⟨_, rfl⟩
    have hT1 : T.size ≤ 100 := by rw [← hT, Lib.size_eq]; simp; omega
    have HT := Lib.hid hT
    rw [hT]
    clear hT
    obtain ⟨P, hP⟩ : ∃ P, [] ++ T.data.toList.take (min T.size (z - ([] : List UInt8).length)) = P := ⟨_, rfl⟩
    have HP := Lib.hid hP
    clear hP
    go_wp2_with fail
    refine (put_at _ T _ P _ hA7 (by unfold maxLen; omega) rfl HP.out).mono ?_; rintro e w8 ⟨rfl, hA8, hG8⟩
    have hB8 := hB7.gr hG8 (by omega)
    go_wp2_with fail
    refine (text_any _ hs _).mono ?_; rintro e w9 ⟨rfl, rfl⟩
    rw [HT.out]
    go_wp2_with fail
    refine (put_at _ T _ P _ hB8 (by unfold maxLen; omega) rfl HP.out).mono ?_; rintro e w9 ⟨rfl, hB9, hG9⟩
    have hA9 := hA8.gr hG9 (by omega)
    clear hA7 hB7 hA8 hB8
    go_wp2_with fail
    refine (get_at _ n (P.take n) (P.drop n) _ hA9 (by omega) (by rw [Int.toNat_natCast]) (by rw [Int.toNat_natCast])).mono ?_; rintro e w10 ⟨rfl, hA10, hG10⟩
    go_wp2_with fail
    refine (get_at _ m ((P.drop n).take m) (P.drop (n + m)) _ hA10 (by omega) (by rw [Int.toNat_natCast]) (by rw [Int.toNat_natCast, List.drop_drop])).mono ?_; rintro e w11 ⟨rfl, hA11, hG11⟩
    have hB11 := (hB9.gr hG10 (by omega)).gr hG11 (by omega)
    go_wp2_with fail
    refine (get_at _ ((n : Int) + m) (P.take n ++ (P.drop n).take m) (P.drop (n + m)) _ hB11 (by omega) (by rw [show ((n : Int) + m).toNat = n + m by omega, List.take_add]) (by rw [show ((n : Int) + m).toNat = n + m by omega])).mono ?_; rintro e w12 ⟨rfl, hB12, hG12⟩
    have hA12 := hA11.gr hG12 (by omega)
    have hPl := hA9.le.1
    clear hA9 hB9 hA10 hA11 hB11
    obtain ⟨X, hX⟩ : ∃ X, P.take n = X := ⟨_, rfl⟩
    obtain ⟨Y, hY⟩ : ∃ Y, (P.drop n).take m = Y := ⟨_, rfl⟩
    obtain ⟨Z, hZ⟩ : ∃ Z, P.drop (n + m) = Z := ⟨_, rfl⟩
    have hXl : X.length ≤ 64 := by rw [← hX, List.length_take]; omega
    have hYl : Y.length ≤ 64 := by rw [← hY, List.length_take, List.length_drop]; omega
    rw [hX, hY]
    rw [hZ] at hA12 hB12
    clear hPl
    clear hX hY hZ
    have hxy := toList_mk X Y
    go_wp2_with fail
    refine (bytes_ring _ _ hA12).mono ?_; rintro e w13 ⟨rfl, hG13⟩
    have hB13 := hB12.gr hG13 (fun f => f)
    go_wp2_with fail
    refine (bytes_ring _ _ hB13).mono ?_; rintro e w14 ⟨rfl, hG14⟩
    go_wp2
    go_ret
    refine ⟨by first | rfl | simp, ?_⟩
    have g := ((((((((hG4.mono (Y := fun k => k = a ∨ k = b) (fun _ _ h => .inl h)).trans hG5 (fun _ _ h => .inr h)).trans hG6 (fun _ _ h => .inl h)).trans hG7 (fun _ _ h => .inr h)).trans hG8 (fun _ _ h => .inl h)).trans hG9 (fun _ _ h => .inr h)).trans hG10 (fun _ _ h => .inl h)).trans hG11 (fun _ _ h => .inl h)).trans hG12 (fun _ _ h => .inr h)
    exact ((hGw.trans g (fun j hj h => by omega)).next (hG13.next hG14)).below
  · go_enter Try.func3, Try.ntmps3
    go_wp2_with fail
    refine (shown_any _).mono ?_; rintro e w1 ⟨rfl, hG1⟩
    go_wp2
    all_goals first | (go_ret; exact ⟨rfl, hG1.below⟩) | (exfalso; omega)
end Go.Proofs
