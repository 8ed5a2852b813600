/- SemTries. -/
import Derived.Test.YtgecoiaidmndkaaDoorT
set_option linter.unusedVariables false
set_option linter.unusedSimpArgs false
namespace Go.Proofs
open Go.RowKit Go.Shelf
attribute [local go_sem] Oper.semAt_some
variable {aR aA aW : Addr}

/-- Both Trys answer alike. -/
theorem try_agree (aR aA aW : Addr) (m : Nat) (Nm Dl Fl : Nat → Int) (xs : List Int) : ∃ (zs : List Int) (i t : Int) (k : Nat), zs.length = k ∧ k ≤ xs.length ∧
    (∀ w e w', TryFull aR aA aW w m Nm Dl Fl xs e w' → Same w w' ∧ ∃ A1 c1, e = .returned (.tuple #[.slice A1 k c1, .int .i64 i, .int .i64 t]) ∧ Ints w' A1 zs) ∧
    (∀ w e w', RefFull w m Nm Dl Fl xs e w' → Same w w' ∧ ∃ A1 c1, e = .returned (.tuple #[.slice A1 k c1, .int .i64 i, .int .i64 t]) ∧ Ints w' A1 zs) := by
  have hnil : ∀ w : World, Ints w none [] := fun w h => by simp at h
  by_cases ht : tcode xs m Nm = 0
  · by_cases hx : ∃ i, i < m ∧ er Nm Dl Fl xs i ≠ 0 ∧ ∀ j, j < i → er Nm Dl Fl xs j = 0
    · obtain ⟨i, hi, hne, hlt⟩ := hx
      have huni : ∀ i', er Nm Dl Fl xs i' ≠ 0 → (∀ j, j < i' → er Nm Dl Fl xs j = 0) → i' = i := fun i' h1 h2 => by
        rcases Nat.lt_trichotomy i' i with h | h | h
        · exact absurd (hlt i' h) h1
        · exact h
        · exact absurd (h2 i h) hne
      refine ⟨[], i, code (er Nm Dl Fl xs i), 0, rfl, by omega, ?_, ?_⟩
      · rintro w e w' ⟨hG, ⟨h, _⟩ | ⟨_, i', hi', hne', hlt', rfl⟩ | ⟨_, h, _⟩⟩
        · exact absurd ht h
        · rw [huni i' hne' hlt']; exact ⟨hG, none, 0, rfl, hnil _⟩
        · exact absurd (h i hi) hne
      · rintro w e w' ⟨hG, ⟨h, _⟩ | ⟨_, i', hi', hne', hlt', rfl⟩ | ⟨_, h, _⟩⟩
        · exact absurd ht h
        · rw [huni i' hne' hlt']; exact ⟨hG, none, 0, rfl, hnil _⟩
        · exact absurd (h i hi) hne
    · refine ⟨stp Nm Dl Fl xs m, 0, 0, xs.length, stp_len m, Nat.le_refl _, ?_, ?_⟩
      · rintro w e w' ⟨hG, ⟨h, _⟩ | ⟨_, i', hi', hne', hlt', rfl⟩ | ⟨_, h, b, _, rfl, hB⟩⟩
        · exact absurd ht h
        · exact absurd ⟨i', hi', hne', hlt'⟩ hx
        · exact ⟨hG, _, _, rfl, ints_blk hB⟩
      · rintro w e w' ⟨hG, ⟨h, _⟩ | ⟨_, i', hi', hne', hlt', rfl⟩ | ⟨_, h, A1, c1, rfl, hI⟩⟩
        · exact absurd ht h
        · exact absurd ⟨i', hi', hne', hlt'⟩ hx
        · exact ⟨hG, _, _, rfl, hI⟩
  · refine ⟨[], 0, tcode xs m Nm, 0, rfl, by omega, ?_, ?_⟩
    · rintro w e w' ⟨hG, ⟨_, rfl⟩ | ⟨h, _⟩ | ⟨h, _⟩⟩
      · exact ⟨hG, none, 0, rfl, hnil _⟩
      · exact absurd h ht
      · exact absurd h ht
    · rintro w e w' ⟨hG, ⟨_, rfl⟩ | ⟨h, _⟩ | ⟨h, _⟩⟩
      · exact ⟨hG, none, 0, rfl, hnil _⟩
      · exact absurd h ht
      · exact absurd h ht
theorem ref_new_bad (n : Int) (w : World) (h : n < 1 ∨ 8 < n) : Calls Tryd.prog 20 #[.int .i64 n] w fun e w' => e = .returned (.tuple #[.slice none 0 0, .int .i64 2]) ∧ w = w' := by
  rcases h with h | h
  all_goals
    go_enter Tryd.func20, Tryd.ntmps20
    go_wp2
    all_goals (go_ret2; exact ⟨rfl, rfl⟩)
theorem new_agree (n : Int) : ∃ (zs : List Int) (t : Int) (k : Nat), zs.length = k ∧ k ≤ 8 ∧
    (∀ w, Calls Tryd.prog 19 #[.int .i64 n] w fun e w' => Same w w' ∧ ∃ A1 c1, e = .returned (.tuple #[.slice A1 k c1, .int .i64 t]) ∧ Ints w' A1 zs) ∧
    (∀ w, Calls Tryd.prog 20 #[.int .i64 n] w fun e w' => Same w w' ∧ ∃ A1 c1, e = .returned (.tuple #[.slice A1 k c1, .int .i64 t]) ∧ Ints w' A1 zs) := by
  have hnil : ∀ w : World, Ints w none [] := fun w h => by simp at h
  rcases (show (n < 1 ∨ 8 < n) ∨ (1 ≤ n ∧ n ≤ 8) by omega) with h | ⟨h, h'⟩
  · refine ⟨[], 2, 0, rfl, by omega, fun w => (new_bad n w h).mono ?_, fun w => (ref_new_bad n w h).mono ?_⟩
    · rintro e w' ⟨rfl, rfl⟩; exact ⟨Gr.refl _ _, none, 0, rfl, hnil _⟩
    · rintro e w' ⟨rfl, rfl⟩; exact ⟨Gr.refl _ _, none, 0, rfl, hnil _⟩
  · obtain ⟨k, rfl⟩ : ∃ k : Nat, n = k := ⟨n.toNat, by omega⟩
    refine ⟨List.replicate k 0, 0, k, List.length_replicate, by omega, fun w => (new_any k w (by omega) (by omega)).mono ?_, fun w => (ref_new k w (by omega) (by omega)).mono ?_⟩
    · rintro e w' ⟨rfl, hG, hB⟩; exact ⟨hG, _, _, rfl, ints_blk hB⟩
    · rintro e w' h; exact h

/-- What the last region reads. -/
def Rest5 (w : World) (A1 A2 A3 A4 A5 : Option Addr) (zs ys ns : List Int) (W : World) : Prop := Ints W A1 zs ∧ Ints W A2 zs ∧ Ints W A3 ys ∧ Ints W A4 ns ∧ Ints W A5 ns ∧ Same w W
theorem Rest5.next {w W W' : World} {A1 A2 A3 A4 A5 : Option Addr} {zs ys ns : List Int} (h : Hid (Rest5 w A1 A2 A3 A4 A5 zs ys ns W)) (hG : Same W W') : Hid (Rest5 w A1 A2 A3 A4 A5 zs ys ns W') :=
  Lib.hid ⟨h.out.1.same hG, h.out.2.1.same hG, h.out.2.2.1.same hG, h.out.2.2.2.1.same hG, h.out.2.2.2.2.1.same hG, h.out.2.2.2.2.2.next hG⟩

set_option maxRecDepth 100000 in
set_option maxHeartbeats 4000000 in
theorem semTries_walk (xs : List Int) (A : Option Addr) (n c : Nat) (B : Option Addr) (m d : Nat) (Nm Dl Fl : Nat → Int) (f : Int) (w : World) (hn : xs.length = n) (hnc : n ≤ c) (hc : c ≤ maxLen) (hA : Ints w A xs)
    (hmd : m ≤ d) (hd : d ≤ maxLen) (hO : Ops w B m Nm Dl Fl) (hFl : ∀ i, i < m → -9223372036854775808 ≤ Fl i ∧ Fl i < 9223372036854775808) (hS : Sen w aR aA aW) :
    Calls Tryd.prog 8 #[.slice A n c, .slice B m d, .int .i64 f] w fun e w' => e = .returned (.bool true) ∧ Below w.heap.size w w' := by
  have HN := Lib.hid hn
  have HA := Lib.hid hA
  have HO := Lib.hid hO
  have HFL := Lib.hid hFl
  clear hn hA hO hFl
  go_enter Tryd.func8, Tryd.ntmps8
  go_wp2_with fail
  refine (shown_any (aR := aR) (aA := aA) (aW := aW) _ hS).mono ?_; rintro e w1 ⟨rfl, hG1⟩
  go_wp2_with fail
  refine (cut_any xs A n c _ HN.out hnc hc (HA.out.same hG1)).mono ?_; rintro e w2 ⟨b0, hb0, rfl, hG2, hI2⟩
  obtain ⟨ys, hys⟩ : ∃ ys, xs.take 12 = ys := ⟨_, rfl⟩
  obtain ⟨q, hq⟩ : ∃ q, min n 12 = q := ⟨_, rfl⟩
  obtain ⟨p, hp⟩ : ∃ p, min m 12 = p := ⟨_, rfl⟩
  have hyl : ys.length = q := by rw [← hys, List.length_take, HN.out]; omega
  rw [hys] at hI2
  rw [hq]
  have hq12 : q ≤ 12 := by omega
  have hpm : p ≤ m := by omega
  have hp12 : p ≤ 12 := by omega
  have hOp : Ops w B p Nm Dl Fl := fun h => by
    obtain ⟨g, off, e, hg, ho⟩ := HO.out (by omega)
    exact ⟨g, off, e, hg, fun i hi => ho i (by omega)⟩
  have HFp : Hid (∀ i, i < p → -9223372036854775808 ≤ Fl i ∧ Fl i < 9223372036854775808) := Lib.hid (fun i hi => HFL.out i (by omega))
  have hGw := hG1.next hG2
  have HYL := Lib.hid hyl
  have HOP := Lib.hid (hOp.same hGw)
  have HI2 := Lib.hid hI2
  obtain ⟨zs, ti, tt, k, hzl, hkx, hT1, hT2⟩ := try_agree aR aA aW p Nm Dl Fl ys
  obtain ⟨ns, nt, nk, hnl, hnk, hN1, hN2⟩ := new_agree f
  have HZL := Lib.hid hzl
  have HNL := Lib.hid hnl
  have HT1 := Lib.hid hT1
  have HT2 := Lib.hid hT2
  have HN1 := Lib.hid hN1
  have HN2 := Lib.hid hN2
  have hk12 : k ≤ 12 := by omega
  have HP : ∀ W : World, Calls Tryd.prog 14 #[.slice B m d] W fun e w' => e = .returned (.slice B p d) ∧ W = w' := fun W => by rw [← hp]; exact few_any B m d W hmd hd
  clear hys hq hyl hG1 hG2 hOp hI2 hpm hzl hnl hT1 hT2 hN1 hN2 hkx hp HO HFL HA HN hmd hd
  go_wp2_with fail
  refine (HP _).mono ?_; rintro e w3 ⟨rfl, rfl⟩
  go_wp2_with fail
  refine (try_full ys _ q 12 B p d Nm Dl Fl _ HYL.out (by omega) (by omega) HI2.out HOP.out HFp.out (hS.same hGw)).mono ?_
  rintro e w3 hres
  obtain ⟨hG3, A1, c1, rfl, hZ1⟩ := HT1.out _ _ _ hres
  have HZ1 := Lib.hid hZ1
  have HI3 := Lib.hid (HI2.out.same hG3)
  have HG3 := hGw.next hG3
  clear hres HT1 hZ1
  go_wp2_with fail
  refine (HP _).mono ?_; rintro e w4 ⟨rfl, rfl⟩
  go_wp2_with fail
  refine (ref_try ys _ q 12 B p d Nm Dl Fl _ HYL.out (by omega) (by omega) HI3.out (HOP.out.same hG3) HFp.out).mono ?_
  rintro e w4 hres
  obtain ⟨hG4, A2, c2, rfl, hZ2⟩ := HT2.out _ _ _ hres
  have HZ1' := Lib.hid (HZ1.out.same hG4)
  have HZ2 := Lib.hid hZ2
  have HI4 := Lib.hid (HI3.out.same hG4)
  have HG4 := HG3.next hG4
  clear hres HT2 hZ2 hG3 hG4 HZ1 HI3 HG3 HOP HFp HI2 hGw hS
  go_wp2_with fail
  refine (HN1.out _).mono ?_
  rintro e w5 ⟨hG5, A4, c4, rfl, hN4⟩
  go_wp2_with fail
  refine (HN2.out _).mono ?_
  rintro e w6 ⟨hG6, A5, c5, rfl, hN5⟩
  have hG56 := hG5.next hG6
  have yR : Hid (Rest5 w A1 A2 (some ⟨b0, 0, none⟩) A4 A5 zs ys ns w6) := Lib.hid ⟨HZ1'.out.same hG56, HZ2.out.same hG56, HI4.out.same hG56, hN4.same hG6, hN5, HG4.next hG56⟩
  obtain ⟨rb, hrb⟩ : ∃ rb, rightB ys = rb := ⟨_, rfl⟩
  have HW1 : ∀ W, Hid (Rest5 w A1 A2 (some ⟨b0, 0, none⟩) A4 A5 zs ys ns W) → Calls Tryd.prog 15 #[.slice (some ⟨b0, 0, none⟩) q 12] W fun e w' => e = .returned (.bool rb) ∧ W = w' := fun W h => by
    rw [← hrb]; exact right_any ys _ q 12 _ HYL.out (by unfold maxLen; omega) h.out.2.2.1
  have HW2 : ∀ W, Hid (Rest5 w A1 A2 (some ⟨b0, 0, none⟩) A4 A5 zs ys ns W) → Calls Tryd.prog 21 #[.slice (some ⟨b0, 0, none⟩) q 12] W fun e w' => e = .returned (.bool rb) ∧ Same W w' := fun W h => by
    rw [← hrb]; exact ref_right ys _ q 12 _ HYL.out (by unfold maxLen; omega) h.out.2.2.1
  have HW3 : ∀ W, Hid (Rest5 w A1 A2 (some ⟨b0, 0, none⟩) A4 A5 zs ys ns W) → Calls Tryd.prog 16 #[.slice A1 k c1, .slice A2 k c2] W fun e w' => e = .returned (.bool true) ∧ Same W w' := fun W h =>
    ints_same zs _ _ k _ _ _ HZL.out (by omega) h.out.1 h.out.2.1
  have HW4 : ∀ W, Hid (Rest5 w A1 A2 (some ⟨b0, 0, none⟩) A4 A5 zs ys ns W) → Calls Tryd.prog 16 #[.slice A4 nk c4, .slice A5 nk c5] W fun e w' => e = .returned (.bool true) ∧ Same W w' := fun W h =>
    ints_same ns _ _ nk _ _ _ HNL.out (by omega) h.out.2.2.2.1 h.out.2.2.2.2.1
  clear hrb HZ1' HZ2 HI4 HG4 hG5 hG6 hG56 hN4 hN5 HN1 HN2 HYL HZL HNL HP
  go_wp2_with fail
  refine (HW1 _ yR).mono ?_; rintro e w7 ⟨rfl, rfl⟩
  go_wp2_with fail
  refine (HW2 _ yR).mono ?_; rintro e w7 ⟨rfl, hG7⟩
  have yR7 := Rest5.next yR hG7
  go_wp2_with fail
  refine (HW3 _ yR7).mono ?_; rintro e w8 ⟨rfl, hG8⟩
  have yR8 := Rest5.next yR7 hG8
  go_wp2_with fail
  refine (HW4 _ yR8).mono ?_; rintro e w9 ⟨rfl, hG9⟩
  have yR9 := Rest5.next yR8 hG9
  go_wp2
  go_ret
  exact ⟨by first | rfl | simp, yR9.out.2.2.2.2.2.below⟩
end Go.Proofs
