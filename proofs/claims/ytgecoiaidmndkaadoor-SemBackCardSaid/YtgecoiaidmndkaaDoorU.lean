/- SemOne. -/
import Derived.Test.YtgecoiaidmndkaaDoorN
set_option linter.unusedVariables false
set_option linter.unusedSimpArgs false
namespace Go.Proofs
open Go.RowKit Go.Shelf
attribute [local go_sem] Oper.semAt_some
variable {aR aA aW : Addr} {Nm Dl Fl : Nat → Int} {ys : List Int}

theorem right_stp (hr : rightB ys = true) (j : Nat) : rightB (stp Nm Dl Fl ys j) = true := by
  obtain ⟨r1, r2, r3⟩ := right_parts hr
  unfold rightB; rw [stp_len, stp_are r3]; simp; omega
theorem tcode_one (hr : rightB ys = true) (j : Nat) (hi : inB ys.length (Nm j) = true) : tcode (stp Nm Dl Fl ys j) 1 (fun _ => Nm j) = 0 := by
  unfold tcode
  rw [if_neg (by rw [right_stp hr]; simp), if_neg (by omega), if_pos]
  rw [List.all_eq_true]
  intro i _
  rw [stp_len]; exact hi
theorem er_one (j : Nat) : er (fun _ => Nm j) (fun _ => Dl j) (fun _ => Fl j) (stp Nm Dl Fl ys j) 0 = er Nm Dl Fl ys j := rfl
theorem stp_one (j : Nat) : stp (fun _ => Nm j) (fun _ => Dl j) (fun _ => Fl j) (stp Nm Dl Fl ys j) 1 = stp Nm Dl Fl ys (j + 1) := rfl

/-- One operation alone, tried on what those ahead leave. -/
theorem try_one (hr : rightB ys = true) (j : Nat) (hi : inB ys.length (Nm j) = true) (A : Option Addr) (q c g off d : Nat) (w : World) (hq : ys.length = q) (hI : Ints w A (stp Nm Dl Fl ys j)) (hg : g < w.heap.size)
    (hO : w.cell? ⟨g, off, none⟩ = some (.int .i64 (Nm j)) ∧ w.cell? ⟨g, off + 1, none⟩ = some (.int .i64 (Dl j)) ∧ w.cell? ⟨g, off + 2, none⟩ = some (.int .i64 (Fl j)))
    (hF : -9223372036854775808 ≤ Fl j ∧ Fl j < 9223372036854775808) (hS : Sen w aR aA aW) :
    Calls Tryd.prog 13 #[.slice A q c, .slice (some ⟨g, off, none⟩) 1 d] w fun e w' => Same w w' ∧
      ((er Nm Dl Fl ys j ≠ 0 ∧ e = .returned (.tuple #[.slice none 0 0, .int .i64 0, .int .i64 (code (er Nm Dl Fl ys j))])) ∨
       (er Nm Dl Fl ys j = 0 ∧ ∃ b, w.heap.size ≤ b ∧ e = .returned (.tuple #[.slice (some ⟨b, 0, none⟩) q q, .int .i64 0, .int .i64 0]) ∧ Ints w' (some ⟨b, 0, none⟩) (stp Nm Dl Fl ys (j + 1)))) := by
  obtain ⟨r1, r2, r3⟩ := right_parts hr
  have ho : Ops w (some ⟨g, off, none⟩) 1 (fun _ => Nm j) (fun _ => Dl j) (fun _ => Fl j) := fun _ => ⟨g, off, rfl, hg, fun i hi => by
    obtain rfl : i = 0 := by omega
    simpa using hO⟩
  refine (try_full (stp Nm Dl Fl ys j) A q c (some ⟨g, off, none⟩) 1 d (fun _ => Nm j) (fun _ => Dl j) (fun _ => Fl j) w (by rw [stp_len, hq]) (by omega) (by omega) hI ho (fun _ _ => hF) hS).mono ?_
  have ht := tcode_one (Dl := Dl) (Fl := Fl) hr j hi
  rintro e w' ⟨hG, ⟨hne, _⟩ | ⟨_, i, hi, hne, _, rfl⟩ | ⟨_, hall, b, hb, rfl, hB⟩⟩
  · exact absurd ht hne
  · obtain rfl : i = 0 := by omega
    exact ⟨hG, .inl ⟨hne, rfl⟩⟩
  · refine ⟨hG, .inr ⟨hall 0 (by omega), b, hb, by rw [stp_len, hq], ?_⟩⟩
    exact ints_blk hB

set_option maxRecDepth 100000 in
set_option maxHeartbeats 4000000 in
theorem semOne_walk (xs : List Int) (A : Option Addr) (n c : Nat) (B : Option Addr) (m d : Nat) (Nm Dl Fl : Nat → Int) (w : World) (hn : xs.length = n) (hnc : n ≤ c) (hc : c ≤ maxLen) (hA : Ints w A xs)
    (hmd : m ≤ d) (hd : d ≤ maxLen) (hO : Ops w B m Nm Dl Fl) (hFl : ∀ i, i < m → -9223372036854775808 ≤ Fl i ∧ Fl i < 9223372036854775808) (hS : Sen w aR aA aW) :
    Calls Tryd.prog 4 #[.slice A n c, .slice B m d] w fun e w' => e = .returned (.bool true) ∧ Below w.heap.size w w' := by
  have HN := Lib.hid hn
  have HA := Lib.hid hA
  have HO := Lib.hid hO
  have HFL := Lib.hid hFl
  clear hn hA hO hFl
  go_enter Tryd.func4, Tryd.ntmps4
  go_wp2_with fail
  refine (shown_any (aR := aR) (aA := aA) (aW := aW) _ hS).mono ?_; rintro e w1 ⟨rfl, hG1⟩
  go_wp2_with fail
  refine (cut_any xs A n c _ HN.out hnc hc (HA.out.same hG1)).mono ?_; rintro e w2 ⟨b0, hb0, rfl, hG2, hI2⟩
  go_wp2_with fail
  refine (few_any B m d _ hmd hd).mono ?_; rintro e w3 ⟨rfl, rfl⟩
  obtain ⟨ys, hys⟩ : ∃ ys, xs.take 12 = ys := ⟨_, rfl⟩
  obtain ⟨q, hq⟩ : ∃ q, min n 12 = q := ⟨_, rfl⟩
  obtain ⟨p, hp⟩ : ∃ p, min m 12 = p := ⟨_, rfl⟩
  have hyl : ys.length = q := by rw [← hys, List.length_take, HN.out]; omega
  rw [hys] at hI2
  rw [hq, hp]
  have hpm : p ≤ m := by omega
  have hpd : p ≤ d := by omega
  have hp12 : p ≤ 12 := by omega
  have hq12 : q ≤ 12 := by omega
  have hOp : Ops w B p Nm Dl Fl := fun h => by
    obtain ⟨g, off, e, hg, ho⟩ := HO.out (by omega)
    exact ⟨g, off, e, hg, fun i hi => ho i (by omega)⟩
  have hGw := hG1.next hG2
  have HYL := Lib.hid hyl
  have hI2' := hI2
  have hd' : d ≤ 9223372036854775807 := by unfold maxLen at hd; omega
  clear hys hq hp hyl hG1 hG2 hmd hd
  go_wp2_with fail
  refine (try_full ys _ q 12 B p d Nm Dl Fl _ HYL.out (by omega) (by omega) hI2 (hOp.same hGw) (fun i hi => HFL.out i (by omega)) (hS.same hGw)).mono ?_
  rintro e w3 ⟨hG3, ⟨ht, rfl⟩ | ⟨ht, i0, hi0, hne, hlt, rfl⟩ | ⟨ht, hall, b, hb, rfl, hB⟩⟩
  · have ht' := tcode_mem ht
    generalize tcode ys p Nm = t at ht' ⊢
    clear ht
    rcases ht' with rfl | rfl | rfl
    all_goals
      go_wp2
      go_ret
      exact ⟨rfl, (hGw.next hG3).below⟩
  · obtain ⟨hr, hp1, hp8, hin⟩ := tcode_zero ht
    have hcm := code_mem hne
    have HC : Hid (∀ j, er Nm Dl Fl ys i0 = j → code j = code (er Nm Dl Fl ys i0)) := Lib.hid (fun j h => by rw [h])
    generalize hco : code (er Nm Dl Fl ys i0) = t at hcm ⊢
    have HCO := Lib.hid hco
    have HR := Lib.hid hr
    have HIN := Lib.hid hin
    have HLT := Lib.hid hlt
    have HNE := Lib.hid hne
    have t1 : ¬ t = 0 := by omega
    have t2 : ¬ t = 2 := by omega
    have t3 : ¬ t = 130 := by omega
    have t4 : ¬ t = 131 := by omega
    have u2 : (t == 2) = false := by simp [t2]
    have u3 : (t == 130) = false := by simp [t3]
    have u4 : (t == 131) = false := by simp [t4]
    obtain ⟨g, off, rfl, hg, ho⟩ := hOp (by omega)
    have HOO := Lib.hid ho
    clear ht hlt hne hcm hr hin HC hco ho hOp
    have hG3w := hGw.next hG3
    go_wp2
    go_loopw [9, 10, 11, 12, 13] (fun now i _ _ _ wr => ∃ (j : Nat) (An : Option Addr) (cn : Nat), j ≤ i0 ∧ i = .int .i64 j ∧ now = .slice An q cn ∧ Hid (Ints wr An (stp Nm Dl Fl ys j)) ∧ Same w wr) (fun _ i _ _ _ _ => p - (intOf i).toNat)
    case atStart => exact ⟨0, some ⟨b0, 0, none⟩, 12, by omega, rfl, rfl, Lib.hid (hI2.same hG3), hG3w⟩
    case round =>
      obtain ⟨j, An, cn, hj, rfl, rfl, HI, hG⟩ := hrel
      have hjp : j < p := by omega
      have hgr : g < wr.heap.size := Nat.lt_of_lt_of_le hg hG.size
      go_wp2_with fail
      refine (try_one HR.out j (HIN.out j hjp) An q cn g (off + j * 3) _ _ HYL.out HI.out hgr (HOO.out.gr hG (fun f => f) j hjp) (HFL.out j (by omega)) (hS.same hG)).mono ?_
      rintro e w5 ⟨hG5, ⟨he, rfl⟩ | ⟨he, b5, _, rfl, hI5⟩⟩
      · obtain rfl : j = i0 := by
          rcases Nat.lt_or_ge j i0 with h | h
          · exact absurd (HLT.out j h) he
          · omega
        rw [HCO.out]
        go_wp2
        go_ret
        exact ⟨by first | rfl | simp, (hG.next hG5).below⟩
      · have hji : j < i0 := by
          rcases Nat.lt_or_ge j i0 with h | h
          · exact h
          · obtain rfl : j = i0 := by omega
            exact absurd he HNE.out
        have HI5 := Lib.hid hI5
        clear hI5 he
        go_wp2
        go_roundw
        case rel => exact ⟨j + 1, _, q, by omega, by go_num, rfl, HI5, hG.next hG5⟩
        case measure => simp [intOf]; omega
  · obtain ⟨hr, hp1, hp8, hin⟩ := tcode_zero ht
    have HR := Lib.hid hr
    have HIN := Lib.hid hin
    have HALL := Lib.hid hall
    have HB := Lib.hid (ints_blk hB)
    obtain ⟨g, off, rfl, hg, ho⟩ := hOp (by omega)
    have HOO := Lib.hid ho
    rw [HYL.out]
    clear ht hr hin hall ho hOp hB
    have hG3w := hGw.next hG3
    go_wp2
    go_loopw [9, 10, 11, 12, 13] (fun now i _ _ _ wr => ∃ (j : Nat) (An : Option Addr) (cn : Nat), j ≤ p ∧ i = .int .i64 j ∧ now = .slice An q cn ∧ Hid (Ints wr An (stp Nm Dl Fl ys j)) ∧ Same w3 wr) (fun _ i _ _ _ _ => p - (intOf i).toNat)
    case atStart => exact ⟨0, some ⟨b0, 0, none⟩, 12, by omega, rfl, rfl, Lib.hid (hI2.same hG3), Gr.refl _ _⟩
    case round =>
      obtain ⟨j, An, cn, hj, rfl, rfl, HI, hGr⟩ := hrel
      have hG : Same w wr := hG3w.next hGr
      by_cases hjp : j < p
      · have hgr : g < wr.heap.size := Nat.lt_of_lt_of_le hg hG.size
        go_wp2_with fail
        refine (try_one HR.out j (HIN.out j hjp) An q cn g (off + j * 3) _ _ HYL.out HI.out hgr (HOO.out.gr hG (fun f => f) j hjp) (HFL.out j (by omega)) (hS.same hG)).mono ?_
        rintro e w5 ⟨hG5, ⟨he, rfl⟩ | ⟨he, b5, _, rfl, hI5⟩⟩
        · exact absurd (HALL.out j hjp) he
        · have HI5 := Lib.hid hI5
          clear hI5 he
          go_wp2
          go_roundw
          case rel => exact ⟨j + 1, _, q, by omega, by go_num, rfl, HI5, hGr.next hG5⟩
          case measure => simp [intOf]; omega
      · obtain rfl : j = p := by omega
        go_wp2_with fail
        refine (ints_same (stp Nm Dl Fl ys j) _ _ q q cn _ (by rw [stp_len, HYL.out]) (by omega) (HB.out.same hGr) HI.out).mono ?_
        rintro e w6 ⟨rfl, hG6⟩
        go_wp2
        go_ret
        exact ⟨by first | rfl | simp, (hG.next hG6).below⟩
end Go.Proofs
