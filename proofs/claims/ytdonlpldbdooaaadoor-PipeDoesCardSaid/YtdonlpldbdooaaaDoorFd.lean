/- PipeFull. -/
import Derived.Test.YtdonlpldbdooaaaDoorFa
set_option linter.unusedVariables false
set_option linter.unusedSimpArgs false
namespace Go.Proofs
open Go.RowKit Go.Shelf
attribute [local go_sem] Oper.semAt_some
variable {aW aB : Addr}

theorem full_one (T : List UInt8) : ∃ q, wrN [] 1 T = q ∧ q = min T.length 32 ∧ wrE [] 1 T = 0 ∧ (wrL [] 1 T).length = q := by
  refine ⟨_, rfl, ?_, ?_, ?_⟩
  · unfold wrN; simp
  · unfold wrE; simp
  · unfold wrL; rw [List.nil_append, List.length_take]; have := (wrN_le [] 1 T).2; omega
theorem full_two (L Z : List UInt8) (hL : L.length ≤ 32) (hz : Z.length ≠ 0) : ∃ m, wrN L 1 Z = m ∧ m = min Z.length (32 - L.length) ∧ wrE L 1 Z = (if L.length = 32 then 63 else 0) ∧ (wrL L 1 Z).length = L.length + m := by
  refine ⟨_, rfl, ?_, ?_, ?_⟩
  · unfold wrN; simp
  · unfold wrE; simp [hz]
  · unfold wrL; rw [List.length_append, List.length_take]; have := (wrN_le L 1 Z).2; omega
theorem ps_len' {w0 w : World} {b rb : Nat} {L : List UInt8} {R W : Int} (h : PS w0 w aW aB b rb L R W) (n : Int) (hn : (L.length : Int) = n) : Calls Tryd.prog 16 #[.pointer (some ⟨b, 0, none⟩)] w fun e w' => e = .returned (.int .i64 n) ∧ w = w' := by
  subst hn; exact ps_len h
theorem txx (T : ByteArray) : (T ++ (⟨#[120]⟩ : ByteArray)).data.toList.length = T.size + 1 := by rw [ba_append, Lib.size_eq]; simp

set_option maxRecDepth 100000 in
set_option maxHeartbeats 8000000 in
theorem pipeFull_walk (s t : ByteArray) (w : World) (hs : s.size ≤ maxLen) (ht : t.size ≤ maxLen) (hS : Sen w aW aB) :
    Calls Tryd.prog 4 #[.string s, .string t] w fun e w' => e = .returned (.bool true) ∧ Below w.heap.size w w' := by
  have hs' := hs
  have ht' := ht
  unfold maxLen at hs' ht'
  obtain ⟨T, hT⟩ : ∃ T, tx s = T := ⟨_, rfl⟩
  obtain ⟨Y, hY⟩ : ∃ Y, tx t = Y := ⟨_, rfl⟩
  have hz1 := tx_size s
  have hz2 := tx_size' t
  have ct := text_tx s hs
  have cu := text_tx t ht
  rw [hT] at hz1 ct
  rw [hY] at hz2 cu
  have CT := Lib.hid ct
  have CU := Lib.hid cu
  clear ct cu hT hY
  obtain ⟨q, h1, h2, h3, h4⟩ := full_one T.data.toList
  obtain ⟨L1, hL1⟩ : ∃ L1, wrL [] 1 T.data.toList = L1 := ⟨_, rfl⟩
  rw [hL1] at h4
  rw [← Lib.size_eq] at h2
  obtain ⟨m, k1, k2, k3, k4⟩ := full_two L1 (Y ++ (⟨#[120]⟩ : ByteArray)).data.toList (by omega) (by rw [txx]; omega)
  rw [txx, h4] at k2
  rw [h4] at k3 k4
  have H1 := Lib.hid (And.intro h1 (And.intro h3 hL1))
  obtain ⟨E, hE⟩ : ∃ E, wrE L1 1 (Y ++ (⟨#[120]⟩ : ByteArray)).data.toList = E := ⟨_, rfl⟩
  rw [hE] at k3
  have HK := Lib.hid (And.intro k1 (And.intro hE k4))
  clear h1 h3 hL1 k1 hE k4 h4
  have hYs : Y.size ≤ 50 := by omega
  have hcat : (Y ++ (⟨#[120]⟩ : ByteArray)).size ≤ maxLen := by rw [Lib.size_eq, txx]; unfold maxLen; omega
  have HC := Lib.hid hcat
  clear hcat
  rcases (show (T.size < 32 ∧ q = T.size) ∨ (32 ≤ T.size ∧ q = 32) by omega) with ⟨hq, rfl⟩ | ⟨hq, rfl⟩
  · rw [if_neg (by omega)] at k3
    subst k3
    rcases (show (t.size ≤ 50 ∧ Y.size = t.size) ∨ (50 < t.size ∧ Y.size = 50) by omega) with ⟨ht5, hYt⟩ | ⟨ht5, hYt⟩
    · rcases (show (32 : Int) - T.size < (t.size : Int) + 1 ∨ (t.size : Int) + 1 ≤ 32 - T.size by omega) with hc | hc
      · have HE : Hid (((m : Nat) : Int) = 32 - T.size) := Lib.hid (by omega)
        clear h2 k2 hz2 hYt
        go_enter Tryd.func4, Tryd.ntmps4
        go_wp2_with fail
        refine (shown_any (aW := aW) (aB := aB) _ hS).mono ?_; rintro e w0 ⟨rfl, hG0⟩
        go_wp2_with fail
        refine (ps_new _ (hS.same hG0)).mono ?_; rintro e w1 ⟨b, rb, rfl, hP⟩
        go_wp2_with fail
        refine (CT.out _).mono ?_; rintro e w1' ⟨rfl, rfl⟩
        go_wp2_with fail
        have hw := ps_write hP T (by unfold maxLen; omega)
        rw [H1.out.1, H1.out.2.1, H1.out.2.2] at hw
        refine hw.mono ?_; rintro e w2 ⟨rfl, hP2, _⟩
        clear hw
        go_wp2_with fail
        refine (CU.out _).mono ?_; rintro e w1' ⟨rfl, rfl⟩
        go_wp2_with fail
        have hw := ps_write hP2 _ HC.out
        rw [HK.out.1, HK.out.2.1, HE.out] at hw
        refine hw.mono ?_; rintro e w3 ⟨rfl, hP3, _⟩
        clear hw
        go_wp2_with fail
        refine (CT.out _).mono ?_; rintro e w1' ⟨rfl, rfl⟩
        go_wp2_with fail
        all_goals
          refine (CT.out _).mono ?_; rintro e w1' ⟨rfl, rfl⟩
          go_wp2_with fail
          refine (ps_len' hP3 (T.size + (32 - T.size)) (by rw [HK.out.2.2]; first | rfl | (have := HE.out; omega))).mono ?_; rintro e w1' ⟨rfl, rfl⟩
          go_wp2
          go_ret
          exact ⟨by first | rfl | (simp; done) | (simp; omega), (hG0.next hP3.g).below⟩

      · have HE : Hid (((m : Nat) : Int) = t.size + 1) := Lib.hid (by omega)
        clear h2 k2 hz2 hYt
        go_enter Tryd.func4, Tryd.ntmps4
        go_wp2_with fail
        refine (shown_any (aW := aW) (aB := aB) _ hS).mono ?_; rintro e w0 ⟨rfl, hG0⟩
        go_wp2_with fail
        refine (ps_new _ (hS.same hG0)).mono ?_; rintro e w1 ⟨b, rb, rfl, hP⟩
        go_wp2_with fail
        refine (CT.out _).mono ?_; rintro e w1' ⟨rfl, rfl⟩
        go_wp2_with fail
        have hw := ps_write hP T (by unfold maxLen; omega)
        rw [H1.out.1, H1.out.2.1, H1.out.2.2] at hw
        refine hw.mono ?_; rintro e w2 ⟨rfl, hP2, _⟩
        clear hw
        go_wp2_with fail
        refine (CU.out _).mono ?_; rintro e w1' ⟨rfl, rfl⟩
        go_wp2_with fail
        have hw := ps_write hP2 _ HC.out
        rw [HK.out.1, HK.out.2.1, HE.out] at hw
        refine hw.mono ?_; rintro e w3 ⟨rfl, hP3, _⟩
        clear hw
        go_wp2_with fail
        refine (CT.out _).mono ?_; rintro e w1' ⟨rfl, rfl⟩
        go_wp2_with fail
        all_goals
          refine (CT.out _).mono ?_; rintro e w1' ⟨rfl, rfl⟩
          go_wp2_with fail
          refine (ps_len' hP3 (T.size + (t.size + 1)) (by rw [HK.out.2.2]; first | rfl | (have := HE.out; omega))).mono ?_; rintro e w1' ⟨rfl, rfl⟩
          go_wp2
          go_ret
          exact ⟨by first | rfl | (simp; done) | (simp; omega), (hG0.next hP3.g).below⟩

    · rcases (show (32 : Int) - T.size < 51 ∨ 51 ≤ (32 : Int) - T.size by omega) with hc | hc
      · have HE : Hid (((m : Nat) : Int) = 32 - T.size) := Lib.hid (by omega)
        clear h2 k2 hz2 hYt
        go_enter Tryd.func4, Tryd.ntmps4
        go_wp2_with fail
        refine (shown_any (aW := aW) (aB := aB) _ hS).mono ?_; rintro e w0 ⟨rfl, hG0⟩
        go_wp2_with fail
        refine (ps_new _ (hS.same hG0)).mono ?_; rintro e w1 ⟨b, rb, rfl, hP⟩
        go_wp2_with fail
        refine (CT.out _).mono ?_; rintro e w1' ⟨rfl, rfl⟩
        go_wp2_with fail
        have hw := ps_write hP T (by unfold maxLen; omega)
        rw [H1.out.1, H1.out.2.1, H1.out.2.2] at hw
        refine hw.mono ?_; rintro e w2 ⟨rfl, hP2, _⟩
        clear hw
        go_wp2_with fail
        refine (CU.out _).mono ?_; rintro e w1' ⟨rfl, rfl⟩
        go_wp2_with fail
        have hw := ps_write hP2 _ HC.out
        rw [HK.out.1, HK.out.2.1, HE.out] at hw
        refine hw.mono ?_; rintro e w3 ⟨rfl, hP3, _⟩
        clear hw
        go_wp2_with fail
        refine (CT.out _).mono ?_; rintro e w1' ⟨rfl, rfl⟩
        go_wp2_with fail
        all_goals
          refine (CT.out _).mono ?_; rintro e w1' ⟨rfl, rfl⟩
          go_wp2_with fail
          refine (ps_len' hP3 (T.size + (32 - T.size)) (by rw [HK.out.2.2]; first | rfl | (have := HE.out; omega))).mono ?_; rintro e w1' ⟨rfl, rfl⟩
          go_wp2
          go_ret
          exact ⟨by first | rfl | (simp; done) | (simp; omega), (hG0.next hP3.g).below⟩

      · omega
  · rw [if_pos rfl] at k3
    subst k3
    obtain rfl : m = 0 := by omega
    have HE : Hid (((0 : Nat) : Int) = 0) := Lib.hid rfl
    clear h2 k2 hz2
    go_enter Tryd.func4, Tryd.ntmps4
    go_wp2_with fail
    refine (shown_any (aW := aW) (aB := aB) _ hS).mono ?_; rintro e w0 ⟨rfl, hG0⟩
    go_wp2_with fail
    refine (ps_new _ (hS.same hG0)).mono ?_; rintro e w1 ⟨b, rb, rfl, hP⟩
    go_wp2_with fail
    refine (CT.out _).mono ?_; rintro e w1' ⟨rfl, rfl⟩
    go_wp2_with fail
    have hw := ps_write hP T (by unfold maxLen; omega)
    rw [H1.out.1, H1.out.2.1, H1.out.2.2] at hw
    refine hw.mono ?_; rintro e w2 ⟨rfl, hP2, _⟩
    clear hw
    go_wp2_with fail
    refine (CU.out _).mono ?_; rintro e w1' ⟨rfl, rfl⟩
    go_wp2_with fail
    have hw := ps_write hP2 _ HC.out
    rw [HK.out.1, HK.out.2.1] at hw
    refine hw.mono ?_; rintro e w3 ⟨rfl, hP3, _⟩
    clear hw
    go_wp2_with fail
    refine (CT.out _).mono ?_; rintro e w1' ⟨rfl, rfl⟩
    go_wp2_with fail
    all_goals
      refine (CT.out _).mono ?_; rintro e w1' ⟨rfl, rfl⟩
      go_wp2_with fail
      refine (ps_len' hP3 (32) (by rw [HK.out.2.2]; first | rfl | (have := HE.out; omega))).mono ?_; rintro e w1' ⟨rfl, rfl⟩
      go_wp2
      go_ret
      exact ⟨by first | rfl | (simp; done) | (simp; omega), (hG0.next hP3.g).below⟩
end Go.Proofs
