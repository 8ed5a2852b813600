/- Pipes: shown, text. -/
import Derived.Test.YtdonlpldbdooaaaDoorW
import Derived.Test.YtdonlpldbdooaaaDoorX
import Derived.Test.YtdonlpldbdooaaaDoorZ
set_option linter.unusedVariables false
set_option linter.unusedSimpArgs false
namespace Go.Proofs
open Go.RowKit Go.Shelf
attribute [local go_sem] Oper.semAt_some
variable {aW aB : Addr}

theorem text_any (s : ByteArray) (hs : s.size ≤ maxLen) (w : World) : Calls Tryd.prog 14 #[.string s] w fun e w' => e = .returned (.string ⟨(s.data.toList.take 50).toArray⟩) ∧ w = w' := by
  unfold maxLen at hs
  go_enter Tryd.func14, Tryd.ntmps14
  go_wp2
  all_goals (go_ret; have hz := Lib.size_eq s)
  · exact ⟨ret_str (bax (by rw [Lib.extract_data]; simp)), rfl⟩
  · exact ⟨ret_str (bax (by simp only [List.take_of_length_le (show s.data.toList.length ≤ 50 by omega)])), rfl⟩
/-- The sentinels stay where a pipe is turned that came later. -/
theorem Sen.pip {w w1 w2 : World} {b : Nat} (hS : Sen w aW aB) (h1 : Same w w1) (hb : w.heap.size ≤ b) (hG : Gr w1 w2 (fun j => j = b)) : Sen w2 aW aB ∧ Same w w2 := by
  have hl := hS.lt
  have hs := h1.size
  exact ⟨(hS.same h1).gr hG (by omega) (by omega) (by omega) (by omega), h1.trans hG (fun j hj h => by omega)⟩
set_option maxHeartbeats 1000000 in
theorem shown_any (w : World) (hS : Sen w aW aB) : Calls Tryd.prog 10 #[] w fun e w' => e = .returned (.bool true) ∧ Same w w' := by
  go_enter Tryd.func10, Tryd.ntmps10
  go_wp2_with fail
  refine (pnew_any _).mono ?_; rintro e w1 ⟨b, rb, hb, hrb, rfl, hP, hG1⟩
  have hS1 := hS.same hG1
  go_wp2_with fail
  refine (read_any b rb [] 1 1 5 w1 hP hS1).mono ?_
  rintro e w2 (⟨hx, _⟩ | ⟨_, _, rfl, rfl⟩ | ⟨_, hx, _⟩)
  · omega
  · go_wp2_with fail
    refine (write_any b rb [] 1 1 ⟨#[97, 98]⟩ (by decide) w1 hP hS1).mono ?_
    rintro e w3 (⟨hx, _⟩ | ⟨_, _, hx, _⟩ | ⟨_, _, rfl, hP3, hG3⟩)
    · omega
    · simp at hx
    · obtain ⟨hS3, hG3'⟩ := hS.pip hG1 hrb hG3
      have e3 : ((min (ByteArray.mk #[97, 98]).size (32 - ([] : List UInt8).length) : Nat) : Int) = 2 := rfl
      rw [e3]
      have hP3' : Pip w3 b rb [97, 98] 1 1 := hP3
      clear hP3
      go_wp2_with fail
      refine (read_any b rb [97, 98] 1 1 5 w3 hP3' hS3).mono ?_
      rintro e w4 (⟨hx, _⟩ | ⟨_, hx, _⟩ | ⟨_, _, rfl, hP4, hG4⟩)
      · omega
      · simp [canR] at hx
      · obtain ⟨hS4, hG4'⟩ := hS.pip hG3' hrb hG4
        have hP4' : Pip w4 b rb [] 1 1 := hP4
        have e4 : (Value.string ⟨(([97, 98] : List UInt8).take (5 : Int).toNat).toArray⟩) = .string ⟨#[97, 98]⟩ := rfl
        rw [e4]
        clear hP4 e4
        go_wp2_with fail
        refine (close_any b rb 1 1 2 w4 hP4'.pb (by omega) (by omega)).mono ?_
        rintro e w5 (⟨hx, _⟩ | ⟨_, _, rfl, hP5, hG5⟩ | ⟨_, hx, _⟩)
        · omega
        · obtain ⟨hS5, hG5'⟩ := hS.pip hG4' hb hG5
          have hP5' : Pip w5 b rb [] 1 0 := ⟨hP4'.ne, hP5, hP4'.rg.gr hG5 hP4'.ne, by omega, by omega⟩
          go_wp2_with fail
          refine (read_any b rb [] 1 0 5 w5 hP5' hS5).mono ?_
          rintro e w6 (⟨hx, _⟩ | ⟨_, hx, _⟩ | ⟨_, _, rfl, hP6, hG6⟩)
          · omega
          · simp [canR] at hx
          · obtain ⟨hS6, hG6'⟩ := hS.pip hG5' hrb hG6
            have e6 : (Value.string ⟨(([] : List UInt8).take (5 : Int).toNat).toArray⟩) = .string ⟨#[]⟩ := rfl
            rw [e6]
            clear hP6 e6
            go_wp2
            go_ret
            exact ⟨by first | rfl | simp, hG6'⟩
        · exact absurd (hx rfl) (by decide)
  · simp [canR] at hx
end Go.Proofs
