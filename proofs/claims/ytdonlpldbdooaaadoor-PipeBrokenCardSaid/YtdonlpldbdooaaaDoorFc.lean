/- PipeBroken. -/
import Derived.Test.YtdonlpldbdooaaaDoorFa
set_option linter.unusedVariables false
set_option linter.unusedSimpArgs false
namespace Go.Proofs
open Go.RowKit Go.Shelf
attribute [local go_sem] Oper.semAt_some
variable {aW aB : Addr}

theorem cut30 (s : ByteArray) (h : 30 ≤ s.size) : ∃ X : ByteArray, s.extract 0 30 = X ∧ X.size ≤ 30 := ⟨_, rfl, by rw [Lib.size_eq, Lib.extract_data]; simp; omega⟩
theorem wr_fit (s : List UInt8) (h : s.length ≤ 32) : wrN [] 1 s = s.length ∧ wrE [] 1 s = 0 ∧ wrL [] 1 s = s := by
  have e1 : wrN [] 1 s = s.length := by unfold wrN; simp; omega
  have e2 : wrE [] 1 s = 0 := by unfold wrE; simp
  have e3 : wrL [] 1 s = s := by unfold wrL; rw [e1]; simp
  exact ⟨e1, e2, e3⟩
theorem rd_fit (L : List UInt8) (h : L.length ≤ 32) : rdS L 0 100 = L ∧ rdE L 0 100 = 0 ∧ rdL L 0 100 = [] := by
  have e0 : rdW L 0 100 = false := by unfold rdW canR; simp
  refine ⟨?_, ?_, ?_⟩
  · unfold rdS; rw [if_neg (by rw [e0]; simp)]; exact List.take_of_length_le (by simp; omega)
  · unfold rdE; rw [e0]; simp
  · unfold rdL; rw [if_neg (by rw [e0]; simp)]; exact List.drop_eq_nil_of_le (by simp; omega)
theorem wr_no (L s : List UInt8) : wrN L 0 s = 0 ∧ wrE L 0 s = 90 ∧ wrL L 0 s = L := ⟨rfl, rfl, by unfold wrL; rw [show wrN L 0 s = 0 from rfl]; simp⟩

set_option maxRecDepth 100000 in
set_option maxHeartbeats 4000000 in
theorem pipeBroken_walk (s t : ByteArray) (w : World) (hs : s.size ≤ maxLen) (ht : t.size ≤ maxLen) (hS : Sen w aW aB) :
    Calls Tryd.prog 6 #[.string s, .string t] w fun e w' => e = .returned (.bool true) ∧ Below w.heap.size w w' := by
  have hs' := hs
  unfold maxLen at hs'
  have hX : ∃ X : ByteArray, (30 < s.size → s.extract 0 30 = X) ∧ (s.size ≤ 30 → s = X) ∧ X.size ≤ 30 := by
    by_cases h : 30 < s.size
    · obtain ⟨X, h1, h2⟩ := cut30 s (by omega)
      exact ⟨X, fun _ => h1, fun h' => by omega, h2⟩
    · exact ⟨s, fun h' => absurd h' h, fun _ => rfl, by omega⟩
  obtain ⟨X, hX1, hX2, hX3⟩ := hX
  have HX1 := Lib.hid hX1
  have HX2 := Lib.hid hX2
  clear hX1 hX2
  obtain ⟨f1, f2, f3⟩ := wr_fit X.data.toList (by rw [← Lib.size_eq]; omega)
  rw [← Lib.size_eq] at f1
  obtain ⟨r1, r2, r3⟩ := rd_fit X.data.toList (by rw [← Lib.size_eq]; omega)
  obtain ⟨q1, q2, q3⟩ := wr_no X.data.toList t.data.toList
  have HF := Lib.hid (And.intro f1 (And.intro f2 f3))
  have HR := Lib.hid (And.intro r1 (And.intro r2 r3))
  have HQ := Lib.hid (And.intro q1 (And.intro q2 q3))
  clear f1 f2 f3 r1 r2 r3 q1 q2 q3
  rcases (show (30 : Int) < s.size ∨ (s.size : Int) ≤ 30 by omega) with h30 | h30
  all_goals
    go_enter Tryd.func6, Tryd.ntmps6
    go_wp2_with fail
    refine (shown_any (aW := aW) (aB := aB) _ hS).mono ?_; rintro e w0 ⟨rfl, hG0⟩
    go_wp2_with fail
    refine (ps_new _ (hS.same hG0)).mono ?_; rintro e w1 ⟨b, rb, rfl, hP⟩
    first | rw [HX1.out (by omega)] | rw [HX2.out (by omega)] | skip
    go_wp2_with fail
    have hw := ps_write hP X (by unfold maxLen; omega)
    rw [HF.out.1, HF.out.2.1, HF.out.2.2] at hw
    refine hw.mono ?_; rintro e w2 ⟨rfl, hP2, _⟩
    clear hw
    go_wp2_with fail
    have hw := ps_close hP2 1
    rw [show clG 1 1 1 = false from rfl, show clE 1 1 1 = 0 from rfl, show clR 1 1 = 0 from rfl, show clW 1 1 = 1 from rfl] at hw
    refine hw.mono ?_; rintro e w3 ⟨rfl, hP3, _⟩
    clear hw
    go_wp2_with fail
    have hw := ps_write hP3 t ht
    rw [HQ.out.1, HQ.out.2.1, HQ.out.2.2] at hw
    refine hw.mono ?_; rintro e w4 ⟨rfl, hP4, _⟩
    clear hw
    go_wp2_with fail
    have hw := ps_open hP4 1
    rw [show opE 0 1 1 = 0 from rfl, show opR 0 1 = 1 from rfl, show opW 1 1 = 1 from rfl] at hw
    refine hw.mono ?_; rintro e w5 ⟨rfl, hP5, _⟩
    clear hw
    go_wp2_with fail
    have hw := ps_close hP5 2
    rw [show clG 1 1 2 = false from rfl, show clE 1 1 2 = 0 from rfl, show clR 1 2 = 1 from rfl, show clW 1 2 = 0 from rfl] at hw
    refine hw.mono ?_; rintro e w6 ⟨rfl, hP6, _⟩
    clear hw
    go_wp2_with fail
    have hw := ps_read hP6 100
    rw [HR.out.1, HR.out.2.1, HR.out.2.2] at hw
    refine hw.mono ?_; rintro e w7 ⟨rfl, hP7, _⟩
    clear hw
    go_wp2_with fail
    have hw := ps_read hP7 100
    rw [show rdS [] 0 100 = [] from rfl, show rdE [] 0 100 = 0 from rfl, show rdL [] 0 100 = [] from rfl] at hw
    refine hw.mono ?_; rintro e w8 ⟨rfl, hP8, _⟩
    clear hw
    go_wp2_with fail
    have hw := ps_close hP8 1
    rw [show clG 1 0 1 = true from rfl, show clE 1 0 1 = 0 from rfl, show clR 1 1 = 0 from rfl, show clW 0 1 = 0 from rfl] at hw
    refine hw.mono ?_; rintro e w9 ⟨rfl, hP9, _⟩
    clear hw
    go_wp2
    go_ret
    exact ⟨by first | rfl | simp, (hG0.next hP9.g).below⟩
end Go.Proofs
