/- PipeStreams. -/
import Derived.Test.YtdonlpldbdooaaaDoorFc
set_option linter.unusedVariables false
set_option linter.unusedSimpArgs false
namespace Go.Proofs
open Go.RowKit Go.Shelf
attribute [local go_sem] Oper.semAt_some
variable {aW aB : Addr}

theorem toList_mk (X Y : List UInt8) : (({ data := X.toArray } : ByteArray) ++ { data := Y.toArray }).toList = X ++ Y := by rw [Lib.toList_data, ba_append]

set_option maxRecDepth 100000 in
set_option maxHeartbeats 4000000 in
theorem pipeStreams_walk (A : Option Addr) (n cap : Nat) (D K N : Nat → Int) (S : Nat → ByteArray) (w : World) (hnc : n ≤ cap) (hcap : cap ≤ maxLen) (ha : Acts w A n D K N S) (hS : Sen w aW aB) :
    Calls Tryd.prog 3 #[.slice A n cap] w fun e w' => e = .returned (.bool true) ∧ Below w.heap.size w w' := by
  have hn := Nat.le_trans hnc hcap
  unfold maxLen at hn
  clear hnc hcap
  go_enter Tryd.func3, Tryd.ntmps3
  go_wp2_with fail
  refine (shown_any (aW := aW) (aB := aB) _ hS).mono ?_; rintro e w0 ⟨rfl, hG0⟩
  go_wp2_with fail
  refine (ps_new _ (hS.same hG0)).mono ?_; rintro e w1 ⟨b, rb, rfl, hP⟩
  have hz0 := hG0.size
  go_wp2
  go_loopw [5, 6, 7, 8, 9, 10, 11] (fun inn out i _ _ _ _ wr => ∃ (k : Nat) (L O : List UInt8), k ≤ n ∧ k ≤ 150 ∧ O.length ≤ 32 * k ∧ i = .int .i64 k ∧ inn = .string ⟨(O ++ L).toArray⟩ ∧ out = .string ⟨O.toArray⟩ ∧ PS w0 wr aW aB b rb L 1 1) (fun _ _ i _ _ _ _ _ => n - (intOf i).toNat)
  case atStart => exact ⟨0, [], [], by omega, by omega, by simp, rfl, rfl, rfl, hP⟩
  case round =>
    clear hP
    obtain ⟨k, L, O, hk, hk2, hO, rfl, rfl, rfl, hP⟩ := hrel
    obtain ⟨hlb, hlr, hle⟩ := hP.lt
    by_cases hlt : k < n ∧ k < 150
    · obtain ⟨hlt, hlt2⟩ := hlt
      obtain ⟨g, off, rfl, hg, hc⟩ := ha (by omega)
      obtain ⟨d0, d1, d2, d3, ds⟩ := hc k hlt
      have hGa : Same w wr := hG0.next hP.g
      have x0 := (hGa.cell (p := ⟨g, off + k * 4 + 0, none⟩) hg (fun f => f)).trans d0
      have x2 := (hGa.cell (p := ⟨g, off + k * 4 + 2, none⟩) hg (fun f => f)).trans d2
      have x3 := (hGa.cell (p := ⟨g, off + k * 4 + 3, none⟩) hg (fun f => f)).trans d3
      have hza := hGa.size
      clear d0 d1 d2 d3 hc ha hGa
      simp only [Nat.add_zero] at x0
      obtain ⟨a, h6⟩ : ∃ a, six (D k) = a := ⟨_, rfl⟩
      unfold six at h6
      rcases (show a < 2 ∨ 2 ≤ a by omega) with h2 | h2
      · have hb1 := rd_len L 1 (N k)
        have hb2 := rdS_le L 1 (N k)
        go_wp2_with fail
        refine (ps_read hP (N k)).mono ?_; rintro e w2 ⟨rfl, hP2, _⟩
        generalize rdS L 1 (N k) = o at *
        generalize rdL L 1 (N k) = L' at *
        have HB := Lib.hid hb1
        clear hb1 x0 x2 x3
        go_wp2
        go_roundw
        case rel => exact ⟨k + 1, L', O ++ o, by omega, by omega, by simp; omega, by go_num, str_eq (by simp [HB.out]), str_eq (by simp), hP2⟩
        case measure => simp [intOf]; omega
      · have hT1 := tx_size (S k)
        have ct := text_tx (S k) ds
        generalize tx (S k) = T at hT1 ct
        have CT := Lib.hid ct
        have hm := wrN_le L 1 T.data.toList
        have hl : wrL L 1 T.data.toList = L ++ T.data.toList.take (wrN L 1 T.data.toList) := rfl
        rw [← Lib.size_eq] at hm
        clear ct
        go_wp2_with fail
        refine (CT.out _).mono ?_; rintro e w1' ⟨rfl, rfl⟩
        go_wp2_with fail
        refine (ps_write hP T (by unfold maxLen; omega)).mono ?_; rintro e w2 ⟨rfl, hP2, hG2⟩
        generalize wrN L 1 T.data.toList = m at *
        generalize wrL L 1 T.data.toList = L' at *
        obtain ⟨hm1, hm2⟩ := hm
        have HL := Lib.hid hl
        have y3 := (hG2.cell (p := ⟨g, off + k * 4 + 3, none⟩) (by dsimp only; omega) (by have := hP.hr; dsimp only; omega)).trans x3
        clear hl x0 x2 x3
        go_wp2_with fail
        refine (CT.out _).mono ?_; rintro e w1' ⟨rfl, rfl⟩
        go_wp2_with fail
        refine (CT.out _).mono ?_; rintro e w1' ⟨rfl, rfl⟩
        go_wp2
        go_roundw
        case rel => exact ⟨k + 1, L', O, by omega, by omega, by omega, by go_num, str_eq (by rw [ba_append, Lib.extract_data, HL.out]; simp), rfl, hP2⟩
        case measure => simp [intOf]; omega
    · have hxy := toList_mk O L
      obtain ⟨r1, r2, r3⟩ := rd_fit L hle
      have HR := Lib.hid (And.intro r1 (And.intro r2 r3))
      clear r1 r2 r3
      go_wp2_with fail
      all_goals
        have hw := ps_close hP 2
        rw [show clG 1 1 2 = false from rfl, show clE 1 1 2 = 0 from rfl, show clR 1 2 = 1 from rfl, show clW 1 2 = 0 from rfl] at hw
        refine hw.mono ?_; rintro e w2 ⟨rfl, hP2, _⟩
        clear hw
        go_wp2_with fail
        have hw := ps_read hP2 100
        rw [HR.out.1, HR.out.2.1, HR.out.2.2] at hw
        refine hw.mono ?_; rintro e w3 ⟨rfl, hP3, _⟩
        clear hw
        go_wp2_with fail
        have hw := ps_read hP3 100
        rw [show rdS [] 0 100 = [] from rfl, show rdE [] 0 100 = 0 from rfl, show rdL [] 0 100 = [] from rfl] at hw
        refine hw.mono ?_; rintro e w4 ⟨rfl, hP4, _⟩
        clear hw
        go_wp2
        go_ret
        exact ⟨by first | rfl | (simp; done) | (simp; omega), (hG0.next hP4.g).below⟩
end Go.Proofs
