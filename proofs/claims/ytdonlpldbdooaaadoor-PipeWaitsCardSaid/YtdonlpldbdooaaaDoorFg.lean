/- PipeWaits. -/
import Derived.Test.YtdonlpldbdooaaaDoorFd
set_option linter.unusedVariables false
set_option linter.unusedSimpArgs false
namespace Go.Proofs
open Go.RowKit Go.Shelf
attribute [local go_sem] Oper.semAt_some
variable {aW aB : Addr}

set_option maxRecDepth 100000 in
set_option maxHeartbeats 16000000 in
theorem pipeWaits_walk (A : Option Addr) (n cap : Nat) (D K N : Nat → Int) (S : Nat → ByteArray) (s : ByteArray) (w : World) (hnc : n ≤ cap) (hcap : cap ≤ maxLen) (ha : Acts w A n D K N S) (hwf : ∀ i, i < n → -9223372036854775808 ≤ N i ∧ N i < 9223372036854775808) (hs : s.size ≤ maxLen) (hS : Sen w aW aB) :
    Calls Tryd.prog 5 #[.slice A n cap, .string s] w fun e w' => e = .returned (.bool true) ∧ Below w.heap.size w w' := by
  have hn := Nat.le_trans hnc hcap
  unfold maxLen at hn
  clear hnc hcap
  obtain ⟨T, hT⟩ : ∃ T, tx s = T := ⟨_, rfl⟩
  have hz1 := tx_size s
  have ct := text_tx s hs
  rw [hT] at hz1 ct
  have CT := Lib.hid ct
  have hcat : (T ++ (⟨#[120]⟩ : ByteArray)).size ≤ maxLen := by rw [Lib.size_eq, txx]; unfold maxLen; omega
  have HC := Lib.hid hcat
  clear ct hT hcat
  go_enter Tryd.func5, Tryd.ntmps5
  go_wp2_with fail
  refine (shown_any (aW := aW) (aB := aB) _ hS).mono ?_; rintro e w0 ⟨rfl, hG0⟩
  go_wp2_with fail
  refine (ps_new _ (hS.same hG0)).mono ?_; rintro e w1 ⟨b, rb, rfl, hP⟩
  have hz0 := hG0.size
  go_wp2
  go_loopw [7, 8, 9, 10, 11, 12, 13] (fun i _ _ _ _ _ _ wr => ∃ (k : Nat) (L : List UInt8) (R W : Int), k ≤ n ∧ i = .int .i64 k ∧ PS w0 wr aW aB b rb L R W) (fun i _ _ _ _ _ _ _ => n - (intOf i).toNat)
  case atStart => exact ⟨0, [], 1, 1, by omega, rfl, hP⟩
  case round =>
    clear hP
    obtain ⟨k, L, R, W, hk, rfl, hP⟩ := hrel
    obtain ⟨hlb, hlr, hle⟩ := hP.lt
    by_cases hlt : k < n ∧ k < 100
    · obtain ⟨hlt, hlt2⟩ := hlt
      obtain ⟨g, off, rfl, hg, hc⟩ := ha (by omega)
      obtain ⟨d0, d1, d2, d3, ds⟩ := hc k hlt
      obtain ⟨hw1, hw2⟩ := hwf k hlt
      have hGa : Same w wr := hG0.next hP.g
      have x0 := (hGa.cell (p := ⟨g, off + k * 4 + 0, none⟩) hg (fun f => f)).trans d0
      have x1 := (hGa.cell (p := ⟨g, off + k * 4 + 1, none⟩) hg (fun f => f)).trans d1
      have x2 := (hGa.cell (p := ⟨g, off + k * 4 + 2, none⟩) hg (fun f => f)).trans d2
      have hza := hGa.size
      clear d0 d1 d2 d3 hc ha hGa hwf
      simp only [Nat.add_zero] at x0
      rcases six_cases (D k) with h6 | h6 | h6 | h6 | h6 | h6
      all_goals unfold six at h6
      · rcases (show N k ≤ 1 ∨ 1 < N k by omega) with hN | hN
        · rcases hcr : canR L W with _ | _
          · have hcr : canR L W = false := hcr
            have hE : rdE L W (1) = 63 := by unfold rdE rdW; rw [hcr]; first | (simp; done) | (simp; omega)
            go_wp2_with fail
            have hw := ps_canR hP
            rw [hcr] at hw
            refine hw.mono ?_; rintro e w2 ⟨rfl, rfl⟩
            clear hw
            go_wp2_with fail
            have hw := ps_read hP (1)
            rw [hE] at hw
            refine hw.mono ?_; rintro e w3 ⟨rfl, hP3, _⟩
            generalize rdS L W (1) = o at *
            generalize rdL L W (1) = L' at *
            clear hw hE hcr x0 x1 x2
            go_wp2
            go_roundw
            case rel => exact ⟨k + 1, L', R, W, by omega, by go_num, hP3⟩
            case measure => simp [intOf]; omega
          · have hcr : canR L W = true := hcr
            have hE : rdE L W (1) = 0 := by unfold rdE rdW; rw [hcr]; first | (simp; done) | (simp; omega)
            go_wp2_with fail
            have hw := ps_canR hP
            rw [hcr] at hw
            refine hw.mono ?_; rintro e w2 ⟨rfl, rfl⟩
            clear hw
            go_wp2_with fail
            have hw := ps_read hP (1)
            rw [hE] at hw
            refine hw.mono ?_; rintro e w3 ⟨rfl, hP3, _⟩
            generalize rdS L W (1) = o at *
            generalize rdL L W (1) = L' at *
            clear hw hE hcr x0 x1 x2
            go_wp2
            go_roundw
            case rel => exact ⟨k + 1, L', R, W, by omega, by go_num, hP3⟩
            case measure => simp [intOf]; omega
        · rcases hcr : canR L W with _ | _
          · have hcr : canR L W = false := hcr
            have hE : rdE L W (N k) = 63 := by unfold rdE rdW; rw [hcr]; first | (simp; done) | (simp; omega)
            go_wp2_with fail
            have hw := ps_canR hP
            rw [hcr] at hw
            refine hw.mono ?_; rintro e w2 ⟨rfl, rfl⟩
            clear hw
            go_wp2_with fail
            have hw := ps_read hP (N k)
            rw [hE] at hw
            refine hw.mono ?_; rintro e w3 ⟨rfl, hP3, _⟩
            generalize rdS L W (N k) = o at *
            generalize rdL L W (N k) = L' at *
            clear hw hE hcr x0 x1 x2
            go_wp2
            go_roundw
            case rel => exact ⟨k + 1, L', R, W, by omega, by go_num, hP3⟩
            case measure => simp [intOf]; omega
          · have hcr : canR L W = true := hcr
            have hE : rdE L W (N k) = 0 := by unfold rdE rdW; rw [hcr]; first | (simp; done) | (simp; omega)
            go_wp2_with fail
            have hw := ps_canR hP
            rw [hcr] at hw
            refine hw.mono ?_; rintro e w2 ⟨rfl, rfl⟩
            clear hw
            go_wp2_with fail
            have hw := ps_read hP (N k)
            rw [hE] at hw
            refine hw.mono ?_; rintro e w3 ⟨rfl, hP3, _⟩
            generalize rdS L W (N k) = o at *
            generalize rdL L W (N k) = L' at *
            clear hw hE hcr x0 x1 x2
            go_wp2
            go_roundw
            case rel => exact ⟨k + 1, L', R, W, by omega, by go_num, hP3⟩
            case measure => simp [intOf]; omega
      · rcases (show N k ≤ 1 ∨ 1 < N k by omega) with hN | hN
        · rcases hcr : canR L W with _ | _
          · have hcr : canR L W = false := hcr
            have hE : rdE L W (1) = 63 := by unfold rdE rdW; rw [hcr]; first | (simp; done) | (simp; omega)
            go_wp2_with fail
            have hw := ps_canR hP
            rw [hcr] at hw
            refine hw.mono ?_; rintro e w2 ⟨rfl, rfl⟩
            clear hw
            go_wp2_with fail
            have hw := ps_read hP (1)
            rw [hE] at hw
            refine hw.mono ?_; rintro e w3 ⟨rfl, hP3, _⟩
            generalize rdS L W (1) = o at *
            generalize rdL L W (1) = L' at *
            clear hw hE hcr x0 x1 x2
            go_wp2
            go_roundw
            case rel => exact ⟨k + 1, L', R, W, by omega, by go_num, hP3⟩
            case measure => simp [intOf]; omega
          · have hcr : canR L W = true := hcr
            have hE : rdE L W (1) = 0 := by unfold rdE rdW; rw [hcr]; first | (simp; done) | (simp; omega)
            go_wp2_with fail
            have hw := ps_canR hP
            rw [hcr] at hw
            refine hw.mono ?_; rintro e w2 ⟨rfl, rfl⟩
            clear hw
            go_wp2_with fail
            have hw := ps_read hP (1)
            rw [hE] at hw
            refine hw.mono ?_; rintro e w3 ⟨rfl, hP3, _⟩
            generalize rdS L W (1) = o at *
            generalize rdL L W (1) = L' at *
            clear hw hE hcr x0 x1 x2
            go_wp2
            go_roundw
            case rel => exact ⟨k + 1, L', R, W, by omega, by go_num, hP3⟩
            case measure => simp [intOf]; omega
        · rcases hcr : canR L W with _ | _
          · have hcr : canR L W = false := hcr
            have hE : rdE L W (N k) = 63 := by unfold rdE rdW; rw [hcr]; first | (simp; done) | (simp; omega)
            go_wp2_with fail
            have hw := ps_canR hP
            rw [hcr] at hw
            refine hw.mono ?_; rintro e w2 ⟨rfl, rfl⟩
            clear hw
            go_wp2_with fail
            have hw := ps_read hP (N k)
            rw [hE] at hw
            refine hw.mono ?_; rintro e w3 ⟨rfl, hP3, _⟩
            generalize rdS L W (N k) = o at *
            generalize rdL L W (N k) = L' at *
            clear hw hE hcr x0 x1 x2
            go_wp2
            go_roundw
            case rel => exact ⟨k + 1, L', R, W, by omega, by go_num, hP3⟩
            case measure => simp [intOf]; omega
          · have hcr : canR L W = true := hcr
            have hE : rdE L W (N k) = 0 := by unfold rdE rdW; rw [hcr]; first | (simp; done) | (simp; omega)
            go_wp2_with fail
            have hw := ps_canR hP
            rw [hcr] at hw
            refine hw.mono ?_; rintro e w2 ⟨rfl, rfl⟩
            clear hw
            go_wp2_with fail
            have hw := ps_read hP (N k)
            rw [hE] at hw
            refine hw.mono ?_; rintro e w3 ⟨rfl, hP3, _⟩
            generalize rdS L W (N k) = o at *
            generalize rdL L W (N k) = L' at *
            clear hw hE hcr x0 x1 x2
            go_wp2
            go_roundw
            case rel => exact ⟨k + 1, L', R, W, by omega, by go_num, hP3⟩
            case measure => simp [intOf]; omega
      · rcases (show R = 0 ∨ (R ≠ 0 ∧ L.length = 32) ∨ (R ≠ 0 ∧ L.length < 32) by omega) with hR | ⟨hR, hL⟩ | ⟨hR, hL⟩
        · have hcw : canW L R = true := by unfold canW; simp [hR]
          have hE : wrE L R (T ++ (⟨#[120]⟩ : ByteArray)).data.toList = 90 := by unfold wrE; rw [if_pos hR]
          clear hR
          go_wp2_with fail
          have hw := ps_canW hP
          rw [hcw] at hw
          refine hw.mono ?_; rintro e w2 ⟨rfl, hP2, hG2⟩
          clear hw
          go_wp2_with fail
          refine (CT.out _).mono ?_; rintro e w2' ⟨rfl, rfl⟩
          go_wp2_with fail
          have hw := ps_write hP2 _ HC.out
          rw [hE] at hw
          refine hw.mono ?_; rintro e w3 ⟨rfl, hP3, _⟩
          generalize wrN L R (T ++ (⟨#[120]⟩ : ByteArray)).data.toList = o at *
          generalize wrL L R (T ++ (⟨#[120]⟩ : ByteArray)).data.toList = L' at *
          clear hw hE hcw x0 x1 x2
          go_wp2
          go_roundw
          case rel => exact ⟨k + 1, L', R, W, by omega, by go_num, hP3⟩
          case measure => simp [intOf]; omega
        · have hcw : canW L R = false := by unfold canW; simp [hR, hL]
          have hE : wrE L R (T ++ (⟨#[120]⟩ : ByteArray)).data.toList = 63 := by unfold wrE; rw [if_neg hR, if_pos ⟨by rw [txx]; omega, hL⟩]
          clear hR hL
          go_wp2_with fail
          have hw := ps_canW hP
          rw [hcw] at hw
          refine hw.mono ?_; rintro e w2 ⟨rfl, hP2, hG2⟩
          clear hw
          go_wp2_with fail
          refine (CT.out _).mono ?_; rintro e w2' ⟨rfl, rfl⟩
          go_wp2_with fail
          have hw := ps_write hP2 _ HC.out
          rw [hE] at hw
          refine hw.mono ?_; rintro e w3 ⟨rfl, hP3, _⟩
          generalize wrN L R (T ++ (⟨#[120]⟩ : ByteArray)).data.toList = o at *
          generalize wrL L R (T ++ (⟨#[120]⟩ : ByteArray)).data.toList = L' at *
          clear hw hE hcw x0 x1 x2
          go_wp2
          go_roundw
          case rel => exact ⟨k + 1, L', R, W, by omega, by go_num, hP3⟩
          case measure => simp [intOf]; omega
        · have hcw : canW L R = true := by unfold canW; simp [hL]
          have hE : wrE L R (T ++ (⟨#[120]⟩ : ByteArray)).data.toList = 0 := by unfold wrE; rw [if_neg hR, if_neg (fun h => by omega)]
          clear hR hL
          go_wp2_with fail
          have hw := ps_canW hP
          rw [hcw] at hw
          refine hw.mono ?_; rintro e w2 ⟨rfl, hP2, hG2⟩
          clear hw
          go_wp2_with fail
          refine (CT.out _).mono ?_; rintro e w2' ⟨rfl, rfl⟩
          go_wp2_with fail
          have hw := ps_write hP2 _ HC.out
          rw [hE] at hw
          refine hw.mono ?_; rintro e w3 ⟨rfl, hP3, _⟩
          generalize wrN L R (T ++ (⟨#[120]⟩ : ByteArray)).data.toList = o at *
          generalize wrL L R (T ++ (⟨#[120]⟩ : ByteArray)).data.toList = L' at *
          clear hw hE hcw x0 x1 x2
          go_wp2
          go_roundw
          case rel => exact ⟨k + 1, L', R, W, by omega, by go_num, hP3⟩
          case measure => simp [intOf]; omega
      · rcases (show R = 0 ∨ (R ≠ 0 ∧ L.length = 32) ∨ (R ≠ 0 ∧ L.length < 32) by omega) with hR | ⟨hR, hL⟩ | ⟨hR, hL⟩
        · have hcw : canW L R = true := by unfold canW; simp [hR]
          have hE : wrE L R (T ++ (⟨#[120]⟩ : ByteArray)).data.toList = 90 := by unfold wrE; rw [if_pos hR]
          clear hR
          go_wp2_with fail
          have hw := ps_canW hP
          rw [hcw] at hw
          refine hw.mono ?_; rintro e w2 ⟨rfl, hP2, hG2⟩
          clear hw
          go_wp2_with fail
          refine (CT.out _).mono ?_; rintro e w2' ⟨rfl, rfl⟩
          go_wp2_with fail
          have hw := ps_write hP2 _ HC.out
          rw [hE] at hw
          refine hw.mono ?_; rintro e w3 ⟨rfl, hP3, _⟩
          generalize wrN L R (T ++ (⟨#[120]⟩ : ByteArray)).data.toList = o at *
          generalize wrL L R (T ++ (⟨#[120]⟩ : ByteArray)).data.toList = L' at *
          clear hw hE hcw x0 x1 x2
          go_wp2
          go_roundw
          case rel => exact ⟨k + 1, L', R, W, by omega, by go_num, hP3⟩
          case measure => simp [intOf]; omega
        · have hcw : canW L R = false := by unfold canW; simp [hR, hL]
          have hE : wrE L R (T ++ (⟨#[120]⟩ : ByteArray)).data.toList = 63 := by unfold wrE; rw [if_neg hR, if_pos ⟨by rw [txx]; omega, hL⟩]
          clear hR hL
          go_wp2_with fail
          have hw := ps_canW hP
          rw [hcw] at hw
          refine hw.mono ?_; rintro e w2 ⟨rfl, hP2, hG2⟩
          clear hw
          go_wp2_with fail
          refine (CT.out _).mono ?_; rintro e w2' ⟨rfl, rfl⟩
          go_wp2_with fail
          have hw := ps_write hP2 _ HC.out
          rw [hE] at hw
          refine hw.mono ?_; rintro e w3 ⟨rfl, hP3, _⟩
          generalize wrN L R (T ++ (⟨#[120]⟩ : ByteArray)).data.toList = o at *
          generalize wrL L R (T ++ (⟨#[120]⟩ : ByteArray)).data.toList = L' at *
          clear hw hE hcw x0 x1 x2
          go_wp2
          go_roundw
          case rel => exact ⟨k + 1, L', R, W, by omega, by go_num, hP3⟩
          case measure => simp [intOf]; omega
        · have hcw : canW L R = true := by unfold canW; simp [hL]
          have hE : wrE L R (T ++ (⟨#[120]⟩ : ByteArray)).data.toList = 0 := by unfold wrE; rw [if_neg hR, if_neg (fun h => by omega)]
          clear hR hL
          go_wp2_with fail
          have hw := ps_canW hP
          rw [hcw] at hw
          refine hw.mono ?_; rintro e w2 ⟨rfl, hP2, hG2⟩
          clear hw
          go_wp2_with fail
          refine (CT.out _).mono ?_; rintro e w2' ⟨rfl, rfl⟩
          go_wp2_with fail
          have hw := ps_write hP2 _ HC.out
          rw [hE] at hw
          refine hw.mono ?_; rintro e w3 ⟨rfl, hP3, _⟩
          generalize wrN L R (T ++ (⟨#[120]⟩ : ByteArray)).data.toList = o at *
          generalize wrL L R (T ++ (⟨#[120]⟩ : ByteArray)).data.toList = L' at *
          clear hw hE hcw x0 x1 x2
          go_wp2
          go_roundw
          case rel => exact ⟨k + 1, L', R, W, by omega, by go_num, hP3⟩
          case measure => simp [intOf]; omega
      · go_wp2_with fail
        refine (ps_open hP (K k)).mono ?_; rintro e w3 ⟨rfl, hP3, _⟩
        generalize opE R W (K k) = o at *
        generalize opR R (K k) = R' at *
        generalize opW W (K k) = W' at *
        clear x0 x1 x2
        go_wp2
        go_roundw
        case rel => exact ⟨k + 1, L, R', W', by omega, by go_num, hP3⟩
        case measure => simp [intOf]; omega
      · go_wp2_with fail
        refine (ps_close hP (K k)).mono ?_; rintro e w3 ⟨rfl, hP3, _⟩
        generalize clG R W (K k) = o at *
        generalize clE R W (K k) = o' at *
        generalize clR R (K k) = R' at *
        generalize clW W (K k) = W' at *
        clear x0 x1 x2
        go_wp2
        go_roundw
        case rel => exact ⟨k + 1, L, R', W', by omega, by go_num, hP3⟩
        case measure => simp [intOf]; omega
    · go_wp2
      all_goals (go_ret; exact ⟨rfl, (hG0.next hP.g).below⟩)
end Go.Proofs
