/- PipeDoes. -/
import Derived.Test.YtdonlpldbdooaaaDoorFb
import Derived.Test.YtdonlpldbdooaaaDoorFd
import Derived.Deep.DeepCutAuto
import Derived.Deep.CutBlock
set_option linter.unusedVariables false
set_option linter.unusedSimpArgs false
namespace Go.Proofs
open Go.RowKit Go.Shelf
attribute [local go_sem] Oper.semAt_some
variable {aW aB : Addr}

theorem room_q (b : Nat) {sz : Nat} {L : List UInt8} (w : World) (h : Ring w b sz L) : Calls Tryd.prog 32 #[.pointer (some ⟨b, 0, none⟩)] w fun e w' => e = .returned (.int .i64 ((sz - L.length : Nat) : Int)) ∧ ∃ m, w' = w.drewN m := by
  obtain ⟨hs, f, h1, hb⟩ := h
  have c64 := (Blk.cell hb 64).trans (rc_sz h1.len)
  have c66 := (Blk.cell hb 66).trans (rc_n h1.len)
  have hn := h1.hn
  have s2 := h1.s2
  have e1 : ((sz - L.length : Nat) : Int) = (sz : Int) - L.length := by omega
  rw [e1]
  clear e1
  go_enter Tryd.func32, Tryd.ntmps32
  go_wp2
  go_quiet (fail)
  go_wp2
  go_ret
  exact ⟨rfl, _, rfl⟩
theorem PS.drewN {w0 w : World} {b rb : Nat} {L : List UInt8} {R W : Int} (h : PS w0 w aW aB b rb L R W) (m : Nat) : PS w0 (w.drewN m) aW aB b rb L R W := h.same ((Gr.refl _ _).drewN m)
theorem canW_q {w0 w : World} {b rb : Nat} {L : List UInt8} {R W : Int} (h : PS w0 w aW aB b rb L R W) : Calls Tryd.prog 18 #[.pointer (some ⟨b, 0, none⟩)] w fun e w' => e = .returned (.bool (canW L R)) ∧ ∃ m, w' = w.drewN m := by
  have c0 := h.p.pb.c0
  have hL := h.p.rg.le
  have hp := room_q rb w h.p.rg
  rcases (show L.length < 32 ∨ (L.length = 32 ∧ R = 0) ∨ (L.length = 32 ∧ R ≠ 0) by omega) with hl | ⟨hl, rfl⟩ | ⟨hl, hw⟩
  · have e : canW L R = true := by unfold canW; simp [hl]
    have h0 : 0 < 32 - L.length := by omega
    rw [e]
    generalize 32 - L.length = z at *
    go_enter Tryd.func18, Tryd.ntmps18
    go_wp2_with fail
    refine hp.mono ?_; rintro e w1 ⟨rfl, m, rfl⟩
    go_wp2
    go_ret
    exact ⟨rfl, m, rfl⟩
  · have e : canW L 0 = true := by unfold canW; simp
    rw [e]
    rw [show ((32 - L.length : Nat) : Int) = 0 by omega] at hp
    go_enter Tryd.func18, Tryd.ntmps18
    go_wp2_with fail
    refine hp.mono ?_; rintro e w1 ⟨rfl, m, rfl⟩
    have c2 := (h.drewN m).p.pb.c2
    go_wp2
    go_ret
    exact ⟨rfl, m, rfl⟩
  · have e : canW L R = false := by unfold canW; simp [hl, hw]
    have hw' : (R == 0) = false := by simp; omega
    rw [e]
    rw [show ((32 - L.length : Nat) : Int) = 0 by omega] at hp
    go_enter Tryd.func18, Tryd.ntmps18
    go_wp2_with fail
    refine hp.mono ?_; rintro e w1 ⟨rfl, m, rfl⟩
    have c2 := (h.drewN m).p.pb.c2
    go_wp2
    go_ret
    exact ⟨rfl, m, rfl⟩
theorem PS.turn {w0 w w' : World} {b rb rp : Nat} {L : List UInt8} {R W : Int} (h : PS w0 w aW aB b rb L R W) (hG : Gr w w' (fun j => j = rp)) (h0 : w0.heap.size ≤ rp) (h1 : rp ≠ b) (h2 : rp ≠ rb) : PS w0 w' aW aB b rb L R W :=
  ⟨h.p.gr hG (fun e => h1 e.symm) (fun e => h2 e.symm), h.g.trans hG (fun j hj e => by omega), h.hb, h.hr, h.s0⟩
theorem RP.turn {w w' : World} {rp x : Nat} {L : List UInt8} {R W : Int} (h : RP w rp L R W) (hG : Gr w w' (fun j => j = x)) (hx : rp ≠ x) : RP w' rp L R W := hG.blk h hx

set_option maxRecDepth 100000 in
set_option maxHeartbeats 16000000 in
theorem pipeDoes_walk (A : Option Addr) (n cap : Nat) (D K N : Nat → Int) (S : Nat → ByteArray) (w : World) (hnc : n ≤ cap) (hcap : cap ≤ maxLen) (ha : Acts w A n D K N S) (hS : Sen w aW aB) :
    Calls Tryd.prog 7 #[.slice A n cap] w fun e w' => e = .returned (.bool true) ∧ Below w.heap.size w w' := by
  have hn := Nat.le_trans hnc hcap
  unfold maxLen at hn
  clear hnc hcap
  go_enter Tryd.func7, Tryd.ntmps7
  go_wp2_with fail
  refine (shown_any (aW := aW) (aB := aB) _ hS).mono ?_; rintro e w0 ⟨rfl, hG0⟩
  go_wp2_with fail
  refine (ps_new _ (hS.same hG0)).mono ?_; rintro e w1 ⟨b, rb, rfl, hP⟩
  have hz0 := hG0.size
  have hz1 := hP.g.size
  have hlt1 := hP.lt
  have hR0 : RP (w1.alloc (.cells #[.string ⟨([] : List UInt8).toArray⟩, .int .i64 1, .int .i64 1] 44)) w1.heap.size [] 1 1 := Blk.new _ _ _ _ rfl
  have hP0 := hP.same (Gr.a1 w1 (.cells #[.string ⟨([] : List UInt8).toArray⟩, .int .i64 1, .int .i64 1] 44))
  obtain ⟨rp, hrp⟩ : ∃ rp, w1.heap.size = rp := ⟨_, rfl⟩
  have hr1 : rp ≠ b := by omega
  have hr2 : rp ≠ rb := by omega
  have hr3 : w0.heap.size ≤ rp := by omega
  go_wp2
  rw [hrp] at hR0
  clear hrp
  go_loopw [6, 7, 8, 9, 10, 11, 12, 13, 14, 15, 16, 17, 18, 19, 20, 21, 22] (fun i _ _ _ _ _ _ _ _ _ _ _ _ _ _ _ _ wr => ∃ (k : Nat) (L : List UInt8) (R W : Int), k ≤ n ∧ i = .int .i64 k ∧ PS w0 wr aW aB b rb L R W ∧ RP wr rp L R W) (fun i _ _ _ _ _ _ _ _ _ _ _ _ _ _ _ _ _ => n - (intOf i).toNat)
  case atStart => exact ⟨0, [], 1, 1, by omega, rfl, hP0, hR0⟩
  case round =>
    clear hP hP0 hR0 hlt1 hz1
    obtain ⟨k, L, R, W, hk, rfl, hP, hR⟩ := hrel
    obtain ⟨hlb, hlr, hle⟩ := hP.lt
    have hlp := hR.lt
    by_cases hlt : k < n ∧ k < 150
    · obtain ⟨hlt, hlt2⟩ := hlt
      obtain ⟨g, off, rfl, hg, hc⟩ := ha (by omega)
      obtain ⟨d0, d1, d2, d3, ds⟩ := hc k hlt
      have hGa : Same w wr := hG0.next hP.g
      have x0 := (hGa.cell (p := ⟨g, off + k * 4 + 0, none⟩) hg (fun f => f)).trans d0
      have x1 := (hGa.cell (p := ⟨g, off + k * 4 + 1, none⟩) hg (fun f => f)).trans d1
      have x2 := (hGa.cell (p := ⟨g, off + k * 4 + 2, none⟩) hg (fun f => f)).trans d2
      have x3 := (hGa.cell (p := ⟨g, off + k * 4 + 3, none⟩) hg (fun f => f)).trans d3
      have hza := hGa.size
      clear d0 d1 d2 d3 hc ha hGa
      simp only [Nat.add_zero] at x0
      have hP1 := hP.same (Gr.a1 wr (.cells #[.int .i64 (D k), .int .i64 (K k), .int .i64 (N k), .string (S k)] 28))
      have hR1 : RP (wr.alloc (.cells #[.int .i64 (D k), .int .i64 (K k), .int .i64 (N k), .string (S k)] 28)) rp L R W := Blk.alloc hR _
      have hX : Blk (wr.alloc (.cells #[.int .i64 (D k), .int .i64 (K k), .int .i64 (N k), .string (S k)] 28)) wr.heap.size 28 #[.int .i64 (D k), .int .i64 (K k), .int .i64 (N k), .string (S k)] := Blk.new _ _ _ _ rfl
      have E1 := Lib.hid ((hX.cell 1).trans (rfl : _ = some (Value.int .i64 (K k))))
      have E2 := Lib.hid ((hX.cell 2).trans (rfl : _ = some (Value.int .i64 (N k))))
      have E3 := Lib.hid ((hX.cell 3).trans (rfl : _ = some (Value.string (S k))))
      clear hP hR
      go_upto_block 2 with fail
      go_cut [7, 8, 9, 10, 11, 12, 13, 14, 15, 16, 17, 18, 19, 20, 44, 45, 70, 97, 108] (fun _ s8 _ _ _ _ _ _ _ _ _ _ _ _ _ _ _ _ _ wx => s8 = .bool true ∧ ∃ (L : List UInt8) (R W : Int), PS w0 wx aW aB b rb L R W ∧ RP wx rp L R W)
      case first =>
        rcases six_cases (D k) with h6 | h6 | h6 | h6 | h6 | h6
        all_goals unfold six at h6
        · as_aux_lemma =>
            go_wp2_with fail
            refine (ps_read hP1 (N k)).mono ?_; rintro e w2 ⟨rfl, hP2, hG2⟩
            have y1 := (hG2.cell (p := ⟨wr.heap.size, 2, none⟩) (by simp [World.size_alloc]) (fun e => by dsimp only at e; omega)).trans E2.out
            have hR2 := hR1.turn hG2 hr2
            go_wp2_with fail
            refine (rread_any rp L R W (N k) w2 hR2 hle hP2.p.hw).mono ?_; rintro e w3 ⟨rfl, hR3, hG3⟩
            have hP3 := hP2.turn hG3 hr3 hr1 hr2
            generalize rdS L W (N k) = o at *
            generalize rdE L W (N k) = o' at *
            generalize rdL L W (N k) = L' at *
            clear y1 hP1 hR1 hP2 hR2 hG2 hG3 hX x0 x1 x2 x3
            go_wp2_with fail
            go_meet
            exact ⟨rfl, L', R, W, hP3, hR3⟩
        · as_aux_lemma =>
            go_wp2_with fail
            refine (ps_read hP1 (N k)).mono ?_; rintro e w2 ⟨rfl, hP2, hG2⟩
            have y1 := (hG2.cell (p := ⟨wr.heap.size, 2, none⟩) (by simp [World.size_alloc]) (fun e => by dsimp only at e; omega)).trans E2.out
            have hR2 := hR1.turn hG2 hr2
            go_wp2_with fail
            refine (rread_any rp L R W (N k) w2 hR2 hle hP2.p.hw).mono ?_; rintro e w3 ⟨rfl, hR3, hG3⟩
            have hP3 := hP2.turn hG3 hr3 hr1 hr2
            generalize rdS L W (N k) = o at *
            generalize rdE L W (N k) = o' at *
            generalize rdL L W (N k) = L' at *
            clear y1 hP1 hR1 hP2 hR2 hG2 hG3 hX x0 x1 x2 x3
            go_wp2_with fail
            go_meet
            exact ⟨rfl, L', R, W, hP3, hR3⟩
        · as_aux_lemma =>
            go_wp2_with fail
            refine (text_tx (S k) ds _).mono ?_; rintro e w2' ⟨rfl, rfl⟩
            have ct := text_tx (S k) ds
            have hT1 := tx_size (S k)
            generalize tx (S k) = T at hT1 ct ⊢
            have CT := Lib.hid ct
            clear ct
            go_wp2_with fail
            refine (ps_write hP1 T (by unfold maxLen; omega)).mono ?_; rintro e w2 ⟨rfl, hP2, hG2⟩
            have y1 := (hG2.cell (p := ⟨wr.heap.size, 3, none⟩) (by simp [World.size_alloc]) (fun e => by dsimp only at e; omega)).trans E3.out
            have hR2 := hR1.turn hG2 hr2
            go_wp2_with fail
            refine (CT.out _).mono ?_; rintro e w2' ⟨rfl, rfl⟩
            go_wp2_with fail
            refine (rwrite_any rp L R W T w2 hR2 hle hP2.p.hr hT1).mono ?_; rintro e w3 ⟨rfl, hR3, hG3⟩
            have hP3 := hP2.turn hG3 hr3 hr1 hr2
            generalize wrN L R T.data.toList = o at *
            generalize wrE L R T.data.toList = o' at *
            generalize wrL L R T.data.toList = L' at *
            clear y1 hP1 hR1 hP2 hR2 hG2 hG3 hX x0 x1 x2 x3
            go_wp2_with fail
            go_meet
            exact ⟨rfl, L', R, W, hP3, hR3⟩
        · as_aux_lemma =>
            go_wp2_with fail
            refine (text_tx (S k) ds _).mono ?_; rintro e w2' ⟨rfl, rfl⟩
            have ct := text_tx (S k) ds
            have hT1 := tx_size (S k)
            generalize tx (S k) = T at hT1 ct ⊢
            have CT := Lib.hid ct
            clear ct
            go_wp2_with fail
            refine (ps_write hP1 T (by unfold maxLen; omega)).mono ?_; rintro e w2 ⟨rfl, hP2, hG2⟩
            have y1 := (hG2.cell (p := ⟨wr.heap.size, 3, none⟩) (by simp [World.size_alloc]) (fun e => by dsimp only at e; omega)).trans E3.out
            have hR2 := hR1.turn hG2 hr2
            go_wp2_with fail
            refine (CT.out _).mono ?_; rintro e w2' ⟨rfl, rfl⟩
            go_wp2_with fail
            refine (rwrite_any rp L R W T w2 hR2 hle hP2.p.hr hT1).mono ?_; rintro e w3 ⟨rfl, hR3, hG3⟩
            have hP3 := hP2.turn hG3 hr3 hr1 hr2
            generalize wrN L R T.data.toList = o at *
            generalize wrE L R T.data.toList = o' at *
            generalize wrL L R T.data.toList = L' at *
            clear y1 hP1 hR1 hP2 hR2 hG2 hG3 hX x0 x1 x2 x3
            go_wp2_with fail
            go_meet
            exact ⟨rfl, L', R, W, hP3, hR3⟩
        · as_aux_lemma =>
            go_wp2_with fail
            have e1 := E1.out
            have hsz : wr.heap.size < (wr.alloc (.cells #[.int .i64 (D k), .int .i64 (K k), .int .i64 (N k), .string (S k)] 28)).heap.size := by simp
            generalize wr.alloc (.cells #[.int .i64 (D k), .int .i64 (K k), .int .i64 (N k), .string (S k)] 28) = W1 at *
            have hP1d := hP1.same ((Gr.refl _ _).drew)
            have hR1d : RP W1.drew rp L R W := Blk.drew hR1
            have hszd : wr.heap.size < W1.drew.heap.size := hsz
            go_region_held3 (fun W => W.cell? ⟨wr.heap.size, 1, none⟩ = some (.int .i64 (K k))) (first | exact e1 | assumption) (first | (go_at_call 19; refine (ps_open (by first | exact cP | exact hP1d) (K k)).mono ?_; rintro e wA ⟨rfl, hPA, hGA⟩; have aX := (hGA.cell (p := ⟨wr.heap.size, 1, none⟩) (by first | exact cz | exact hszd) (fun h => by dsimp only at h; omega)).trans (by first | exact cX | exact e1); have aR := RP.turn (by first | exact hRC | exact hR1d) hGA hr1; have az := Nat.lt_of_lt_of_le (by first | exact cz | exact hszd) hGA.size) | (go_at_call 22; refine (ropen_any rp L R W (K k) _ (by first | exact aR | exact hR1d) hP1.p.hr hP1.p.hw).mono ?_; rintro e wC ⟨rfl, hRC, hGC⟩; have cX := (hGC.cell (p := ⟨wr.heap.size, 1, none⟩) (by first | exact az | exact hszd) (fun h => by dsimp only at h; omega)).trans (by first | exact aX | exact e1); have cP := PS.turn (by first | exact hPA | exact hP1d) hGC hr3 hr1 hr2; have cz := Nat.lt_of_lt_of_le (by first | exact az | exact hszd) hGC.size))
            all_goals
              generalize opE R W (K k) = o at *
              generalize opR R (K k) = R' at *
              generalize opW W (K k) = W' at *
              go_wp2_with fail
              go_meet
              exact ⟨rfl, L, R', W', by first | exact hPA | exact cP, by first | exact hRC | exact aR⟩
        · as_aux_lemma =>
            go_wp2_with fail
            refine (ps_close hP1 (K k)).mono ?_; rintro e w2 ⟨rfl, hP2, hG2⟩
            have y1 := (hG2.cell (p := ⟨wr.heap.size, 1, none⟩) (by simp [World.size_alloc]) (fun e => by dsimp only at e; omega)).trans E1.out
            have hR2 := hR1.turn hG2 hr1
            go_wp2_with fail
            refine (rclose_any rp L R W (K k) w2 hR2 hP1.p.hr hP1.p.hw).mono ?_; rintro e w3 ⟨rfl, hR3, hG3⟩
            have hP3 := hP2.turn hG3 hr3 hr1 hr2
            generalize clG R W (K k) = o at *
            generalize clE R W (K k) = o' at *
            generalize clR R (K k) = R' at *
            generalize clW W (K k) = W' at *
            clear y1 hP1 hR1 hP2 hR2 hG2 hG3 hX x0 x1 x2 x3
            go_wp2_with fail
            go_meet
            exact ⟨rfl, L, R', W', hP3, hR3⟩
      case rest =>
        obtain ⟨rfl, L', R', W', hP3, hR3⟩ := hcut
        clear hP1 hR1 hX x0 x1 x2 x3
        go_wp2_with fail
        refine (ps_ends hP3).mono ?_; rintro e w4 ⟨rfl, hP4, hG4⟩
        have hR4 : RP w4 rp L' R' W' := hG4.blk hR3 (fun f => f)
        have q0 := hR4.c0
        have q1 := hR4.c1
        have q2 := hR4.c2
        have YP := Lib.hid hP4
        have YR := Lib.hid hR4
        have hle4 := hP4.lt.2.2
        clear hP3 hR3 hG4 hP4 hR4
        rcases (show 0 < L'.length ∨ (L'.length = 0 ∧ W' = 0) ∨ (L'.length = 0 ∧ W' ≠ 0) by omega) with hl | ⟨hl, rfl⟩ | ⟨hl, hw⟩
        · have hcr : canR L' W' = true := by unfold canR; simp [hl]
          have hl' : (0 : Int) < L'.length := by omega
          rcases (show R' = 0 ∨ (R' ≠ 0 ∧ (L'.length : Int) < 32) ∨ (R' ≠ 0 ∧ L'.length = 32) by omega) with rfl | ⟨hr, hl2⟩ | ⟨hr, hl2⟩
          · have hcw : canW L' 0 = true := by unfold canW; simp
            have HC : ∀ m, Calls Tryd.prog 17 #[.pointer (some ⟨b, 0, none⟩)] (w4.drewN m) fun e w' => e = .returned (.bool true) ∧ w4.drewN m = w' := fun m => by have := ps_canR (YP.out.drewN m); rwa [hcr] at this
            have HW : ∀ m, Calls Tryd.prog 18 #[.pointer (some ⟨b, 0, none⟩)] (w4.drewN m) fun e w' => e = .returned (.bool true) ∧ ∃ n, w' = (w4.drewN m).drewN n := fun m => by have := canW_q (YP.out.drewN m); rwa [hcw] at this
            clear hcr hcw
            as_aux_lemma =>
              go_wp2
              go_quiet ((first | (go_at_call 16; exact Calls.quiet_of_same ((ps_len (YP.out.drewN _)).mono (fun _ _ h => ⟨h.1, h.2.symm⟩))) | (go_at_call 17; exact Calls.quiet_of_same ((HC _).mono (fun _ _ h => ⟨h.1, h.2.symm⟩))) | (go_at_call 18; exact Calls.quiet_of (HW _))))
              clear HC HW q0 q1 q2
              go_wp2
              go_roundw
              case rel => exact ⟨k + 1, L', 0, W', by omega, by go_num, YP.out.drewN _, YR.out⟩
              case measure => simp [intOf]; omega
          · have hcw : canW L' R' = true := by unfold canW; simp; omega
            have hr' : (R' == 0) = false := by simp; omega
            have HC : ∀ m, Calls Tryd.prog 17 #[.pointer (some ⟨b, 0, none⟩)] (w4.drewN m) fun e w' => e = .returned (.bool true) ∧ w4.drewN m = w' := fun m => by have := ps_canR (YP.out.drewN m); rwa [hcr] at this
            have HW : ∀ m, Calls Tryd.prog 18 #[.pointer (some ⟨b, 0, none⟩)] (w4.drewN m) fun e w' => e = .returned (.bool true) ∧ ∃ n, w' = (w4.drewN m).drewN n := fun m => by have := canW_q (YP.out.drewN m); rwa [hcw] at this
            clear hcr hcw
            as_aux_lemma =>
              go_wp2
              go_quiet ((first | (go_at_call 16; exact Calls.quiet_of_same ((ps_len (YP.out.drewN _)).mono (fun _ _ h => ⟨h.1, h.2.symm⟩))) | (go_at_call 17; exact Calls.quiet_of_same ((HC _).mono (fun _ _ h => ⟨h.1, h.2.symm⟩))) | (go_at_call 18; exact Calls.quiet_of (HW _))))
              clear HC HW q0 q1 q2
              go_wp2
              go_roundw
              case rel => exact ⟨k + 1, L', R', W', by omega, by go_num, YP.out.drewN _, YR.out⟩
              case measure => simp [intOf]; omega
          · have hcw : canW L' R' = false := by unfold canW; simp [hr, hl2]
            have hr' : (R' == 0) = false := by simp; omega
            have hl3 : decide ((L'.length : Int) < 32) = false := by simp; omega
            clear hl2 hr
            have HC : ∀ m, Calls Tryd.prog 17 #[.pointer (some ⟨b, 0, none⟩)] (w4.drewN m) fun e w' => e = .returned (.bool true) ∧ w4.drewN m = w' := fun m => by have := ps_canR (YP.out.drewN m); rwa [hcr] at this
            have HW : ∀ m, Calls Tryd.prog 18 #[.pointer (some ⟨b, 0, none⟩)] (w4.drewN m) fun e w' => e = .returned (.bool false) ∧ ∃ n, w' = (w4.drewN m).drewN n := fun m => by have := canW_q (YP.out.drewN m); rwa [hcw] at this
            clear hcr hcw
            as_aux_lemma =>
              go_wp2
              go_quiet ((first | (go_at_call 16; exact Calls.quiet_of_same ((ps_len (YP.out.drewN _)).mono (fun _ _ h => ⟨h.1, h.2.symm⟩))) | (go_at_call 17; exact Calls.quiet_of_same ((HC _).mono (fun _ _ h => ⟨h.1, h.2.symm⟩))) | (go_at_call 18; exact Calls.quiet_of (HW _))))
              clear HC HW q0 q1 q2
              go_wp2
              go_roundw
              case rel => exact ⟨k + 1, L', R', W', by omega, by go_num, YP.out.drewN _, YR.out⟩
              case measure => simp [intOf]; omega
        · obtain rfl : L' = [] := List.eq_nil_of_length_eq_zero hl
          have hcr : canR [] 0 = true := rfl
          clear hl hle4
          rcases (show R' = 0 ∨ R' ≠ 0 by omega) with rfl | hr
          · have hcw : canW [] 0 = true := rfl
            have HC : ∀ m, Calls Tryd.prog 17 #[.pointer (some ⟨b, 0, none⟩)] (w4.drewN m) fun e w' => e = .returned (.bool true) ∧ w4.drewN m = w' := fun m => by have := ps_canR (YP.out.drewN m); rwa [hcr] at this
            have HW : ∀ m, Calls Tryd.prog 18 #[.pointer (some ⟨b, 0, none⟩)] (w4.drewN m) fun e w' => e = .returned (.bool true) ∧ ∃ n, w' = (w4.drewN m).drewN n := fun m => by have := canW_q (YP.out.drewN m); rwa [hcw] at this
            clear hcr hcw
            as_aux_lemma =>
              go_wp2
              go_quiet ((first | (go_at_call 16; exact Calls.quiet_of_same ((ps_len (YP.out.drewN _)).mono (fun _ _ h => ⟨h.1, h.2.symm⟩))) | (go_at_call 17; exact Calls.quiet_of_same ((HC _).mono (fun _ _ h => ⟨h.1, h.2.symm⟩))) | (go_at_call 18; exact Calls.quiet_of (HW _))))
              clear HC HW q0 q1 q2
              go_wp2
              go_roundw
              case rel => exact ⟨k + 1, [], 0, 0, by omega, by go_num, YP.out.drewN _, YR.out⟩
              case measure => simp [intOf]; omega
          · have hcw : canW [] R' = true := rfl
            have hr' : (R' == 0) = false := by simp; omega
            have HC : ∀ m, Calls Tryd.prog 17 #[.pointer (some ⟨b, 0, none⟩)] (w4.drewN m) fun e w' => e = .returned (.bool true) ∧ w4.drewN m = w' := fun m => by have := ps_canR (YP.out.drewN m); rwa [hcr] at this
            have HW : ∀ m, Calls Tryd.prog 18 #[.pointer (some ⟨b, 0, none⟩)] (w4.drewN m) fun e w' => e = .returned (.bool true) ∧ ∃ n, w' = (w4.drewN m).drewN n := fun m => by have := canW_q (YP.out.drewN m); rwa [hcw] at this
            clear hcr hcw
            as_aux_lemma =>
              go_wp2
              go_quiet ((first | (go_at_call 16; exact Calls.quiet_of_same ((ps_len (YP.out.drewN _)).mono (fun _ _ h => ⟨h.1, h.2.symm⟩))) | (go_at_call 17; exact Calls.quiet_of_same ((HC _).mono (fun _ _ h => ⟨h.1, h.2.symm⟩))) | (go_at_call 18; exact Calls.quiet_of (HW _))))
              clear HC HW q0 q1 q2
              go_wp2
              go_roundw
              case rel => exact ⟨k + 1, [], R', 0, by omega, by go_num, YP.out.drewN _, YR.out⟩
              case measure => simp [intOf]; omega
        · obtain rfl : L' = [] := List.eq_nil_of_length_eq_zero hl
          have hcr : canR [] W' = false := by unfold canR; simp [hw]
          have hw' : (W' == 0) = false := by simp; omega
          clear hl hle4 hw
          rcases (show R' = 0 ∨ R' ≠ 0 by omega) with rfl | hr
          · have hcw : canW [] 0 = true := rfl
            have HC : ∀ m, Calls Tryd.prog 17 #[.pointer (some ⟨b, 0, none⟩)] (w4.drewN m) fun e w' => e = .returned (.bool false) ∧ w4.drewN m = w' := fun m => by have := ps_canR (YP.out.drewN m); rwa [hcr] at this
            have HW : ∀ m, Calls Tryd.prog 18 #[.pointer (some ⟨b, 0, none⟩)] (w4.drewN m) fun e w' => e = .returned (.bool true) ∧ ∃ n, w' = (w4.drewN m).drewN n := fun m => by have := canW_q (YP.out.drewN m); rwa [hcw] at this
            clear hcr hcw
            as_aux_lemma =>
              go_wp2
              go_quiet ((first | (go_at_call 16; exact Calls.quiet_of_same ((ps_len (YP.out.drewN _)).mono (fun _ _ h => ⟨h.1, h.2.symm⟩))) | (go_at_call 17; exact Calls.quiet_of_same ((HC _).mono (fun _ _ h => ⟨h.1, h.2.symm⟩))) | (go_at_call 18; exact Calls.quiet_of (HW _))))
              clear HC HW q0 q1 q2
              go_wp2
              go_roundw
              case rel => exact ⟨k + 1, [], 0, W', by omega, by go_num, YP.out.drewN _, YR.out⟩
              case measure => simp [intOf]; omega
          · have hcw : canW [] R' = true := rfl
            have hr' : (R' == 0) = false := by simp; omega
            have HC : ∀ m, Calls Tryd.prog 17 #[.pointer (some ⟨b, 0, none⟩)] (w4.drewN m) fun e w' => e = .returned (.bool false) ∧ w4.drewN m = w' := fun m => by have := ps_canR (YP.out.drewN m); rwa [hcr] at this
            have HW : ∀ m, Calls Tryd.prog 18 #[.pointer (some ⟨b, 0, none⟩)] (w4.drewN m) fun e w' => e = .returned (.bool true) ∧ ∃ n, w' = (w4.drewN m).drewN n := fun m => by have := canW_q (YP.out.drewN m); rwa [hcw] at this
            clear hcr hcw
            as_aux_lemma =>
              go_wp2
              go_quiet ((first | (go_at_call 16; exact Calls.quiet_of_same ((ps_len (YP.out.drewN _)).mono (fun _ _ h => ⟨h.1, h.2.symm⟩))) | (go_at_call 17; exact Calls.quiet_of_same ((HC _).mono (fun _ _ h => ⟨h.1, h.2.symm⟩))) | (go_at_call 18; exact Calls.quiet_of (HW _))))
              clear HC HW q0 q1 q2
              go_wp2
              go_roundw
              case rel => exact ⟨k + 1, [], R', W', by omega, by go_num, YP.out.drewN _, YR.out⟩
              case measure => simp [intOf]; omega
    · go_wp2
      all_goals (go_ret; exact ⟨rfl, (hG0.next hP.g).below⟩)
end Go.Proofs
