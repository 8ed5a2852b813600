/- IpcDoes. -/
import Derived.Test.YthijminlalddcaaGreatDoorRH
import Derived.Deep.DeepCutAuto
import Derived.Deep.CutBlock
set_option linter.unusedVariables false
set_option linter.unusedSimpArgs false
namespace Go.Proofs
open Go.RowKit Go.Shelf
attribute [local go_sem] Oper.semAt_some

theorem ra_zero {w0 w : World} (h0 : w0.heap.size ≤ w.heap.size) (hG : Same w0 w) : RA w0 (w.alloc (.cells (refCells St.zeroI (fun _ => 0) (.slice none 0 0) (.slice none 0 0) (.slice none 0 0)) 34)) w.heap.size 0 St.zeroI :=
  ⟨fun _ => 0, [], [], [], _, _, _, ⟨Blk.new _ _ _ _ rfl, World.ownsRow_nil _ _ _ _, World.ownsRow_nil _ _ _ _, World.ownsRow_nil _ _ _ _, rfl, rfl, .inl rfl, fun i _ => ⟨Int.le_refl _, (by decide : (0 : Int) ≤ 4095)⟩, hG.alloc _, h0⟩,
    ⟨fun i _ hd => (by cases hd), fun i _ _ _ hd _ _ => (by cases hd)⟩, Nat.le_refl _⟩
set_option maxRecDepth 100000 in
set_option maxHeartbeats 16000000 in
theorem ipcDoes_walk (A : Option Addr) (n cap : Nat) (q : Nat → AcT) (w : World) (hnc : n ≤ cap) (hmx : cap ≤ maxLen) (ha : Acts w A n q) (hw : ∀ i, i < n → (q i).wf) (he : EtH w) :
    Calls Tryz.prog 3 #[.slice A n cap] w fun e w' => e = .returned (.bool true) ∧ Below w.heap.size w w' := by
  have hn : n ≤ maxLen := Nat.le_trans hnc hmx
  unfold maxLen at hn
  go_enter Tryz.func3, Tryz.ntmps3
  go_wp2_with fail
  refine (shown_any _ he).mono ?_; rintro e w1 ⟨rfl, hG1⟩
  go_wp2_with fail
  refine (nnew_anyI _ (he.same hG1 (fun f => f))).mono ?_; rintro e w2 ⟨n0, h0, rfl, X2⟩
  have hz1' := hG1.size
  have hz2 := X2.g.size
  obtain ⟨hnr, hhr⟩ := X2.lt
  have hh1 := X2.hh
  have Y2 := ra_zero hz2 X2.g
  have X3 := X2.same (Gr.a1 w2 (.cells (refCells St.zeroI (fun _ => 0) (.slice none 0 0) (.slice none 0 0) (.slice none 0 0)) 34))
  go_wp2
  go_loopw [6, 7, 8, 9, 10, 11, 12, 13, 14, 15, 16, 17] (fun i _ _ _ _ _ _ _ _ _ _ _ wr => ∃ (k : Nat) (S : St Int), k ≤ n ∧ k ≤ 150 ∧ i = .int .i64 k ∧ NSI w1 wr n0 h0 S ∧ RA w1 wr w2.heap.size k S) (fun i _ _ _ _ _ _ _ _ _ _ _ _ => n - (intOf i).toNat)
  case atStart => exact ⟨0, _, by omega, by omega, rfl, X3, Y2⟩
  case round =>
    obtain ⟨k, S0, hk, hk150, rfl, x, y⟩ := hrel
    obtain ⟨w5, rfl⟩ : ∃ w5, w5 = wr := ⟨_, rfl⟩
    by_cases hlt : k < n ∧ k < 150
    · obtain ⟨hlt, hlt2⟩ := hlt
      obtain ⟨g, off, rfl, hg, hc⟩ := ha (by omega)
      obtain ⟨d0, d1, d2, d3, d4, d5, d6, d7, d8, d9, d10, d11⟩ := hc k hlt
      have hg1 : g < w1.heap.size := by omega
      have e0 := (hG1.cell (p := ⟨g, off + k * 12, none⟩) hg (fun f => f)).trans d0
      have e1 := (hG1.cell (p := ⟨g, off + k * 12 + 1, none⟩) hg (fun f => f)).trans d1
      have e2 := (hG1.cell (p := ⟨g, off + k * 12 + 2, none⟩) hg (fun f => f)).trans d2
      have e3 := (hG1.cell (p := ⟨g, off + k * 12 + 3, none⟩) hg (fun f => f)).trans d3
      have e4 := (hG1.cell (p := ⟨g, off + k * 12 + 4, none⟩) hg (fun f => f)).trans d4
      have e5 := (hG1.cell (p := ⟨g, off + k * 12 + 5, none⟩) hg (fun f => f)).trans d5
      have e6 := (hG1.cell (p := ⟨g, off + k * 12 + 6, none⟩) hg (fun f => f)).trans d6
      have e7 := (hG1.cell (p := ⟨g, off + k * 12 + 7, none⟩) hg (fun f => f)).trans d7
      have e8 := (hG1.cell (p := ⟨g, off + k * 12 + 8, none⟩) hg (fun f => f)).trans d8
      have e9 := (hG1.cell (p := ⟨g, off + k * 12 + 9, none⟩) hg (fun f => f)).trans d9
      have e10 := (hG1.cell (p := ⟨g, off + k * 12 + 10, none⟩) hg (fun f => f)).trans d10
      have e11 := (hG1.cell (p := ⟨g, off + k * 12 + 11, none⟩) hg (fun f => f)).trans d11
      have cx0 := (x.g.cell (p := ⟨g, off + k * 12, none⟩) hg1 (fun f => f)).trans e0
      have cx1 := (x.g.cell (p := ⟨g, off + k * 12 + 1, none⟩) hg1 (fun f => f)).trans e1
      have cx2 := (x.g.cell (p := ⟨g, off + k * 12 + 2, none⟩) hg1 (fun f => f)).trans e2
      have cx3 := (x.g.cell (p := ⟨g, off + k * 12 + 3, none⟩) hg1 (fun f => f)).trans e3
      have cx4 := (x.g.cell (p := ⟨g, off + k * 12 + 4, none⟩) hg1 (fun f => f)).trans e4
      have cx5 := (x.g.cell (p := ⟨g, off + k * 12 + 5, none⟩) hg1 (fun f => f)).trans e5
      have cx6 := (x.g.cell (p := ⟨g, off + k * 12 + 6, none⟩) hg1 (fun f => f)).trans e6
      have cx7 := (x.g.cell (p := ⟨g, off + k * 12 + 7, none⟩) hg1 (fun f => f)).trans e7
      have cx8 := (x.g.cell (p := ⟨g, off + k * 12 + 8, none⟩) hg1 (fun f => f)).trans e8
      have cx9 := (x.g.cell (p := ⟨g, off + k * 12 + 9, none⟩) hg1 (fun f => f)).trans e9
      have cx10 := (x.g.cell (p := ⟨g, off + k * 12 + 10, none⟩) hg1 (fun f => f)).trans e10
      have cx11 := (x.g.cell (p := ⟨g, off + k * 12 + 11, none⟩) hg1 (fun f => f)).trans e11
      have hwk := hw k hlt
      clear hc e0 d0 e1 d1 e2 d2 e3 d3 e4 d4 e5 d5 e6 d6 e7 d7 e8 d8 e9 d9 e10 d10 e11 d11
      go_wp2_with fail
      refine (did_any x y (by omega) hnr hhr (q k) hwk).mono ?_; rintro e w3 ⟨rfl, S, x3, y3, hG3⟩
      clear cx0 cx1 cx2 cx3 cx4 cx5 cx6 cx7 cx8 cx9 cx10 cx11
      obtain ⟨m, hm⟩ : ∃ m, S.ids.length = m := ⟨_, rfl⟩
      have hm8 : m ≤ 8 := by rw [← hm]; exact ids8 S
      have HM := Lib.hid hm
      clear hm x y hG3
      go_wp2_with fail
      refine (rids_R y3 m HM.out).mono ?_; rintro e w4 ⟨A8, c8, rfl, hr8, hG4⟩
      have x4 := x3.same hG4
      have y4 := y3.same hG4
      have hl4 := y4.lt
      clear x3 y3
      go_wp2_with fail
      refine (nids_m x4 m HM.out).mono ?_; rintro e w6 ⟨B7, d7, rfl, hr7, x6, hG6⟩
      have hr8b := hr8.same hG6
      go_wp2_with fail
      refine (ints_m B7 A8 d7 c8 S.ids m HM.out _ _ _ hr7 hr8b (by omega)).mono ?_; rintro e w7 ⟨rfl, hG7⟩
      have hG67 := hG6.next hG7
      have x7 := x4.same hG67
      have y7 := y4.same hG67
      have hr9 := hr8.same hG67
      clear hr7 hr8 hr8b x4 x6 y4 hG4 hG6 hG7 hG67
      go_wp2
      go_loopw [9, 10, 11, 12, 13, 14, 15, 16, 17] (fun i _ _ _ _ _ _ _ _ wq => ∃ j : Nat, j ≤ m ∧ i = .int .i64 j ∧ Same w7 wq) (fun i _ _ _ _ _ _ _ _ _ => m - (intOf i).toNat)
      case atStart => exact ⟨0, by omega, rfl, Gr.refl _ _⟩
      case round =>
        obtain ⟨j, hj, rfl, hGq⟩ := hrel
        obtain ⟨wq, rfl⟩ : ∃ wq, wq = wr := ⟨_, rfl⟩
        have xq := x7.same hGq
        have yq := y7.same hGq
        by_cases hjm : j < m
        · have hrq := hr9.same hGq
          obtain ⟨g8, off8, cur8, rfl, _, hb8, hc8⟩ := hrq (by rw [HM.out]; omega)
          have f8 := hc8 j (by rw [HM.out]; exact hjm)
          generalize S.ids[j]?.getD 0 = id at *
          have s8 := (hb8.cell (off8 + j)).trans f8
          clear hc8 hr9
          go_wp2_with fail
          refine (tfind_at xq id).mono ?_; rintro e wa ⟨rfl, xa, hGa⟩
          have ya := yq.same hGa
          have s8 := ((hGa.blk hb8 (fun f => f)).cell (off8 + j)).trans f8
          go_wp2_with fail
          refine (rnFindR ya (by omega) 0 0 id 0).mono ?_; rintro e wb ⟨rfl, yb, hGb⟩
          have hGab := hGa.next hGb
          have xb := xa.same hGb
          have s8 := ((hGab.blk hb8 (fun f => f)).cell (off8 + j)).trans f8
          have ev : fdVI (S.getT id zthI) (S.getE id) 0 0 0 = tvI S id := rfl
          have ee : fdEI (S.getT id zthI) (S.getE id) 0 0 0 = teI S id := rfl
          rw [ev, ee]
          clear ev ee
          go_wp2_with fail
          refine (tperm_at xb id).mono ?_; rintro e wc ⟨rfl, xc, hGc⟩
          have hbp := Blk.new wc 39 #[.int .i64 (pt S id).u, .int .i64 (pt S id).g, .int .i64 (pt S id).cu, .int .i64 (pt S id).cg, .int .i64 (pt S id).m] _ rfl
          have yc := (yb.same hGc).same (Gr.a1 wc (.cells #[.int .i64 (pt S id).u, .int .i64 (pt S id).g, .int .i64 (pt S id).cu, .int .i64 (pt S id).cg, .int .i64 (pt S id).m] 39))
          have hGac := (hGab.next hGc).alloc (.cells #[.int .i64 (pt S id).u, .int .i64 (pt S id).g, .int .i64 (pt S id).cu, .int .i64 (pt S id).cg, .int .i64 (pt S id).m] 39)
          have s8 := ((hGac.blk hb8 (fun f => f)).cell (off8 + j)).trans f8
          go_wp2_with fail
          refine (rnPermR yc (by omega) id).mono ?_; rintro e wd ⟨rfl, yd, hGd⟩
          have hGe := hGd.alloc (.cells #[.int .i64 (pt S id).u, .int .i64 (pt S id).g, .int .i64 (pt S id).cu, .int .i64 (pt S id).cg, .int .i64 (pt S id).m] 39)
          have hbq := Blk.new wd 39 #[.int .i64 (pt S id).u, .int .i64 (pt S id).g, .int .i64 (pt S id).cu, .int .i64 (pt S id).cg, .int .i64 (pt S id).m] _ rfl
          have hbp2 := hGe.blk hbp (fun f => f)
          have sp0 : _ = some (Value.int .i64 (pt S id).u) := hbp2.cell 0
          have sq0 : _ = some (Value.int .i64 (pt S id).u) := hbq.cell 0
          have sp1 : _ = some (Value.int .i64 (pt S id).g) := hbp2.cell 1
          have sq1 : _ = some (Value.int .i64 (pt S id).g) := hbq.cell 1
          have sp2 : _ = some (Value.int .i64 (pt S id).cu) := hbp2.cell 2
          have sq2 : _ = some (Value.int .i64 (pt S id).cu) := hbq.cell 2
          have sp3 : _ = some (Value.int .i64 (pt S id).cg) := hbp2.cell 3
          have sq3 : _ = some (Value.int .i64 (pt S id).cg) := hbq.cell 3
          have sp4 : _ = some (Value.int .i64 (pt S id).m) := hbp2.cell 4
          have sq4 : _ = some (Value.int .i64 (pt S id).m) := hbq.cell 4
          have hl1 := (hGd.blk hbp (fun f => f)).lt
          have hGall := (hGac.next hGe)
          have HG := Lib.hid (hGq.next hGall)
          clear hbp hbq hbp2 hb8 f8 s8 hGa hGab hGb hGc hGac hGd hGe hGall xa xb xc ya yb yc yd xq yq hGq
          go_wp2
          go_roundw
          case rel => exact ⟨j + 1, by omega, by go_num, HG.out⟩
          case measure => simp [intOf]; omega
        · obtain rfl : m = j := by omega
          go_wp2
          go_roundw
          case rel => exact ⟨k + 1, S, by omega, by omega, by go_num, xq, yq⟩
          case measure => simp [intOf]; omega
    · go_wp2
      all_goals (go_ret; exact ⟨rfl, (hG1.next x.g).below⟩)
end Go.Proofs
