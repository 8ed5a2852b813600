/- IpcRefuses. -/
import Derived.Test.YthijminlalddcaaDoorHJ
import Derived.Deep.RegionHeld3
import Derived.Deep.DeepCutAuto
import Derived.Deep.CutBlock
import Derived.Deep.QuietTactic
import Derived.BigQuiet
set_option linter.unusedVariables false
set_option linter.unusedSimpArgs false
namespace Go.Proofs
open Go.RowKit Go.Shelf
attribute [local go_sem] Oper.semAt_some

set_option maxRecDepth 100000 in
set_option maxHeartbeats 16000000 in
theorem ipcRefuses_walk (A : Option Addr) (n cap : Nat) (q : Nat → AcT) (w : World) (hnc : n ≤ cap) (hmx : cap ≤ maxLen) (ha : Acts w A n q) (hw : ∀ i, i < n → (q i).wf) (he : EtH w) :
    Calls Tryd.prog 7 #[.slice A n cap] w fun e w' => e = .returned (.bool true) ∧ Below w.heap.size w w' := by
  have hn : n ≤ maxLen := Nat.le_trans hnc hmx
  unfold maxLen at hn
  obtain ⟨i0, hi, hz0, hz1, hz2⟩ := info_parts info3
  obtain ⟨iP, hiP, hP0, hP1, hP2⟩ := info_parts infoP
  go_enter Tryd.func7, Tryd.ntmps7
  go_wp2_with fail
  refine (shown_any _ he).mono ?_; rintro e w1 ⟨rfl, hG1⟩
  go_wp2_with fail
  refine (nnew_anyI _ (he.same hG1 (fun f => f))).mono ?_; rintro e w2 ⟨n0, h0, rfl, X2⟩
  have hz1' := hG1.size
  have hhh := X2.hh
  go_wp2
  go_loopw [5, 6, 7, 8, 9, 10, 11, 12, 13, 14, 15, 16, 17, 18, 19, 20, 76, 94, 108, 126] (fun i _ _ _ _ _ _ _ _ _ _ _ _ _ _ _ _ _ _ _ wr => ∃ (k : Nat) (S : St Int), k ≤ n ∧ i = .int .i64 k ∧ NSI w1 wr n0 h0 S) (fun i _ _ _ _ _ _ _ _ _ _ _ _ _ _ _ _ _ _ _ _ => n - (intOf i).toNat)
  case atStart => exact ⟨0, _, by omega, rfl, X2⟩
  case round =>
    obtain ⟨k, S, hk, rfl, x⟩ := hrel
    obtain ⟨w5, rfl⟩ : ∃ w5, w5 = wr := ⟨_, rfl⟩
    by_cases hlt : k < n ∧ k < 80
    · obtain ⟨hlt, hlt2⟩ := hlt
      obtain ⟨g, off, rfl, hg, hc⟩ := ha (by omega)
      obtain ⟨d0, d1, d2, d3, d4, d5, d6, d7, d8, d9, d10, d11⟩ := hc k hlt
      have hg1 : g < w1.heap.size := by omega
      have e0 := (hG1.cell (p := ⟨g, off + k * 12, none⟩) hg (fun f => f)).trans d0
      have e1 := (hG1.cell (p := ⟨g, off + k * 12 + 1, none⟩) hg (fun f => f)).trans d1
      have e2 := (hG1.cell (p := ⟨g, off + k * 12 + 2, none⟩) hg (fun f => f)).trans d2
      have e3 := (hG1.cell (p := ⟨g, off + k * 12 + 3, none⟩) hg (fun f => f)).trans d3
      have e4 := (hG1.cell (p := ⟨g, off + k * 12 + 4, none⟩) hg (fun f => f)).trans d4
      have e5 := (hG1.cell (p := ⟨g, off + k * 12 + 5, none⟩) hg (fun f => f)).trans d5
      have e6 := (hG1.cell (p := ⟨g, off + k * 12 + 6, none⟩) hg (fun f => f)).trans d6
      have e7 := (hG1.cell (p := ⟨g, off + k * 12 + 7, none⟩) hg (fun f => f)).trans d7
      have e8 := (hG1.cell (p := ⟨g, off + k * 12 + 8, none⟩) hg (fun f => f)).trans d8
      have e9 := (hG1.cell (p := ⟨g, off + k * 12 + 9, none⟩) hg (fun f => f)).trans d9
      have e10 := (hG1.cell (p := ⟨g, off + k * 12 + 10, none⟩) hg (fun f => f)).trans d10
      have e11 := (hG1.cell (p := ⟨g, off + k * 12 + 11, none⟩) hg (fun f => f)).trans d11
      have cx0 := (x.g.cell (p := ⟨g, off + k * 12, none⟩) hg1 (fun f => f)).trans e0
      have cx1 := (x.g.cell (p := ⟨g, off + k * 12 + 1, none⟩) hg1 (fun f => f)).trans e1
      have cx2 := (x.g.cell (p := ⟨g, off + k * 12 + 2, none⟩) hg1 (fun f => f)).trans e2
      have cx3 := (x.g.cell (p := ⟨g, off + k * 12 + 3, none⟩) hg1 (fun f => f)).trans e3
      have cx4 := (x.g.cell (p := ⟨g, off + k * 12 + 4, none⟩) hg1 (fun f => f)).trans e4
      have cx5 := (x.g.cell (p := ⟨g, off + k * 12 + 5, none⟩) hg1 (fun f => f)).trans e5
      have cx6 := (x.g.cell (p := ⟨g, off + k * 12 + 6, none⟩) hg1 (fun f => f)).trans e6
      have cx7 := (x.g.cell (p := ⟨g, off + k * 12 + 7, none⟩) hg1 (fun f => f)).trans e7
      have cx8 := (x.g.cell (p := ⟨g, off + k * 12 + 8, none⟩) hg1 (fun f => f)).trans e8
      have cx9 := (x.g.cell (p := ⟨g, off + k * 12 + 9, none⟩) hg1 (fun f => f)).trans e9
      have cx10 := (x.g.cell (p := ⟨g, off + k * 12 + 10, none⟩) hg1 (fun f => f)).trans e10
      have cx11 := (x.g.cell (p := ⟨g, off + k * 12 + 11, none⟩) hg1 (fun f => f)).trans e11
      have hwk := (hw k hlt).fl
      clear d0 e0 d1 e1 d2 e2 d3 e3 d4 e4 d5 e5 d6 e6 d7 e7 d8 e8 d9 e9 d10 e10 d11 e11 hc ha hw X2
      have hlw := x.lt
      have hbx : Blk (w5.alloc (.cells #[.int .i64 (q k).d, .int .i64 (q k).cu, .int .i64 (q k).cg, .int .i64 (q k).key, .bool (q k).pl, .int .i64 (q k).fl, .int .i64 (q k).v, .int .i64 (q k).p0, .int .i64 (q k).p1, .int .i64 (q k).p2, .int .i64 (q k).p3, .int .i64 (q k).p4] 44)) w5.heap.size 44 #[.int .i64 (q k).d, .int .i64 (q k).cu, .int .i64 (q k).cg, .int .i64 (q k).key, .bool (q k).pl, .int .i64 (q k).fl, .int .i64 (q k).v, .int .i64 (q k).p0, .int .i64 (q k).p1, .int .i64 (q k).p2, .int .i64 (q k).p3, .int .i64 (q k).p4] := Blk.new _ _ _ _ rfl
      have xa := x.same (Gr.a1 w5 (.cells #[.int .i64 (q k).d, .int .i64 (q k).cu, .int .i64 (q k).cg, .int .i64 (q k).key, .bool (q k).pl, .int .i64 (q k).fl, .int .i64 (q k).v, .int .i64 (q k).p0, .int .i64 (q k).p1, .int .i64 (q k).p2, .int .i64 (q k).p3, .int .i64 (q k).p4] 44))
      obtain ⟨m, hm⟩ : ∃ m, S.ids.length = m := ⟨_, rfl⟩
      have hm8 : m ≤ 8 := by rw [← hm]; exact ids8 S
      have HM := Lib.hid hm
      clear hm
      go_wp2_with fail
      refine (nids_m xa m HM.out).mono ?_; rintro e w6 ⟨A7, c7, rfl, hr7, x7, hG7⟩
      have hb7 := hG7.blk hbx (fun f => f)
      have hzb := hb7.lt
      have hh7 := x7.lt
      have hlo : w5.heap.size < (w5.alloc (.cells #[.int .i64 (q k).d, .int .i64 (q k).cu, .int .i64 (q k).cg, .int .i64 (q k).key, .bool (q k).pl, .int .i64 (q k).fl, .int .i64 (q k).v, .int .i64 (q k).p0, .int .i64 (q k).p1, .int .i64 (q k).p2, .int .i64 (q k).p3, .int .i64 (q k).p4] 44)).heap.size := by simp
      clear hbx xa cx0 cx1 cx2 cx3 cx4 cx5 cx6 cx7 cx8 cx9 cx10 cx11
      go_wp2
      go_loopw [8, 9, 10, 11, 12, 13, 14] (fun t p i _ _ _ _ wq => ∃ j : Nat, j ≤ m ∧ i = .int .i64 j ∧ wq.ownsRow w6.heap.size 3 1 t j (Ints ((S.ids.take j).map (tvI S))) ∧ wq.ownsRow w6.heap.size 42 5 p j (PermsL ((S.ids.take j).map (pt S))) ∧ Same w6 wq) (fun _ _ i _ _ _ _ _ => m - (intOf i).toNat)
      case atStart => exact ⟨0, by omega, rfl, World.ownsRow_nil _ _ _ _, World.ownsRow_nil _ _ _ _, Gr.refl _ _⟩
      case round =>
        obtain ⟨j, hj, rfl, hrt, hrp, hGq⟩ := hrel
        obtain ⟨wq, rfl⟩ : ∃ wq, wq = wr := ⟨_, rfl⟩
        have xq := x7.same hGq
        by_cases hjm : j < m
        · obtain ⟨g7, off7, cur7, rfl, _, hb7q, hc7q⟩ := (hr7.same hGq) (by rw [HM.out]; omega)
          have c7a := (hb7q.cell (off7 + j)).trans (hc7q j (by rw [HM.out]; exact hjm))
          have hst := take_getD S.ids j (by rw [HM.out]; exact hjm)
          generalize S.ids[j]?.getD 0 = id at *
          have HST := Lib.hid hst
          clear hst hc7q
          go_wp2_with fail
          refine (tfind_at xq id).mono ?_; rintro e w8 ⟨rfl, x8, hG8⟩
          have c7b := ((hG8.blk hb7q (fun f => f)).cell (off7 + j)).trans ((hb7q.cell (off7 + j)).symm.trans c7a)
          go_wp2_with fail
          refine (tperm_at x8 id).mono ?_; rintro e w9 ⟨rfl, x9, hG9⟩
          have hG89 := hG8.next hG9
          have hrt9 := own_same hrt hG89
          have hrp9 := own_same hrp hG89
          have hz9 := hG89.size
          have hzq := hGq.size
          clear hG8 hG9 x8 c7a c7b hb7q xq
          have hbp := Blk.new w9 42 #[.int .i64 (pt S id).u, .int .i64 (pt S id).g, .int .i64 (pt S id).cu, .int .i64 (pt S id).cg, .int .i64 (pt S id).m] _ rfl
          have hrtA := hrt9.alloc (.cells #[.int .i64 (pt S id).u, .int .i64 (pt S id).g, .int .i64 (pt S id).cu, .int .i64 (pt S id).cg, .int .i64 (pt S id).m] 42)
          have hrpA := hrp9.alloc (.cells #[.int .i64 (pt S id).u, .int .i64 (pt S id).g, .int .i64 (pt S id).cu, .int .i64 (pt S id).cg, .int .i64 (pt S id).m] 42)
          have hzA : (w9.alloc (.cells #[.int .i64 (pt S id).u, .int .i64 (pt S id).g, .int .i64 (pt S id).cu, .int .i64 (pt S id).cg, .int .i64 (pt S id).m] 42)).heap.size = w9.heap.size + 1 := by simp
          have hltT := hrt9.lt
          go_wp2_with first
            | (at_builtin; refine wpList_append_own _ rfl _ _ 48 rfl w6.heap.size 3 i0 (.int .i64 0) 1 8 Tryd.underlying48 hi hz0 hz1 hz2 rfl (by decide) _ _ _ rfl (hrtA.alloc _) ⟨w9.heap.size + 1, 0, none⟩ 1 1 [.int .i64 (tvI S id)] rfl rfl (cells_at _ _ hzA [.int .i64 (tvI S id)] _) (by simp [Value.oneCell']) (by unfold maxLen; omega) (by omega) (by simp; omega) ?_; intro vt wt hownt hgrowt _; have hbt := (hbp.alloc _).grown hgrowt (fun e => by have := (hltT _ e.symm).2; omega); have pc0 := hbt.cell 0; have pc1 := hbt.cell 1; have pc2 := hbt.cell 2; have pc3 := hbt.cell 3; have pc4 := hbt.cell 4; simp at pc0 pc1 pc2 pc3 pc4; have hrpt := (hrpA.alloc _).kept hgrowt (own_ne hrpA hrtA (by decide)); have hzt := hgrowt.size; rw [World.size_alloc, hzA] at hzt)
            | (at_builtin; refine wpList_append_own _ rfl _ _ 53 rfl w6.heap.size 42 iP (.agg #[.int .i64 0, .int .i64 0, .int .i64 0, .int .i64 0, .int .i64 0]) 5 40 Tryd.underlying53 hiP hP0 hP1 hP2 rfl (by decide) _ _ _ rfl (hrpt.alloc _) ⟨wt.heap.size, 0, none⟩ 1 1 (permCells (pt S id)) rfl rfl (cells_at _ _ rfl (permCells (pt S id)) _) (by simp [permCells, Value.oneCell']) (by unfold maxLen; omega) (by omega) (by simp; omega) ?_; intro vp wp hownp hgrowp _)
          have hkt := (hownt.alloc (.cells (permCells (pt S id)).toArray 42)).kept hgrowp (own_ne hownt hrpt (by decide))
          have hGt : Same w6 wt := (((hGq.next hG89).alloc _).alloc _).trans (Gr.of_grownBy (X := fun i => w6.heap.size ≤ i) hgrowt (fun i ei => .inl (hltT i ei).1)) (fun i hi h => by omega)
          have hGp : Same w6 wp := (hGt.alloc _).trans (Gr.of_grownBy (X := fun i => w6.heap.size ≤ i) hgrowp (fun i ei => .inl (hrpt.lt i ei).1)) (fun i hi h => by omega)
          go_roundw
          case rel =>
            refine ⟨j + 1, by omega, by go_num, ?_, ?_, hGp⟩
            · rw [HST.out, List.map_append]; simpa [Ints] using hkt
            · rw [HST.out, List.map_append, List.map_cons, List.map_nil, permsL_snoc]; exact hownp
          case measure => simp [intOf]; omega
        · obtain rfl : m = j := by omega
          rw [List.take_of_length_le (by rw [HM.out]; omega)] at hrt hrp
          obtain ⟨A8, c8, rfl, hr8⟩ := own_ints (by rw [List.length_map, HM.out]) hrt
          obtain ⟨A9, c9, rfl, hr9⟩ := own_perms (by rw [List.length_map, HM.out]) hrp
          have hr7q := hr7.same hGq
          have hbq := hGq.blk hb7 (fun f => f)
          have xq := x7.same hGq
          have hzq := hGq.size
          have hi8 : m ≤ 1000000 := by omega
          have y0 : wq.cell? ⟨w5.heap.size, 0, none⟩ = some (.int .i64 (q k).d) := hbq.cell 0
          have y1 : wq.cell? ⟨w5.heap.size, 1, none⟩ = some (.int .i64 (q k).cu) := hbq.cell 1
          have y2 : wq.cell? ⟨w5.heap.size, 2, none⟩ = some (.int .i64 (q k).cg) := hbq.cell 2
          have y3 : wq.cell? ⟨w5.heap.size, 3, none⟩ = some (.int .i64 (q k).key) := hbq.cell 3
          have y4 : wq.cell? ⟨w5.heap.size, 4, none⟩ = some (.bool (q k).pl) := hbq.cell 4
          have y5 : wq.cell? ⟨w5.heap.size, 5, none⟩ = some (.int .i64 (q k).fl) := hbq.cell 5
          have y6 : wq.cell? ⟨w5.heap.size, 6, none⟩ = some (.int .i64 (q k).v) := hbq.cell 6
          have y7 : wq.cell? ⟨w5.heap.size, 7, none⟩ = some (.int .i64 (q k).p0) := hbq.cell 7
          have y8 : wq.cell? ⟨w5.heap.size, 8, none⟩ = some (.int .i64 (q k).p1) := hbq.cell 8
          have y9 : wq.cell? ⟨w5.heap.size, 9, none⟩ = some (.int .i64 (q k).p2) := hbq.cell 9
          have y10 : wq.cell? ⟨w5.heap.size, 10, none⟩ = some (.int .i64 (q k).p3) := hbq.cell 10
          have y11 : wq.cell? ⟨w5.heap.size, 11, none⟩ = some (.int .i64 (q k).p4) := hbq.cell 11
          clear hrt hrp hr7 hb7 x7 hGq hbq
          go_upto_block 4 with fail
          go_cut [15, 75, 76, 94, 108, 126] (fun s15 _ _ _ _ _ wx => ∃ (E : Int) (S' : St Int), s15 = .int .i64 E ∧ NSI w1 wx n0 h0 S' ∧ (E ≠ 0 → S' = S) ∧ Gr wq wx (fun i => i = h0))
          case first =>
            rcases eight_cases (q k).d with h8 | h8 | h8 | h8 | h8 | h8 | h8 | h8
            all_goals unfold eight at h8
            · obtain ⟨a1, m1, e1, S1, hq1⟩ : ∃ a1 m1 e1 S1, gt S (q k).cu (q k).cg (q k).key (q k).fl (q k).v = ((a1, m1, e1), S1) := ⟨_, _, _, _, rfl⟩
              have HQ := Lib.hid hq1
              clear hq1
              go_wp2_with fail
              refine (nget_eqI xq (q k).cu (q k).cg (q k).key (q k).fl (q k).v hwk a1 m1 e1 S1 HQ.out).mono ?_; rintro e w8 ⟨rfl, x8, hG8⟩
              clear y0 y1 y2 y3 y4 y5 y6 y7 y8 y9 y10 y11
              go_wp2_with fail
              go_meet
              exact ⟨e1, S1, rfl, x8, fun h => by have h2 := gt_refused (S := S) (q k).cu (q k).cg (q k).key (q k).fl (q k).v (by rw [HQ.out]; exact h); rw [HQ.out] at h2; exact h2, hG8⟩
            · obtain ⟨a1, m1, e1, S1, hq1⟩ : ∃ a1 m1 e1 S1, gt S (q k).cu (q k).cg (q k).key (q k).fl (q k).v = ((a1, m1, e1), S1) := ⟨_, _, _, _, rfl⟩
              have HQ := Lib.hid hq1
              clear hq1
              go_wp2_with fail
              refine (nget_eqI xq (q k).cu (q k).cg (q k).key (q k).fl (q k).v hwk a1 m1 e1 S1 HQ.out).mono ?_; rintro e w8 ⟨rfl, x8, hG8⟩
              clear y0 y1 y2 y3 y4 y5 y6 y7 y8 y9 y10 y11
              go_wp2_with fail
              go_meet
              exact ⟨e1, S1, rfl, x8, fun h => by have h2 := gt_refused (S := S) (q k).cu (q k).cg (q k).key (q k).fl (q k).v (by rw [HQ.out]; exact h); rw [HQ.out] at h2; exact h2, hG8⟩
            · obtain ⟨a1, m1, e1, S1, hq1⟩ : ∃ a1 m1 e1 S1, gt S (q k).cu (q k).cg (q k).key (q k).fl (q k).v = ((a1, m1, e1), S1) := ⟨_, _, _, _, rfl⟩
              have HQ := Lib.hid hq1
              clear hq1
              go_wp2_with fail
              refine (nget_eqI xq (q k).cu (q k).cg (q k).key (q k).fl (q k).v hwk a1 m1 e1 S1 HQ.out).mono ?_; rintro e w8 ⟨rfl, x8, hG8⟩
              clear y0 y1 y2 y3 y4 y5 y6 y7 y8 y9 y10 y11
              go_wp2_with fail
              go_meet
              exact ⟨e1, S1, rfl, x8, fun h => by have h2 := gt_refused (S := S) (q k).cu (q k).cg (q k).key (q k).fl (q k).v (by rw [HQ.out]; exact h); rw [HQ.out] at h2; exact h2, hG8⟩
            · have yx : NSI w1 wq.drew n0 h0 S := xq.same (Gr.refl _ _).drew
              have hr7d : RdB wq.drew _ A7 S.ids := hr7q
              have yz : w5.heap.size < wq.drew.heap.size := by show _ < wq.heap.size; omega
              go_wp2_with fail
              go_region_held3 (fun W => W.cell? ⟨w5.heap.size, 0, none⟩ = some (.int .i64 (q k).d) ∧ W.cell? ⟨w5.heap.size, 1, none⟩ = some (.int .i64 (q k).cu) ∧ W.cell? ⟨w5.heap.size, 2, none⟩ = some (.int .i64 (q k).cg) ∧ W.cell? ⟨w5.heap.size, 3, none⟩ = some (.int .i64 (q k).key) ∧ W.cell? ⟨w5.heap.size, 4, none⟩ = some (.bool (q k).pl) ∧ W.cell? ⟨w5.heap.size, 5, none⟩ = some (.int .i64 (q k).fl) ∧ W.cell? ⟨w5.heap.size, 6, none⟩ = some (.int .i64 (q k).v) ∧ W.cell? ⟨w5.heap.size, 7, none⟩ = some (.int .i64 (q k).p0) ∧ W.cell? ⟨w5.heap.size, 8, none⟩ = some (.int .i64 (q k).p1) ∧ W.cell? ⟨w5.heap.size, 9, none⟩ = some (.int .i64 (q k).p2) ∧ W.cell? ⟨w5.heap.size, 10, none⟩ = some (.int .i64 (q k).p3) ∧ W.cell? ⟨w5.heap.size, 11, none⟩ = some (.int .i64 (q k).p4) ∧ w5.heap.size < W.heap.size)
                (first | ((repeat' (with_reducible apply And.intro)) <;> assumption))
                (first | (go_at_call 18; refine (number_any _ _ _ S.ids HM.out _ (q k) _ hr7d (by rw [HM.out]; exact hi8)).mono ?_; rintro e w7 ⟨rfl, hG7⟩; have z0 := (hG7.cell (p := ⟨w5.heap.size, 0, none⟩) yz (fun f => f)).trans y0; have z1 := (hG7.cell (p := ⟨w5.heap.size, 1, none⟩) yz (fun f => f)).trans y1; have z2 := (hG7.cell (p := ⟨w5.heap.size, 2, none⟩) yz (fun f => f)).trans y2; have z3 := (hG7.cell (p := ⟨w5.heap.size, 3, none⟩) yz (fun f => f)).trans y3; have z4 := (hG7.cell (p := ⟨w5.heap.size, 4, none⟩) yz (fun f => f)).trans y4; have z5 := (hG7.cell (p := ⟨w5.heap.size, 5, none⟩) yz (fun f => f)).trans y5; have z6 := (hG7.cell (p := ⟨w5.heap.size, 6, none⟩) yz (fun f => f)).trans y6; have z7 := (hG7.cell (p := ⟨w5.heap.size, 7, none⟩) yz (fun f => f)).trans y7; have z8 := (hG7.cell (p := ⟨w5.heap.size, 8, none⟩) yz (fun f => f)).trans y8; have z9 := (hG7.cell (p := ⟨w5.heap.size, 9, none⟩) yz (fun f => f)).trans y9; have z10 := (hG7.cell (p := ⟨w5.heap.size, 10, none⟩) yz (fun f => f)).trans y10; have z11 := (hG7.cell (p := ⟨w5.heap.size, 11, none⟩) yz (fun f => f)).trans y11; have zx := yx.same hG7; have zz := Nat.lt_of_lt_of_le yz hG7.size) | (go_at_call 16; refine (nFind_fI zx (numI S.ids (q k).key (q k).pl) (q k).cu (q k).cg (q k).fl).mono ?_; rintro e w8 ⟨rfl, x8, hG8⟩; have u0 := (hG8.cell (p := ⟨w5.heap.size, 0, none⟩) zz (fun f => f)).trans z0; have u1 := (hG8.cell (p := ⟨w5.heap.size, 1, none⟩) zz (fun f => f)).trans z1; have u2 := (hG8.cell (p := ⟨w5.heap.size, 2, none⟩) zz (fun f => f)).trans z2; have u3 := (hG8.cell (p := ⟨w5.heap.size, 3, none⟩) zz (fun f => f)).trans z3; have u4 := (hG8.cell (p := ⟨w5.heap.size, 4, none⟩) zz (fun f => f)).trans z4; have u5 := (hG8.cell (p := ⟨w5.heap.size, 5, none⟩) zz (fun f => f)).trans z5; have u6 := (hG8.cell (p := ⟨w5.heap.size, 6, none⟩) zz (fun f => f)).trans z6; have u7 := (hG8.cell (p := ⟨w5.heap.size, 7, none⟩) zz (fun f => f)).trans z7; have u8 := (hG8.cell (p := ⟨w5.heap.size, 8, none⟩) zz (fun f => f)).trans z8; have u9 := (hG8.cell (p := ⟨w5.heap.size, 9, none⟩) zz (fun f => f)).trans z9; have u10 := (hG8.cell (p := ⟨w5.heap.size, 10, none⟩) zz (fun f => f)).trans z10; have u11 := (hG8.cell (p := ⟨w5.heap.size, 11, none⟩) zz (fun f => f)).trans z11; have uz := Nat.lt_of_lt_of_le zz hG8.size))
              clear y0 z0 u0 y1 z1 u1 y2 z2 u2 y3 z3 u3 y4 z4 u4 y5 z5 u5 y6 z6 u6 y7 z7 u7 y8 z8 u8 y9 z9 u9 y10 z10 u10 y11 z11 u11
              go_wp2_with fail
              go_meet
              exact ⟨_, S, rfl, x8, fun _ => rfl, (((Gr.refl wq (fun _ => False)).drew.next hG7).next hG8).no⟩
            · go_wp2_with fail
              go_meet
              exact ⟨0, S, rfl, xq, fun h => absurd rfl h, Gr.refl _ _⟩
            · have yx : NSI w1 wq.drew n0 h0 S := xq.same (Gr.refl _ _).drew
              have hr7d : RdB wq.drew _ A7 S.ids := hr7q
              have yz : w5.heap.size < wq.drew.heap.size := by show _ < wq.heap.size; omega
              go_wp2_with fail
              go_region_held3 (fun W => W.cell? ⟨w5.heap.size, 0, none⟩ = some (.int .i64 (q k).d) ∧ W.cell? ⟨w5.heap.size, 1, none⟩ = some (.int .i64 (q k).cu) ∧ W.cell? ⟨w5.heap.size, 2, none⟩ = some (.int .i64 (q k).cg) ∧ W.cell? ⟨w5.heap.size, 3, none⟩ = some (.int .i64 (q k).key) ∧ W.cell? ⟨w5.heap.size, 4, none⟩ = some (.bool (q k).pl) ∧ W.cell? ⟨w5.heap.size, 5, none⟩ = some (.int .i64 (q k).fl) ∧ W.cell? ⟨w5.heap.size, 6, none⟩ = some (.int .i64 (q k).v) ∧ W.cell? ⟨w5.heap.size, 7, none⟩ = some (.int .i64 (q k).p0) ∧ W.cell? ⟨w5.heap.size, 8, none⟩ = some (.int .i64 (q k).p1) ∧ W.cell? ⟨w5.heap.size, 9, none⟩ = some (.int .i64 (q k).p2) ∧ W.cell? ⟨w5.heap.size, 10, none⟩ = some (.int .i64 (q k).p3) ∧ W.cell? ⟨w5.heap.size, 11, none⟩ = some (.int .i64 (q k).p4) ∧ w5.heap.size < W.heap.size)
                (first | ((repeat' (with_reducible apply And.intro)) <;> assumption))
                (first | (go_at_call 18; refine (number_any _ _ _ S.ids HM.out _ (q k) _ hr7d (by rw [HM.out]; exact hi8)).mono ?_; rintro e w7 ⟨rfl, hG7⟩; have z0 := (hG7.cell (p := ⟨w5.heap.size, 0, none⟩) yz (fun f => f)).trans y0; have z1 := (hG7.cell (p := ⟨w5.heap.size, 1, none⟩) yz (fun f => f)).trans y1; have z2 := (hG7.cell (p := ⟨w5.heap.size, 2, none⟩) yz (fun f => f)).trans y2; have z3 := (hG7.cell (p := ⟨w5.heap.size, 3, none⟩) yz (fun f => f)).trans y3; have z4 := (hG7.cell (p := ⟨w5.heap.size, 4, none⟩) yz (fun f => f)).trans y4; have z5 := (hG7.cell (p := ⟨w5.heap.size, 5, none⟩) yz (fun f => f)).trans y5; have z6 := (hG7.cell (p := ⟨w5.heap.size, 6, none⟩) yz (fun f => f)).trans y6; have z7 := (hG7.cell (p := ⟨w5.heap.size, 7, none⟩) yz (fun f => f)).trans y7; have z8 := (hG7.cell (p := ⟨w5.heap.size, 8, none⟩) yz (fun f => f)).trans y8; have z9 := (hG7.cell (p := ⟨w5.heap.size, 9, none⟩) yz (fun f => f)).trans y9; have z10 := (hG7.cell (p := ⟨w5.heap.size, 10, none⟩) yz (fun f => f)).trans y10; have z11 := (hG7.cell (p := ⟨w5.heap.size, 11, none⟩) yz (fun f => f)).trans y11; have zx := yx.same hG7; have zz := Nat.lt_of_lt_of_le yz hG7.size) | (go_at_call 20; refine (nSet_f zx (numI S.ids (q k).key (q k).pl) (q k).cu (q k).cg (q k).p0 (q k).p1 (q k).p4).mono ?_; rintro e w8 ⟨rfl, x8, hG8⟩; have u0 := (hG8.cell (p := ⟨w5.heap.size, 0, none⟩) zz (fun h => by dsimp only at h; omega)).trans z0; have u1 := (hG8.cell (p := ⟨w5.heap.size, 1, none⟩) zz (fun h => by dsimp only at h; omega)).trans z1; have u2 := (hG8.cell (p := ⟨w5.heap.size, 2, none⟩) zz (fun h => by dsimp only at h; omega)).trans z2; have u3 := (hG8.cell (p := ⟨w5.heap.size, 3, none⟩) zz (fun h => by dsimp only at h; omega)).trans z3; have u4 := (hG8.cell (p := ⟨w5.heap.size, 4, none⟩) zz (fun h => by dsimp only at h; omega)).trans z4; have u5 := (hG8.cell (p := ⟨w5.heap.size, 5, none⟩) zz (fun h => by dsimp only at h; omega)).trans z5; have u6 := (hG8.cell (p := ⟨w5.heap.size, 6, none⟩) zz (fun h => by dsimp only at h; omega)).trans z6; have u7 := (hG8.cell (p := ⟨w5.heap.size, 7, none⟩) zz (fun h => by dsimp only at h; omega)).trans z7; have u8 := (hG8.cell (p := ⟨w5.heap.size, 8, none⟩) zz (fun h => by dsimp only at h; omega)).trans z8; have u9 := (hG8.cell (p := ⟨w5.heap.size, 9, none⟩) zz (fun h => by dsimp only at h; omega)).trans z9; have u10 := (hG8.cell (p := ⟨w5.heap.size, 10, none⟩) zz (fun h => by dsimp only at h; omega)).trans z10; have u11 := (hG8.cell (p := ⟨w5.heap.size, 11, none⟩) zz (fun h => by dsimp only at h; omega)).trans z11; have uz := Nat.lt_of_lt_of_le zz hG8.size))
              clear y0 z0 u0 y1 z1 u1 y2 z2 u2 y3 z3 u3 y4 z4 u4 y5 z5 u5 y6 z6 u6 y7 z7 u7 y8 z8 u8 y9 z9 u9 y10 z10 u10 y11 z11 u11
              go_wp2_with fail
              go_meet
              exact ⟨_, _, rfl, x8, fun h => if_neg h, ((Gr.refl wq (fun _ => False)).drew.next hG7).no.trans hG8 (fun i hi h => h)⟩
            · have yx : NSI w1 wq.drew n0 h0 S := xq.same (Gr.refl _ _).drew
              have hr7d : RdB wq.drew _ A7 S.ids := hr7q
              have yz : w5.heap.size < wq.drew.heap.size := by show _ < wq.heap.size; omega
              go_wp2_with fail
              go_region_held3 (fun W => W.cell? ⟨w5.heap.size, 0, none⟩ = some (.int .i64 (q k).d) ∧ W.cell? ⟨w5.heap.size, 1, none⟩ = some (.int .i64 (q k).cu) ∧ W.cell? ⟨w5.heap.size, 2, none⟩ = some (.int .i64 (q k).cg) ∧ W.cell? ⟨w5.heap.size, 3, none⟩ = some (.int .i64 (q k).key) ∧ W.cell? ⟨w5.heap.size, 4, none⟩ = some (.bool (q k).pl) ∧ W.cell? ⟨w5.heap.size, 5, none⟩ = some (.int .i64 (q k).fl) ∧ W.cell? ⟨w5.heap.size, 6, none⟩ = some (.int .i64 (q k).v) ∧ W.cell? ⟨w5.heap.size, 7, none⟩ = some (.int .i64 (q k).p0) ∧ W.cell? ⟨w5.heap.size, 8, none⟩ = some (.int .i64 (q k).p1) ∧ W.cell? ⟨w5.heap.size, 9, none⟩ = some (.int .i64 (q k).p2) ∧ W.cell? ⟨w5.heap.size, 10, none⟩ = some (.int .i64 (q k).p3) ∧ W.cell? ⟨w5.heap.size, 11, none⟩ = some (.int .i64 (q k).p4) ∧ w5.heap.size < W.heap.size)
                (first | ((repeat' (with_reducible apply And.intro)) <;> assumption))
                (first | (go_at_call 18; refine (number_any _ _ _ S.ids HM.out _ (q k) _ hr7d (by rw [HM.out]; exact hi8)).mono ?_; rintro e w7 ⟨rfl, hG7⟩; have z0 := (hG7.cell (p := ⟨w5.heap.size, 0, none⟩) yz (fun f => f)).trans y0; have z1 := (hG7.cell (p := ⟨w5.heap.size, 1, none⟩) yz (fun f => f)).trans y1; have z2 := (hG7.cell (p := ⟨w5.heap.size, 2, none⟩) yz (fun f => f)).trans y2; have z3 := (hG7.cell (p := ⟨w5.heap.size, 3, none⟩) yz (fun f => f)).trans y3; have z4 := (hG7.cell (p := ⟨w5.heap.size, 4, none⟩) yz (fun f => f)).trans y4; have z5 := (hG7.cell (p := ⟨w5.heap.size, 5, none⟩) yz (fun f => f)).trans y5; have z6 := (hG7.cell (p := ⟨w5.heap.size, 6, none⟩) yz (fun f => f)).trans y6; have z7 := (hG7.cell (p := ⟨w5.heap.size, 7, none⟩) yz (fun f => f)).trans y7; have z8 := (hG7.cell (p := ⟨w5.heap.size, 8, none⟩) yz (fun f => f)).trans y8; have z9 := (hG7.cell (p := ⟨w5.heap.size, 9, none⟩) yz (fun f => f)).trans y9; have z10 := (hG7.cell (p := ⟨w5.heap.size, 10, none⟩) yz (fun f => f)).trans y10; have z11 := (hG7.cell (p := ⟨w5.heap.size, 11, none⟩) yz (fun f => f)).trans y11; have zx := yx.same hG7; have zz := Nat.lt_of_lt_of_le yz hG7.size) | (go_at_call 17; refine (nRemove_fI zx (numI S.ids (q k).key (q k).pl) (q k).cu (q k).cg).mono ?_; rintro e w8 ⟨rfl, x8, hG8⟩; have u0 := (hG8.cell (p := ⟨w5.heap.size, 0, none⟩) zz (fun h => by dsimp only at h; omega)).trans z0; have u1 := (hG8.cell (p := ⟨w5.heap.size, 1, none⟩) zz (fun h => by dsimp only at h; omega)).trans z1; have u2 := (hG8.cell (p := ⟨w5.heap.size, 2, none⟩) zz (fun h => by dsimp only at h; omega)).trans z2; have u3 := (hG8.cell (p := ⟨w5.heap.size, 3, none⟩) zz (fun h => by dsimp only at h; omega)).trans z3; have u4 := (hG8.cell (p := ⟨w5.heap.size, 4, none⟩) zz (fun h => by dsimp only at h; omega)).trans z4; have u5 := (hG8.cell (p := ⟨w5.heap.size, 5, none⟩) zz (fun h => by dsimp only at h; omega)).trans z5; have u6 := (hG8.cell (p := ⟨w5.heap.size, 6, none⟩) zz (fun h => by dsimp only at h; omega)).trans z6; have u7 := (hG8.cell (p := ⟨w5.heap.size, 7, none⟩) zz (fun h => by dsimp only at h; omega)).trans z7; have u8 := (hG8.cell (p := ⟨w5.heap.size, 8, none⟩) zz (fun h => by dsimp only at h; omega)).trans z8; have u9 := (hG8.cell (p := ⟨w5.heap.size, 9, none⟩) zz (fun h => by dsimp only at h; omega)).trans z9; have u10 := (hG8.cell (p := ⟨w5.heap.size, 10, none⟩) zz (fun h => by dsimp only at h; omega)).trans z10; have u11 := (hG8.cell (p := ⟨w5.heap.size, 11, none⟩) zz (fun h => by dsimp only at h; omega)).trans z11; have uz := Nat.lt_of_lt_of_le zz hG8.size))
              clear y0 z0 u0 y1 z1 u1 y2 z2 u2 y3 z3 u3 y4 z4 u4 y5 z5 u5 y6 z6 u6 y7 z7 u7 y8 z8 u8 y9 z9 u9 y10 z10 u10 y11 z11 u11
              go_wp2_with fail
              go_meet
              exact ⟨_, _, rfl, x8, fun h => if_neg h, ((Gr.refl wq (fun _ => False)).drew.next hG7).no.trans hG8 (fun i hi h => h)⟩
            · have yx : NSI w1 wq.drew n0 h0 S := xq.same (Gr.refl _ _).drew
              have hr7d : RdB wq.drew _ A7 S.ids := hr7q
              have yz : w5.heap.size < wq.drew.heap.size := by show _ < wq.heap.size; omega
              go_wp2_with fail
              go_region_held3 (fun W => W.cell? ⟨w5.heap.size, 0, none⟩ = some (.int .i64 (q k).d) ∧ W.cell? ⟨w5.heap.size, 1, none⟩ = some (.int .i64 (q k).cu) ∧ W.cell? ⟨w5.heap.size, 2, none⟩ = some (.int .i64 (q k).cg) ∧ W.cell? ⟨w5.heap.size, 3, none⟩ = some (.int .i64 (q k).key) ∧ W.cell? ⟨w5.heap.size, 4, none⟩ = some (.bool (q k).pl) ∧ W.cell? ⟨w5.heap.size, 5, none⟩ = some (.int .i64 (q k).fl) ∧ W.cell? ⟨w5.heap.size, 6, none⟩ = some (.int .i64 (q k).v) ∧ W.cell? ⟨w5.heap.size, 7, none⟩ = some (.int .i64 (q k).p0) ∧ W.cell? ⟨w5.heap.size, 8, none⟩ = some (.int .i64 (q k).p1) ∧ W.cell? ⟨w5.heap.size, 9, none⟩ = some (.int .i64 (q k).p2) ∧ W.cell? ⟨w5.heap.size, 10, none⟩ = some (.int .i64 (q k).p3) ∧ W.cell? ⟨w5.heap.size, 11, none⟩ = some (.int .i64 (q k).p4) ∧ w5.heap.size < W.heap.size)
                (first | ((repeat' (with_reducible apply And.intro)) <;> assumption))
                (first | (go_at_call 18; refine (number_any _ _ _ S.ids HM.out _ (q k) _ hr7d (by rw [HM.out]; exact hi8)).mono ?_; rintro e w7 ⟨rfl, hG7⟩; have z0 := (hG7.cell (p := ⟨w5.heap.size, 0, none⟩) yz (fun f => f)).trans y0; have z1 := (hG7.cell (p := ⟨w5.heap.size, 1, none⟩) yz (fun f => f)).trans y1; have z2 := (hG7.cell (p := ⟨w5.heap.size, 2, none⟩) yz (fun f => f)).trans y2; have z3 := (hG7.cell (p := ⟨w5.heap.size, 3, none⟩) yz (fun f => f)).trans y3; have z4 := (hG7.cell (p := ⟨w5.heap.size, 4, none⟩) yz (fun f => f)).trans y4; have z5 := (hG7.cell (p := ⟨w5.heap.size, 5, none⟩) yz (fun f => f)).trans y5; have z6 := (hG7.cell (p := ⟨w5.heap.size, 6, none⟩) yz (fun f => f)).trans y6; have z7 := (hG7.cell (p := ⟨w5.heap.size, 7, none⟩) yz (fun f => f)).trans y7; have z8 := (hG7.cell (p := ⟨w5.heap.size, 8, none⟩) yz (fun f => f)).trans y8; have z9 := (hG7.cell (p := ⟨w5.heap.size, 9, none⟩) yz (fun f => f)).trans y9; have z10 := (hG7.cell (p := ⟨w5.heap.size, 10, none⟩) yz (fun f => f)).trans y10; have z11 := (hG7.cell (p := ⟨w5.heap.size, 11, none⟩) yz (fun f => f)).trans y11; have zx := yx.same hG7; have zz := Nat.lt_of_lt_of_le yz hG7.size) | (go_at_call 17; refine (nRemove_fI zx (numI S.ids (q k).key (q k).pl) (q k).cu (q k).cg).mono ?_; rintro e w8 ⟨rfl, x8, hG8⟩; have u0 := (hG8.cell (p := ⟨w5.heap.size, 0, none⟩) zz (fun h => by dsimp only at h; omega)).trans z0; have u1 := (hG8.cell (p := ⟨w5.heap.size, 1, none⟩) zz (fun h => by dsimp only at h; omega)).trans z1; have u2 := (hG8.cell (p := ⟨w5.heap.size, 2, none⟩) zz (fun h => by dsimp only at h; omega)).trans z2; have u3 := (hG8.cell (p := ⟨w5.heap.size, 3, none⟩) zz (fun h => by dsimp only at h; omega)).trans z3; have u4 := (hG8.cell (p := ⟨w5.heap.size, 4, none⟩) zz (fun h => by dsimp only at h; omega)).trans z4; have u5 := (hG8.cell (p := ⟨w5.heap.size, 5, none⟩) zz (fun h => by dsimp only at h; omega)).trans z5; have u6 := (hG8.cell (p := ⟨w5.heap.size, 6, none⟩) zz (fun h => by dsimp only at h; omega)).trans z6; have u7 := (hG8.cell (p := ⟨w5.heap.size, 7, none⟩) zz (fun h => by dsimp only at h; omega)).trans z7; have u8 := (hG8.cell (p := ⟨w5.heap.size, 8, none⟩) zz (fun h => by dsimp only at h; omega)).trans z8; have u9 := (hG8.cell (p := ⟨w5.heap.size, 9, none⟩) zz (fun h => by dsimp only at h; omega)).trans z9; have u10 := (hG8.cell (p := ⟨w5.heap.size, 10, none⟩) zz (fun h => by dsimp only at h; omega)).trans z10; have u11 := (hG8.cell (p := ⟨w5.heap.size, 11, none⟩) zz (fun h => by dsimp only at h; omega)).trans z11; have uz := Nat.lt_of_lt_of_le zz hG8.size))
              clear y0 z0 u0 y1 z1 u1 y2 z2 u2 y3 z3 u3 y4 z4 u4 y5 z5 u5 y6 z6 u6 y7 z7 u7 y8 z8 u8 y9 z9 u9 y10 z10 u10 y11 z11 u11
              go_wp2_with fail
              go_meet
              exact ⟨_, _, rfl, x8, fun h => if_neg h, ((Gr.refl wq (fun _ => False)).drew.next hG7).no.trans hG8 (fun i hi h => h)⟩
          case rest =>
            obtain ⟨E, S', rfl, xc, hES, hGc⟩ := hcut
            clear y0 y1 y2 y3 y4 y5 y6 y7 y8 y9 y10 y11
            by_cases hE : E = 0
            · subst hE
              clear hES
              go_wp2
              go_roundw
              case rel => exact ⟨k + 1, S', by omega, by go_num, xc⟩
              case measure => simp [intOf]; omega
            · obtain rfl := (hES hE).symm
              have hE' : (E == 0) = false := by simp [hE]
              have hr7c := hr7q.gr hGc (fun i hi => by omega)
              have hr8c := hr8.gr hGc (fun i hi => by omega)
              have hr9c := hr9.gr hGc (fun i hi => by omega)
              clear hES hE hr7q hr8 hr9 hGc xq
              go_wp2_with fail
              refine (nids_m xc m HM.out).mono ?_; rintro e w10 ⟨B7, d7, rfl, hr10, x10, hG10⟩
              have hr7e := hr7c.same hG10
              go_wp2_with fail
              refine (ints_m A7 B7 c7 d7 S.ids m HM.out _ _ _ hr7e hr10 hi8).mono ?_; rintro e w11 ⟨rfl, hG11⟩
              have hGz := hG10.next hG11
              have hr7f := hr7c.same hGz
              have hr8f := hr8c.same hGz
              have hr9f := hr9c.gr hGz (fun _ f => f.elim)
              have x11 := xc.same hGz
              clear hr7c hr8c hr9c hr7e hr10 x10 xc hGz hG10 hG11
              go_wp2
              go_loopw [16, 17, 18, 19, 20] (fun i _ _ _ _ wq2 => ∃ j : Nat, j ≤ m ∧ i = .int .i64 j ∧ Same w11 wq2) (fun i _ _ _ _ _ => m - (intOf i).toNat)
              case atStart => exact ⟨0, by omega, rfl, Gr.refl _ _⟩
              case round =>
                obtain ⟨j2, hj2, rfl, hGk⟩ := hrel
                have xk := x11.same hGk
                by_cases hjm2 : j2 < m
                · have hr7k := hr7f.same hGk
                  have hr8k := hr8f.same hGk
                  have hr9k := hr9f.gr hGk (fun _ f => f.elim)
                  have hl7 : j2 < S.ids.length := by rw [HM.out]; exact hjm2
                  obtain ⟨g7, off7, cur7, rfl, _, hb7k, hc7k⟩ := hr7k (by omega)
                  obtain ⟨g8, off8, cur8, rfl, _, hb8k, hc8k⟩ := hr8k (by rw [List.length_map]; omega)
                  obtain ⟨g9, off9, cur9, rfl, _, hb9k, hc9k⟩ := hr9k (by rw [List.length_map]; omega)
                  have f7 := hc7k j2 hl7
                  have f8 := hc8k j2 (by rw [List.length_map]; exact hl7)
                  have f9 := hc9k j2 (by rw [List.length_map]; exact hl7)
                  rw [map_getD (tvI S) S.ids j2 0 0 hl7] at f8
                  rw [map_getD (pt S) S.ids j2 0 zthI hl7] at f9
                  generalize S.ids[j2]?.getD 0 = id at *
                  clear hc7k hc8k hc9k hr7k hr8k hr9k hl7
                  have s7 := (hb7k.cell (off7 + j2)).trans f7
                  go_wp2_with fail
                  refine (tfind_at xk id).mono ?_; rintro e w12 ⟨rfl, x12, hG12⟩
                  have s7b := ((hG12.blk hb7k (fun f => f)).cell (off7 + j2)).trans f7
                  go_wp2_with fail
                  refine (tperm_at x12 id).mono ?_; rintro e w13 ⟨rfl, x13, hG13⟩
                  have hGm := (hG12.next hG13).alloc (.cells #[.int .i64 (pt S id).u, .int .i64 (pt S id).g, .int .i64 (pt S id).cu, .int .i64 (pt S id).cg, .int .i64 (pt S id).m] 42)
                  have s8 := ((hGm.blk hb8k (fun f => f)).cell (off8 + j2)).trans f8
                  have s90 : _ = some (Value.int .i64 (pt S id).u) := ((hGm.blk hb9k (fun f => f)).cell (off9 + j2 * 5 + 0)).trans (f9 0 (by omega))
                  have s91 : _ = some (Value.int .i64 (pt S id).g) := ((hGm.blk hb9k (fun f => f)).cell (off9 + j2 * 5 + 1)).trans (f9 1 (by omega))
                  have s92 : _ = some (Value.int .i64 (pt S id).cu) := ((hGm.blk hb9k (fun f => f)).cell (off9 + j2 * 5 + 2)).trans (f9 2 (by omega))
                  have s93 : _ = some (Value.int .i64 (pt S id).cg) := ((hGm.blk hb9k (fun f => f)).cell (off9 + j2 * 5 + 3)).trans (f9 3 (by omega))
                  have s94 : _ = some (Value.int .i64 (pt S id).m) := ((hGm.blk hb9k (fun f => f)).cell (off9 + j2 * 5 + 4)).trans (f9 4 (by omega))
                  have hbp2 := Blk.new w13 42 #[.int .i64 (pt S id).u, .int .i64 (pt S id).g, .int .i64 (pt S id).cu, .int .i64 (pt S id).cg, .int .i64 (pt S id).m] _ rfl
                  have sp0 : _ = some (Value.int .i64 (pt S id).u) := hbp2.cell 0
                  have sp1 : _ = some (Value.int .i64 (pt S id).g) := hbp2.cell 1
                  have sp2 : _ = some (Value.int .i64 (pt S id).cu) := hbp2.cell 2
                  have sp3 : _ = some (Value.int .i64 (pt S id).cg) := hbp2.cell 3
                  have sp4 : _ = some (Value.int .i64 (pt S id).m) := hbp2.cell 4
                  simp only [Nat.add_zero] at s90
                  have HG := Lib.hid (hGk.next hGm)
                  clear hbp2 hb7k hb8k hb9k f7 f8 f9 s7 s7b hG12 hG13 hGm x12 x13 xk hGk
                  go_wp2_with fail
                  go_quiet (fail)
                  go_wp2
                  go_roundw
                  case rel => exact ⟨j2 + 1, by omega, by go_num, HG.out⟩
                  case measure => simp [intOf]; omega
                · obtain rfl : m = j2 := by omega
                  go_wp2
                  go_roundw
                  case rel => exact ⟨k + 1, S, by omega, by go_num, xk⟩
                  case measure => simp [intOf]; omega
    · go_wp2
      all_goals (go_ret; exact ⟨rfl, (hG1.next x.g).below⟩)
end Go.Proofs
