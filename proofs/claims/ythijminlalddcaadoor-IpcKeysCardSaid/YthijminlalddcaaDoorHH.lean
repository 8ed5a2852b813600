/- IpcKeys. -/
import Derived.Test.YthijminlalddcaaDoorHF
import Derived.Test.YthijminlalddcaaDoorSR
import Derived.Deep.RegionHeld3
set_option linter.unusedVariables false
set_option linter.unusedSimpArgs false
namespace Go.Proofs
open Go.RowKit Go.Shelf
attribute [local go_sem] Oper.semAt_some

theorem nids_at {w0 w : World} {n h : Nat} {S : St Int} (x : NSI w0 w n h S) :
    Calls Tryd.prog 19 #[.pointer (some ⟨n, 0, none⟩)] w fun e w' => ∃ A c, e = .returned (.slice A S.ids.length c) ∧ RdB w' w.heap.size A S.ids ∧ NSI w0 w' n h S ∧ Same w w' :=
  (nIds_f x).mono fun e w' ⟨v, he, hr, hx, hG⟩ => by
    obtain ⟨A, c, rfl, h⟩ := own_slice hr
    exact ⟨A, c, he, h, hx, hG⟩
def four (d : Int) : Int := (IntKind.u64.wrap d).tmod 4
theorem four_cases (d : Int) : four d = 0 ∨ four d = 1 ∨ four d = 2 ∨ four d = 3 := by
  have e : IntKind.u64.wrap d = d % 18446744073709551616 := by go_num
  unfold four
  rw [e, Int.tmod_eq_emod_of_nonneg (by omega)]
  omega
set_option maxRecDepth 100000 in
set_option maxHeartbeats 8000000 in
theorem ipcKeys_walk (A : Option Addr) (n cap : Nat) (q : Nat → AcT) (cu cg key : Int) (w : World) (hnc : n ≤ cap) (hmx : cap ≤ maxLen) (ha : Acts w A n q) (hw : ∀ i, i < n → (q i).wf) (he : EtH w) :
    Calls Tryd.prog 5 #[.slice A n cap, .agg #[.int .i64 cu, .int .i64 cg], .int .i64 key] w fun e w' => e = .returned (.bool true) ∧ Below w.heap.size w w' := by
  have hn : n ≤ maxLen := Nat.le_trans hnc hmx
  unfold maxLen at hn
  have hc0 : Blk (w.alloc (.cells #[.int .i64 cu, .int .i64 cg] 23)) w.heap.size 23 #[.int .i64 cu, .int .i64 cg] := Blk.new _ _ _ _ rfl
  have he0 := he.same (Gr.a1 w (.cells #[.int .i64 cu, .int .i64 cg] 23)) (fun f => f)
  go_enter Tryd.func5, Tryd.ntmps5
  go_wp2_with fail
  refine (shown_any _ he0).mono ?_; rintro e w1 ⟨rfl, hG1⟩
  go_wp2_with fail
  refine (nnew_anyI _ (he0.same hG1 (fun f => f))).mono ?_; rintro e w2 ⟨n0, h0, rfl, X2⟩
  have hcA := hG1.blk hc0 (fun f => f)
  have hGa := (Gr.a1 w (.cells #[.int .i64 cu, .int .i64 cg] 23)).next hG1
  have hz1 := hGa.size
  have hlA := hcA.lt
  have hhh := X2.hh
  have hne : w.heap.size ≠ h0 := by omega
  clear hG1 he0 hc0
  go_wp2
  go_loopw [9, 10, 40, 53, 63] (fun i _ _ _ _ wr => ∃ (k : Nat) (S : St Int), k ≤ n ∧ i = .int .i64 k ∧ NSI w1 wr n0 h0 S) (fun i _ _ _ _ _ => n - (intOf i).toNat)
  case atStart => exact ⟨0, _, by omega, rfl, X2⟩
  case round =>
    obtain ⟨k, S, hk, rfl, x⟩ := hrel
    by_cases hlt : k < n ∧ k < 40
    · obtain ⟨hlt, hlt2⟩ := hlt
      obtain ⟨g, off, rfl, hg, hc⟩ := ha (by omega)
      obtain ⟨d0, d1, d2, d3, d4, d5, d6, d7, d8, d9, d10, d11⟩ := hc k hlt
      have hg1 : g < w1.heap.size := by omega
      have e0 := (hGa.cell (p := ⟨g, off + k * 12, none⟩) hg (fun f => f)).trans d0
      have e1 := (hGa.cell (p := ⟨g, off + k * 12 + 1, none⟩) hg (fun f => f)).trans d1
      have e2 := (hGa.cell (p := ⟨g, off + k * 12 + 2, none⟩) hg (fun f => f)).trans d2
      have e3 := (hGa.cell (p := ⟨g, off + k * 12 + 3, none⟩) hg (fun f => f)).trans d3
      have e4 := (hGa.cell (p := ⟨g, off + k * 12 + 4, none⟩) hg (fun f => f)).trans d4
      have e5 := (hGa.cell (p := ⟨g, off + k * 12 + 5, none⟩) hg (fun f => f)).trans d5
      have e6 := (hGa.cell (p := ⟨g, off + k * 12 + 6, none⟩) hg (fun f => f)).trans d6
      have e7 := (hGa.cell (p := ⟨g, off + k * 12 + 7, none⟩) hg (fun f => f)).trans d7
      have e8 := (hGa.cell (p := ⟨g, off + k * 12 + 8, none⟩) hg (fun f => f)).trans d8
      have e9 := (hGa.cell (p := ⟨g, off + k * 12 + 9, none⟩) hg (fun f => f)).trans d9
      have e10 := (hGa.cell (p := ⟨g, off + k * 12 + 10, none⟩) hg (fun f => f)).trans d10
      have e11 := (hGa.cell (p := ⟨g, off + k * 12 + 11, none⟩) hg (fun f => f)).trans d11
      have cx0 := (x.g.cell (p := ⟨g, off + k * 12, none⟩) hg1 (fun f => f)).trans e0
      have cx1 := (x.g.cell (p := ⟨g, off + k * 12 + 1, none⟩) hg1 (fun f => f)).trans e1
      have cx2 := (x.g.cell (p := ⟨g, off + k * 12 + 2, none⟩) hg1 (fun f => f)).trans e2
      have cx3 := (x.g.cell (p := ⟨g, off + k * 12 + 3, none⟩) hg1 (fun f => f)).trans e3
      have cx4 := (x.g.cell (p := ⟨g, off + k * 12 + 4, none⟩) hg1 (fun f => f)).trans e4
      have cx5 := (x.g.cell (p := ⟨g, off + k * 12 + 5, none⟩) hg1 (fun f => f)).trans e5
      have cx6 := (x.g.cell (p := ⟨g, off + k * 12 + 6, none⟩) hg1 (fun f => f)).trans e6
      have cx7 := (x.g.cell (p := ⟨g, off + k * 12 + 7, none⟩) hg1 (fun f => f)).trans e7
      have cx8 := (x.g.cell (p := ⟨g, off + k * 12 + 8, none⟩) hg1 (fun f => f)).trans e8
      have cx9 := (x.g.cell (p := ⟨g, off + k * 12 + 9, none⟩) hg1 (fun f => f)).trans e9
      have cx10 := (x.g.cell (p := ⟨g, off + k * 12 + 10, none⟩) hg1 (fun f => f)).trans e10
      have cx11 := (x.g.cell (p := ⟨g, off + k * 12 + 11, none⟩) hg1 (fun f => f)).trans e11
      have hwk := (hw k hlt).fl
      clear d0 e0 d1 e1 d2 e2 d3 e3 d4 e4 d5 e5 d6 e6 d7 e7 d8 e8 d9 e9 d10 e10 d11 e11 hc ha hw X2 hcA
      have hlw := x.lt
      have hi8 : S.ids.length ≤ 1000000 := Nat.le_trans (ids8 S) (by decide)
      rcases four_cases (q k).d with h4 | h4 | h4 | h4
      all_goals unfold four at h4
      · go_wp2_with fail
        refine (nGet_fI (x.same (Gr.a1 _ _)) _ _ _ _ _ hwk).mono ?_; rintro e w8 ⟨rfl, x8, hG8⟩
        clear cx0 cx1 cx2 cx3 cx4 cx5 cx6 cx7 cx8 cx9 cx10 cx11
        go_wp2
        go_roundw
        case rel => exact ⟨k + 1, _, by omega, by go_num, x8⟩
        case measure => simp [intOf]; omega
      · go_wp2_with fail
        refine (nGet_fI (x.same (Gr.a1 _ _)) _ _ _ _ _ hwk).mono ?_; rintro e w8 ⟨rfl, x8, hG8⟩
        clear cx0 cx1 cx2 cx3 cx4 cx5 cx6 cx7 cx8 cx9 cx10 cx11
        go_wp2
        go_roundw
        case rel => exact ⟨k + 1, _, by omega, by go_num, x8⟩
        case measure => simp [intOf]; omega
      · go_wp2_with fail
        have hbx : Blk (wr.alloc (.cells #[.int .i64 (q k).d, .int .i64 (q k).cu, .int .i64 (q k).cg, .int .i64 (q k).key, .bool (q k).pl, .int .i64 (q k).fl, .int .i64 (q k).v, .int .i64 (q k).p0, .int .i64 (q k).p1, .int .i64 (q k).p2, .int .i64 (q k).p3, .int .i64 (q k).p4] 44)) wr.heap.size 44 #[.int .i64 (q k).d, .int .i64 (q k).cu, .int .i64 (q k).cg, .int .i64 (q k).key, .bool (q k).pl, .int .i64 (q k).fl, .int .i64 (q k).v, .int .i64 (q k).p0, .int .i64 (q k).p1, .int .i64 (q k).p2, .int .i64 (q k).p3, .int .i64 (q k).p4] := Blk.new _ _ _ _ rfl
        have y0 : (wr.alloc (.cells #[.int .i64 (q k).d, .int .i64 (q k).cu, .int .i64 (q k).cg, .int .i64 (q k).key, .bool (q k).pl, .int .i64 (q k).fl, .int .i64 (q k).v, .int .i64 (q k).p0, .int .i64 (q k).p1, .int .i64 (q k).p2, .int .i64 (q k).p3, .int .i64 (q k).p4] 44)).drew.cell? ⟨wr.heap.size, 0, none⟩ = some (.int .i64 (q k).d) := hbx.cell 0
        have y1 : (wr.alloc (.cells #[.int .i64 (q k).d, .int .i64 (q k).cu, .int .i64 (q k).cg, .int .i64 (q k).key, .bool (q k).pl, .int .i64 (q k).fl, .int .i64 (q k).v, .int .i64 (q k).p0, .int .i64 (q k).p1, .int .i64 (q k).p2, .int .i64 (q k).p3, .int .i64 (q k).p4] 44)).drew.cell? ⟨wr.heap.size, 1, none⟩ = some (.int .i64 (q k).cu) := hbx.cell 1
        have y2 : (wr.alloc (.cells #[.int .i64 (q k).d, .int .i64 (q k).cu, .int .i64 (q k).cg, .int .i64 (q k).key, .bool (q k).pl, .int .i64 (q k).fl, .int .i64 (q k).v, .int .i64 (q k).p0, .int .i64 (q k).p1, .int .i64 (q k).p2, .int .i64 (q k).p3, .int .i64 (q k).p4] 44)).drew.cell? ⟨wr.heap.size, 2, none⟩ = some (.int .i64 (q k).cg) := hbx.cell 2
        have y3 : (wr.alloc (.cells #[.int .i64 (q k).d, .int .i64 (q k).cu, .int .i64 (q k).cg, .int .i64 (q k).key, .bool (q k).pl, .int .i64 (q k).fl, .int .i64 (q k).v, .int .i64 (q k).p0, .int .i64 (q k).p1, .int .i64 (q k).p2, .int .i64 (q k).p3, .int .i64 (q k).p4] 44)).drew.cell? ⟨wr.heap.size, 3, none⟩ = some (.int .i64 (q k).key) := hbx.cell 3
        have y4 : (wr.alloc (.cells #[.int .i64 (q k).d, .int .i64 (q k).cu, .int .i64 (q k).cg, .int .i64 (q k).key, .bool (q k).pl, .int .i64 (q k).fl, .int .i64 (q k).v, .int .i64 (q k).p0, .int .i64 (q k).p1, .int .i64 (q k).p2, .int .i64 (q k).p3, .int .i64 (q k).p4] 44)).drew.cell? ⟨wr.heap.size, 4, none⟩ = some (.bool (q k).pl) := hbx.cell 4
        have y5 : (wr.alloc (.cells #[.int .i64 (q k).d, .int .i64 (q k).cu, .int .i64 (q k).cg, .int .i64 (q k).key, .bool (q k).pl, .int .i64 (q k).fl, .int .i64 (q k).v, .int .i64 (q k).p0, .int .i64 (q k).p1, .int .i64 (q k).p2, .int .i64 (q k).p3, .int .i64 (q k).p4] 44)).drew.cell? ⟨wr.heap.size, 5, none⟩ = some (.int .i64 (q k).fl) := hbx.cell 5
        have y6 : (wr.alloc (.cells #[.int .i64 (q k).d, .int .i64 (q k).cu, .int .i64 (q k).cg, .int .i64 (q k).key, .bool (q k).pl, .int .i64 (q k).fl, .int .i64 (q k).v, .int .i64 (q k).p0, .int .i64 (q k).p1, .int .i64 (q k).p2, .int .i64 (q k).p3, .int .i64 (q k).p4] 44)).drew.cell? ⟨wr.heap.size, 6, none⟩ = some (.int .i64 (q k).v) := hbx.cell 6
        have y7 : (wr.alloc (.cells #[.int .i64 (q k).d, .int .i64 (q k).cu, .int .i64 (q k).cg, .int .i64 (q k).key, .bool (q k).pl, .int .i64 (q k).fl, .int .i64 (q k).v, .int .i64 (q k).p0, .int .i64 (q k).p1, .int .i64 (q k).p2, .int .i64 (q k).p3, .int .i64 (q k).p4] 44)).drew.cell? ⟨wr.heap.size, 7, none⟩ = some (.int .i64 (q k).p0) := hbx.cell 7
        have y8 : (wr.alloc (.cells #[.int .i64 (q k).d, .int .i64 (q k).cu, .int .i64 (q k).cg, .int .i64 (q k).key, .bool (q k).pl, .int .i64 (q k).fl, .int .i64 (q k).v, .int .i64 (q k).p0, .int .i64 (q k).p1, .int .i64 (q k).p2, .int .i64 (q k).p3, .int .i64 (q k).p4] 44)).drew.cell? ⟨wr.heap.size, 8, none⟩ = some (.int .i64 (q k).p1) := hbx.cell 8
        have y9 : (wr.alloc (.cells #[.int .i64 (q k).d, .int .i64 (q k).cu, .int .i64 (q k).cg, .int .i64 (q k).key, .bool (q k).pl, .int .i64 (q k).fl, .int .i64 (q k).v, .int .i64 (q k).p0, .int .i64 (q k).p1, .int .i64 (q k).p2, .int .i64 (q k).p3, .int .i64 (q k).p4] 44)).drew.cell? ⟨wr.heap.size, 9, none⟩ = some (.int .i64 (q k).p2) := hbx.cell 9
        have y10 : (wr.alloc (.cells #[.int .i64 (q k).d, .int .i64 (q k).cu, .int .i64 (q k).cg, .int .i64 (q k).key, .bool (q k).pl, .int .i64 (q k).fl, .int .i64 (q k).v, .int .i64 (q k).p0, .int .i64 (q k).p1, .int .i64 (q k).p2, .int .i64 (q k).p3, .int .i64 (q k).p4] 44)).drew.cell? ⟨wr.heap.size, 10, none⟩ = some (.int .i64 (q k).p3) := hbx.cell 10
        have y11 : (wr.alloc (.cells #[.int .i64 (q k).d, .int .i64 (q k).cu, .int .i64 (q k).cg, .int .i64 (q k).key, .bool (q k).pl, .int .i64 (q k).fl, .int .i64 (q k).v, .int .i64 (q k).p0, .int .i64 (q k).p1, .int .i64 (q k).p2, .int .i64 (q k).p3, .int .i64 (q k).p4] 44)).drew.cell? ⟨wr.heap.size, 11, none⟩ = some (.int .i64 (q k).p4) := hbx.cell 11
        have yx : NSI w1 (wr.alloc (.cells #[.int .i64 (q k).d, .int .i64 (q k).cu, .int .i64 (q k).cg, .int .i64 (q k).key, .bool (q k).pl, .int .i64 (q k).fl, .int .i64 (q k).v, .int .i64 (q k).p0, .int .i64 (q k).p1, .int .i64 (q k).p2, .int .i64 (q k).p3, .int .i64 (q k).p4] 44)).drew n0 h0 S := x.same (Gr.a1 _ _).drew
        have yz : wr.heap.size < (wr.alloc (.cells #[.int .i64 (q k).d, .int .i64 (q k).cu, .int .i64 (q k).cg, .int .i64 (q k).key, .bool (q k).pl, .int .i64 (q k).fl, .int .i64 (q k).v, .int .i64 (q k).p0, .int .i64 (q k).p1, .int .i64 (q k).p2, .int .i64 (q k).p3, .int .i64 (q k).p4] 44)).drew.heap.size := by show _ < (World.alloc _ _).heap.size; simp
        clear hbx
        clear cx0 cx1 cx2 cx3 cx4 cx5 cx6 cx7 cx8 cx9 cx10 cx11
        go_region_held3 (fun W => W.cell? ⟨wr.heap.size, 0, none⟩ = some (.int .i64 (q k).d) ∧ W.cell? ⟨wr.heap.size, 1, none⟩ = some (.int .i64 (q k).cu) ∧ W.cell? ⟨wr.heap.size, 2, none⟩ = some (.int .i64 (q k).cg) ∧ W.cell? ⟨wr.heap.size, 3, none⟩ = some (.int .i64 (q k).key) ∧ W.cell? ⟨wr.heap.size, 4, none⟩ = some (.bool (q k).pl) ∧ W.cell? ⟨wr.heap.size, 5, none⟩ = some (.int .i64 (q k).fl) ∧ W.cell? ⟨wr.heap.size, 6, none⟩ = some (.int .i64 (q k).v) ∧ W.cell? ⟨wr.heap.size, 7, none⟩ = some (.int .i64 (q k).p0) ∧ W.cell? ⟨wr.heap.size, 8, none⟩ = some (.int .i64 (q k).p1) ∧ W.cell? ⟨wr.heap.size, 9, none⟩ = some (.int .i64 (q k).p2) ∧ W.cell? ⟨wr.heap.size, 10, none⟩ = some (.int .i64 (q k).p3) ∧ W.cell? ⟨wr.heap.size, 11, none⟩ = some (.int .i64 (q k).p4) ∧ wr.heap.size < W.heap.size)
          (first | ((repeat' (with_reducible apply And.intro)) <;> assumption))
          (first | (go_at_call 19; refine (nids_at yx).mono ?_; rintro e w6 ⟨A6, c6, rfl, hr6, yx', hG6⟩; have ya0 := (hG6.cell (p := ⟨wr.heap.size, 0, none⟩) yz (fun f => f)).trans y0; have ya1 := (hG6.cell (p := ⟨wr.heap.size, 1, none⟩) yz (fun f => f)).trans y1; have ya2 := (hG6.cell (p := ⟨wr.heap.size, 2, none⟩) yz (fun f => f)).trans y2; have ya3 := (hG6.cell (p := ⟨wr.heap.size, 3, none⟩) yz (fun f => f)).trans y3; have ya4 := (hG6.cell (p := ⟨wr.heap.size, 4, none⟩) yz (fun f => f)).trans y4; have ya5 := (hG6.cell (p := ⟨wr.heap.size, 5, none⟩) yz (fun f => f)).trans y5; have ya6 := (hG6.cell (p := ⟨wr.heap.size, 6, none⟩) yz (fun f => f)).trans y6; have ya7 := (hG6.cell (p := ⟨wr.heap.size, 7, none⟩) yz (fun f => f)).trans y7; have ya8 := (hG6.cell (p := ⟨wr.heap.size, 8, none⟩) yz (fun f => f)).trans y8; have ya9 := (hG6.cell (p := ⟨wr.heap.size, 9, none⟩) yz (fun f => f)).trans y9; have ya10 := (hG6.cell (p := ⟨wr.heap.size, 10, none⟩) yz (fun f => f)).trans y10; have ya11 := (hG6.cell (p := ⟨wr.heap.size, 11, none⟩) yz (fun f => f)).trans y11; have yz' := Nat.lt_of_lt_of_le yz hG6.size) | (go_at_call 18; refine (number_any _ _ _ S.ids rfl _ (q k) _ hr6 hi8).mono ?_; rintro e w7 ⟨rfl, hG7⟩; have z0 := (hG7.cell (p := ⟨wr.heap.size, 0, none⟩) yz' (fun f => f)).trans ya0; have z1 := (hG7.cell (p := ⟨wr.heap.size, 1, none⟩) yz' (fun f => f)).trans ya1; have z2 := (hG7.cell (p := ⟨wr.heap.size, 2, none⟩) yz' (fun f => f)).trans ya2; have z3 := (hG7.cell (p := ⟨wr.heap.size, 3, none⟩) yz' (fun f => f)).trans ya3; have z4 := (hG7.cell (p := ⟨wr.heap.size, 4, none⟩) yz' (fun f => f)).trans ya4; have z5 := (hG7.cell (p := ⟨wr.heap.size, 5, none⟩) yz' (fun f => f)).trans ya5; have z6 := (hG7.cell (p := ⟨wr.heap.size, 6, none⟩) yz' (fun f => f)).trans ya6; have z7 := (hG7.cell (p := ⟨wr.heap.size, 7, none⟩) yz' (fun f => f)).trans ya7; have z8 := (hG7.cell (p := ⟨wr.heap.size, 8, none⟩) yz' (fun f => f)).trans ya8; have z9 := (hG7.cell (p := ⟨wr.heap.size, 9, none⟩) yz' (fun f => f)).trans ya9; have z10 := (hG7.cell (p := ⟨wr.heap.size, 10, none⟩) yz' (fun f => f)).trans ya10; have z11 := (hG7.cell (p := ⟨wr.heap.size, 11, none⟩) yz' (fun f => f)).trans ya11; have zx := yx'.same hG7; have zz := Nat.lt_of_lt_of_le yz' hG7.size) | (go_at_call 17; refine (nRemove_fI zx (numI S.ids (q k).key (q k).pl) (q k).cu (q k).cg).mono ?_; rintro e w8 ⟨rfl, x8, hG8⟩; have u0 := (hG8.cell (p := ⟨wr.heap.size, 0, none⟩) zz (fun h => by dsimp only at h; omega)).trans z0; have u1 := (hG8.cell (p := ⟨wr.heap.size, 1, none⟩) zz (fun h => by dsimp only at h; omega)).trans z1; have u2 := (hG8.cell (p := ⟨wr.heap.size, 2, none⟩) zz (fun h => by dsimp only at h; omega)).trans z2; have u3 := (hG8.cell (p := ⟨wr.heap.size, 3, none⟩) zz (fun h => by dsimp only at h; omega)).trans z3; have u4 := (hG8.cell (p := ⟨wr.heap.size, 4, none⟩) zz (fun h => by dsimp only at h; omega)).trans z4; have u5 := (hG8.cell (p := ⟨wr.heap.size, 5, none⟩) zz (fun h => by dsimp only at h; omega)).trans z5; have u6 := (hG8.cell (p := ⟨wr.heap.size, 6, none⟩) zz (fun h => by dsimp only at h; omega)).trans z6; have u7 := (hG8.cell (p := ⟨wr.heap.size, 7, none⟩) zz (fun h => by dsimp only at h; omega)).trans z7; have u8 := (hG8.cell (p := ⟨wr.heap.size, 8, none⟩) zz (fun h => by dsimp only at h; omega)).trans z8; have u9 := (hG8.cell (p := ⟨wr.heap.size, 9, none⟩) zz (fun h => by dsimp only at h; omega)).trans z9; have u10 := (hG8.cell (p := ⟨wr.heap.size, 10, none⟩) zz (fun h => by dsimp only at h; omega)).trans z10; have u11 := (hG8.cell (p := ⟨wr.heap.size, 11, none⟩) zz (fun h => by dsimp only at h; omega)).trans z11; have uz := Nat.lt_of_lt_of_le zz hG8.size))
        go_wp2
        go_roundw
        case rel => exact ⟨k + 1, _, by omega, by go_num, x8⟩
        case measure => simp [intOf]; omega
      · go_wp2_with fail
        have hbx : Blk (wr.alloc (.cells #[.int .i64 (q k).d, .int .i64 (q k).cu, .int .i64 (q k).cg, .int .i64 (q k).key, .bool (q k).pl, .int .i64 (q k).fl, .int .i64 (q k).v, .int .i64 (q k).p0, .int .i64 (q k).p1, .int .i64 (q k).p2, .int .i64 (q k).p3, .int .i64 (q k).p4] 44)) wr.heap.size 44 #[.int .i64 (q k).d, .int .i64 (q k).cu, .int .i64 (q k).cg, .int .i64 (q k).key, .bool (q k).pl, .int .i64 (q k).fl, .int .i64 (q k).v, .int .i64 (q k).p0, .int .i64 (q k).p1, .int .i64 (q k).p2, .int .i64 (q k).p3, .int .i64 (q k).p4] := Blk.new _ _ _ _ rfl
        have y0 : (wr.alloc (.cells #[.int .i64 (q k).d, .int .i64 (q k).cu, .int .i64 (q k).cg, .int .i64 (q k).key, .bool (q k).pl, .int .i64 (q k).fl, .int .i64 (q k).v, .int .i64 (q k).p0, .int .i64 (q k).p1, .int .i64 (q k).p2, .int .i64 (q k).p3, .int .i64 (q k).p4] 44)).drew.cell? ⟨wr.heap.size, 0, none⟩ = some (.int .i64 (q k).d) := hbx.cell 0
        have y1 : (wr.alloc (.cells #[.int .i64 (q k).d, .int .i64 (q k).cu, .int .i64 (q k).cg, .int .i64 (q k).key, .bool (q k).pl, .int .i64 (q k).fl, .int .i64 (q k).v, .int .i64 (q k).p0, .int .i64 (q k).p1, .int .i64 (q k).p2, .int .i64 (q k).p3, .int .i64 (q k).p4] 44)).drew.cell? ⟨wr.heap.size, 1, none⟩ = some (.int .i64 (q k).cu) := hbx.cell 1
        have y2 : (wr.alloc (.cells #[.int .i64 (q k).d, .int .i64 (q k).cu, .int .i64 (q k).cg, .int .i64 (q k).key, .bool (q k).pl, .int .i64 (q k).fl, .int .i64 (q k).v, .int .i64 (q k).p0, .int .i64 (q k).p1, .int .i64 (q k).p2, .int .i64 (q k).p3, .int .i64 (q k).p4] 44)).drew.cell? ⟨wr.heap.size, 2, none⟩ = some (.int .i64 (q k).cg) := hbx.cell 2
        have y3 : (wr.alloc (.cells #[.int .i64 (q k).d, .int .i64 (q k).cu, .int .i64 (q k).cg, .int .i64 (q k).key, .bool (q k).pl, .int .i64 (q k).fl, .int .i64 (q k).v, .int .i64 (q k).p0, .int .i64 (q k).p1, .int .i64 (q k).p2, .int .i64 (q k).p3, .int .i64 (q k).p4] 44)).drew.cell? ⟨wr.heap.size, 3, none⟩ = some (.int .i64 (q k).key) := hbx.cell 3
        have y4 : (wr.alloc (.cells #[.int .i64 (q k).d, .int .i64 (q k).cu, .int .i64 (q k).cg, .int .i64 (q k).key, .bool (q k).pl, .int .i64 (q k).fl, .int .i64 (q k).v, .int .i64 (q k).p0, .int .i64 (q k).p1, .int .i64 (q k).p2, .int .i64 (q k).p3, .int .i64 (q k).p4] 44)).drew.cell? ⟨wr.heap.size, 4, none⟩ = some (.bool (q k).pl) := hbx.cell 4
        have y5 : (wr.alloc (.cells #[.int .i64 (q k).d, .int .i64 (q k).cu, .int .i64 (q k).cg, .int .i64 (q k).key, .bool (q k).pl, .int .i64 (q k).fl, .int .i64 (q k).v, .int .i64 (q k).p0, .int .i64 (q k).p1, .int .i64 (q k).p2, .int .i64 (q k).p3, .int .i64 (q k).p4] 44)).drew.cell? ⟨wr.heap.size, 5, none⟩ = some (.int .i64 (q k).fl) := hbx.cell 5
        have y6 : (wr.alloc (.cells #[.int .i64 (q k).d, .int .i64 (q k).cu, .int .i64 (q k).cg, .int .i64 (q k).key, .bool (q k).pl, .int .i64 (q k).fl, .int .i64 (q k).v, .int .i64 (q k).p0, .int .i64 (q k).p1, .int .i64 (q k).p2, .int .i64 (q k).p3, .int .i64 (q k).p4] 44)).drew.cell? ⟨wr.heap.size, 6, none⟩ = some (.int .i64 (q k).v) := hbx.cell 6
        have y7 : (wr.alloc (.cells #[.int .i64 (q k).d, .int .i64 (q k).cu, .int .i64 (q k).cg, .int .i64 (q k).key, .bool (q k).pl, .int .i64 (q k).fl, .int .i64 (q k).v, .int .i64 (q k).p0, .int .i64 (q k).p1, .int .i64 (q k).p2, .int .i64 (q k).p3, .int .i64 (q k).p4] 44)).drew.cell? ⟨wr.heap.size, 7, none⟩ = some (.int .i64 (q k).p0) := hbx.cell 7
        have y8 : (wr.alloc (.cells #[.int .i64 (q k).d, .int .i64 (q k).cu, .int .i64 (q k).cg, .int .i64 (q k).key, .bool (q k).pl, .int .i64 (q k).fl, .int .i64 (q k).v, .int .i64 (q k).p0, .int .i64 (q k).p1, .int .i64 (q k).p2, .int .i64 (q k).p3, .int .i64 (q k).p4] 44)).drew.cell? ⟨wr.heap.size, 8, none⟩ = some (.int .i64 (q k).p1) := hbx.cell 8
        have y9 : (wr.alloc (.cells #[.int .i64 (q k).d, .int .i64 (q k).cu, .int .i64 (q k).cg, .int .i64 (q k).key, .bool (q k).pl, .int .i64 (q k).fl, .int .i64 (q k).v, .int .i64 (q k).p0, .int .i64 (q k).p1, .int .i64 (q k).p2, .int .i64 (q k).p3, .int .i64 (q k).p4] 44)).drew.cell? ⟨wr.heap.size, 9, none⟩ = some (.int .i64 (q k).p2) := hbx.cell 9
        have y10 : (wr.alloc (.cells #[.int .i64 (q k).d, .int .i64 (q k).cu, .int .i64 (q k).cg, .int .i64 (q k).key, .bool (q k).pl, .int .i64 (q k).fl, .int .i64 (q k).v, .int .i64 (q k).p0, .int .i64 (q k).p1, .int .i64 (q k).p2, .int .i64 (q k).p3, .int .i64 (q k).p4] 44)).drew.cell? ⟨wr.heap.size, 10, none⟩ = some (.int .i64 (q k).p3) := hbx.cell 10
        have y11 : (wr.alloc (.cells #[.int .i64 (q k).d, .int .i64 (q k).cu, .int .i64 (q k).cg, .int .i64 (q k).key, .bool (q k).pl, .int .i64 (q k).fl, .int .i64 (q k).v, .int .i64 (q k).p0, .int .i64 (q k).p1, .int .i64 (q k).p2, .int .i64 (q k).p3, .int .i64 (q k).p4] 44)).drew.cell? ⟨wr.heap.size, 11, none⟩ = some (.int .i64 (q k).p4) := hbx.cell 11
        have yx : NSI w1 (wr.alloc (.cells #[.int .i64 (q k).d, .int .i64 (q k).cu, .int .i64 (q k).cg, .int .i64 (q k).key, .bool (q k).pl, .int .i64 (q k).fl, .int .i64 (q k).v, .int .i64 (q k).p0, .int .i64 (q k).p1, .int .i64 (q k).p2, .int .i64 (q k).p3, .int .i64 (q k).p4] 44)).drew n0 h0 S := x.same (Gr.a1 _ _).drew
        have yz : wr.heap.size < (wr.alloc (.cells #[.int .i64 (q k).d, .int .i64 (q k).cu, .int .i64 (q k).cg, .int .i64 (q k).key, .bool (q k).pl, .int .i64 (q k).fl, .int .i64 (q k).v, .int .i64 (q k).p0, .int .i64 (q k).p1, .int .i64 (q k).p2, .int .i64 (q k).p3, .int .i64 (q k).p4] 44)).drew.heap.size := by show _ < (World.alloc _ _).heap.size; simp
        clear hbx
        clear cx0 cx1 cx2 cx3 cx4 cx5 cx6 cx7 cx8 cx9 cx10 cx11
        go_region_held3 (fun W => W.cell? ⟨wr.heap.size, 0, none⟩ = some (.int .i64 (q k).d) ∧ W.cell? ⟨wr.heap.size, 1, none⟩ = some (.int .i64 (q k).cu) ∧ W.cell? ⟨wr.heap.size, 2, none⟩ = some (.int .i64 (q k).cg) ∧ W.cell? ⟨wr.heap.size, 3, none⟩ = some (.int .i64 (q k).key) ∧ W.cell? ⟨wr.heap.size, 4, none⟩ = some (.bool (q k).pl) ∧ W.cell? ⟨wr.heap.size, 5, none⟩ = some (.int .i64 (q k).fl) ∧ W.cell? ⟨wr.heap.size, 6, none⟩ = some (.int .i64 (q k).v) ∧ W.cell? ⟨wr.heap.size, 7, none⟩ = some (.int .i64 (q k).p0) ∧ W.cell? ⟨wr.heap.size, 8, none⟩ = some (.int .i64 (q k).p1) ∧ W.cell? ⟨wr.heap.size, 9, none⟩ = some (.int .i64 (q k).p2) ∧ W.cell? ⟨wr.heap.size, 10, none⟩ = some (.int .i64 (q k).p3) ∧ W.cell? ⟨wr.heap.size, 11, none⟩ = some (.int .i64 (q k).p4) ∧ wr.heap.size < W.heap.size)
          (first | ((repeat' (with_reducible apply And.intro)) <;> assumption))
          (first | (go_at_call 19; refine (nids_at yx).mono ?_; rintro e w6 ⟨A6, c6, rfl, hr6, yx', hG6⟩; have ya0 := (hG6.cell (p := ⟨wr.heap.size, 0, none⟩) yz (fun f => f)).trans y0; have ya1 := (hG6.cell (p := ⟨wr.heap.size, 1, none⟩) yz (fun f => f)).trans y1; have ya2 := (hG6.cell (p := ⟨wr.heap.size, 2, none⟩) yz (fun f => f)).trans y2; have ya3 := (hG6.cell (p := ⟨wr.heap.size, 3, none⟩) yz (fun f => f)).trans y3; have ya4 := (hG6.cell (p := ⟨wr.heap.size, 4, none⟩) yz (fun f => f)).trans y4; have ya5 := (hG6.cell (p := ⟨wr.heap.size, 5, none⟩) yz (fun f => f)).trans y5; have ya6 := (hG6.cell (p := ⟨wr.heap.size, 6, none⟩) yz (fun f => f)).trans y6; have ya7 := (hG6.cell (p := ⟨wr.heap.size, 7, none⟩) yz (fun f => f)).trans y7; have ya8 := (hG6.cell (p := ⟨wr.heap.size, 8, none⟩) yz (fun f => f)).trans y8; have ya9 := (hG6.cell (p := ⟨wr.heap.size, 9, none⟩) yz (fun f => f)).trans y9; have ya10 := (hG6.cell (p := ⟨wr.heap.size, 10, none⟩) yz (fun f => f)).trans y10; have ya11 := (hG6.cell (p := ⟨wr.heap.size, 11, none⟩) yz (fun f => f)).trans y11; have yz' := Nat.lt_of_lt_of_le yz hG6.size) | (go_at_call 18; refine (number_any _ _ _ S.ids rfl _ (q k) _ hr6 hi8).mono ?_; rintro e w7 ⟨rfl, hG7⟩; have z0 := (hG7.cell (p := ⟨wr.heap.size, 0, none⟩) yz' (fun f => f)).trans ya0; have z1 := (hG7.cell (p := ⟨wr.heap.size, 1, none⟩) yz' (fun f => f)).trans ya1; have z2 := (hG7.cell (p := ⟨wr.heap.size, 2, none⟩) yz' (fun f => f)).trans ya2; have z3 := (hG7.cell (p := ⟨wr.heap.size, 3, none⟩) yz' (fun f => f)).trans ya3; have z4 := (hG7.cell (p := ⟨wr.heap.size, 4, none⟩) yz' (fun f => f)).trans ya4; have z5 := (hG7.cell (p := ⟨wr.heap.size, 5, none⟩) yz' (fun f => f)).trans ya5; have z6 := (hG7.cell (p := ⟨wr.heap.size, 6, none⟩) yz' (fun f => f)).trans ya6; have z7 := (hG7.cell (p := ⟨wr.heap.size, 7, none⟩) yz' (fun f => f)).trans ya7; have z8 := (hG7.cell (p := ⟨wr.heap.size, 8, none⟩) yz' (fun f => f)).trans ya8; have z9 := (hG7.cell (p := ⟨wr.heap.size, 9, none⟩) yz' (fun f => f)).trans ya9; have z10 := (hG7.cell (p := ⟨wr.heap.size, 10, none⟩) yz' (fun f => f)).trans ya10; have z11 := (hG7.cell (p := ⟨wr.heap.size, 11, none⟩) yz' (fun f => f)).trans ya11; have zx := yx'.same hG7; have zz := Nat.lt_of_lt_of_le yz' hG7.size) | (go_at_call 20; refine (nSet_f zx (numI S.ids (q k).key (q k).pl) (q k).cu (q k).cg (q k).p0 (q k).p1 (q k).p4).mono ?_; rintro e w8 ⟨rfl, x8, hG8⟩; have u0 := (hG8.cell (p := ⟨wr.heap.size, 0, none⟩) zz (fun h => by dsimp only at h; omega)).trans z0; have u1 := (hG8.cell (p := ⟨wr.heap.size, 1, none⟩) zz (fun h => by dsimp only at h; omega)).trans z1; have u2 := (hG8.cell (p := ⟨wr.heap.size, 2, none⟩) zz (fun h => by dsimp only at h; omega)).trans z2; have u3 := (hG8.cell (p := ⟨wr.heap.size, 3, none⟩) zz (fun h => by dsimp only at h; omega)).trans z3; have u4 := (hG8.cell (p := ⟨wr.heap.size, 4, none⟩) zz (fun h => by dsimp only at h; omega)).trans z4; have u5 := (hG8.cell (p := ⟨wr.heap.size, 5, none⟩) zz (fun h => by dsimp only at h; omega)).trans z5; have u6 := (hG8.cell (p := ⟨wr.heap.size, 6, none⟩) zz (fun h => by dsimp only at h; omega)).trans z6; have u7 := (hG8.cell (p := ⟨wr.heap.size, 7, none⟩) zz (fun h => by dsimp only at h; omega)).trans z7; have u8 := (hG8.cell (p := ⟨wr.heap.size, 8, none⟩) zz (fun h => by dsimp only at h; omega)).trans z8; have u9 := (hG8.cell (p := ⟨wr.heap.size, 9, none⟩) zz (fun h => by dsimp only at h; omega)).trans z9; have u10 := (hG8.cell (p := ⟨wr.heap.size, 10, none⟩) zz (fun h => by dsimp only at h; omega)).trans z10; have u11 := (hG8.cell (p := ⟨wr.heap.size, 11, none⟩) zz (fun h => by dsimp only at h; omega)).trans z11; have uz := Nat.lt_of_lt_of_le zz hG8.size))
        go_wp2
        go_roundw
        case rel => exact ⟨k + 1, _, by omega, by go_num, x8⟩
        case measure => simp [intOf]; omega
    · have hcR := x.g.blk hcA (fun f => f)
      have y0 := hcR.cell 0
      have y1 := hcR.cell 1
      simp at y0 y1
      have yl := hcR.lt
      obtain ⟨a, m1, e1, S1, hq1⟩ : ∃ a m1 e1 S1, gt S cu cg key 512 5 = ((a, m1, e1), S1) := ⟨_, _, _, _, rfl⟩
      obtain ⟨b, m2, f1, S2, hq2⟩ : ∃ b m2 f1 S2, gt S1 cu cg key 512 5 = ((b, m2, f1), S2) := ⟨_, _, _, _, rfl⟩
      have HQ1 := Lib.hid hq1
      have HQ2 := Lib.hid hq2
      have HL := Lib.hid (keys_law cu cg key a b m1 m2 e1 f1 S1 S2 hq1 hq2)
      clear hq1 hq2 ha hw
      go_wp2_with fail
      all_goals
        refine (nget_eqI x cu cg key 512 5 (by omega) a m1 e1 S1 HQ1.out).mono ?_; rintro e w3 ⟨rfl, x3, hG3⟩
        have hcS := x3.g.blk hcA (fun f => f)
        clear y0 y1 yl
        have y0 := hcS.cell 0
        have y1 := hcS.cell 1
        simp at y0 y1
        have yl := hcS.lt
        go_wp2_with fail
        refine (nget_eqI x3 cu cg key 512 5 (by omega) b m2 f1 S2 HQ2.out).mono ?_; rintro e w4 ⟨rfl, x4, hG4⟩
        have hcT := x4.g.blk hcA (fun f => f)
        clear y0 y1 yl
        have y0 := hcT.cell 0
        have y1 := hcT.cell 1
        simp at y0 y1
        have yl := hcT.lt
        have HF := Lib.hid ((hGa.next x4.g).below)
        rcases HL.out with (rfl | rfl) | ⟨rfl, rfl, rfl, rfl⟩ | ⟨rfl, rfl, rfl, hab, rfl, rfl⟩ | ⟨rfl, rfl, hk0, rfl, rfl, r, S3, hq3⟩
        · go_wp2
          go_ret
          exact ⟨rfl, HF.out⟩
        · go_wp2
          go_ret
          exact ⟨rfl, HF.out⟩
        · go_wp2
          go_ret
          exact ⟨rfl, HF.out⟩
        · have hab' : (a == b) = false := by simp [hab]
          have hab2 : (a != b) = true := by simp [hab]
          go_wp2
          go_ret
          exact ⟨rfl, HF.out⟩
        · have hk' : (key == 0) = false := by simp [hk0]
          go_wp2_with fail
          refine (nget_eqI x4 cu cg key 1536 5 (by omega) r false 20 S3 hq3).mono ?_; rintro e w5 ⟨rfl, x5, hG5⟩
          go_wp2
          go_ret
          exact ⟨by first | rfl | (simp; done), (hGa.next x5.g).below⟩
end Go.Proofs
