/- SlotsDo. -/
import Derived.Test.YtmboefajlfgffaaM
import Derived.Deep.RegionHeld3
set_option linter.unusedVariables false
set_option linter.unusedSimpArgs false
namespace Go.Proofs
open Go.RowKit Go.Shelf
attribute [local go_sem] Oper.semAt_some


set_option maxRecDepth 100000 in
set_option maxHeartbeats 4000000 in
theorem slotsDo_walk (A : Option Addr) (n cap : Nat) (D I : Nat → Int) (Pl : Nat → Bool) (V0 : Nat → Int) (w : World) (ha : Acts w A n D I Pl V0) (hn : n ≤ maxLen) :
    Calls Try.prog 6 #[.slice A n cap] w fun e w' => e = .returned (.bool true) ∧ Below w.heap.size w w' := by
  unfold maxLen at hn
  go_enter Try.func6, Try.ntmps6
  go_wp2_with fail
  refine (shown_s _).mono ?_
  rintro e w1 ⟨rfl, hG1⟩
  go_wp2_with fail
  refine (new_any _).mono ?_
  rintro e w2 ⟨rfl, hG2, hB2⟩
  have hz1 := hG1.size
  have hz2 := hG2.size
  have hlt1 := hB2.lt
  have hS0 : Same w w2 := hG1.next hG2
  have hB0 : Sl 58 (w2.alloc (.cells (refCells (St.zero (.int .i64 0)) (fun _ => 0)) 42)) w1.heap.size (St.zero (.int .i64 0)) := hB2.alloc _
  have hR0 : Rf (w2.alloc (.cells (refCells (St.zero (.int .i64 0)) (fun _ => 0)) 42)) w2.heap.size (St.zero (.int .i64 0)) (fun _ => 0) := Blk.new _ _ _ _ rfl
  have hGr0 : Same w (w2.alloc (.cells (refCells (St.zero (.int .i64 0)) (fun _ => 0)) 42)) := hS0.alloc _
  clear hB2 hG1 hG2 hS0
  go_wp2
  go_loopw [6, 7, 8, 9, 10, 11, 12, 13, 14, 15, 16, 17, 18, 19, 20, 21] (fun i _ _ _ _ _ _ _ _ _ _ _ _ _ _ _ wr => ∃ (k : Nat) (S : St) (V : Nat → Int), k ≤ n ∧ i = .int .i64 k ∧ S.ok ∧ SVals' S ∧ Agree S V ∧ Sl 58 wr w1.heap.size S ∧ Rf wr w2.heap.size S V ∧ Same w wr) (fun i _ _ _ _ _ _ _ _ _ _ _ _ _ _ _ _ => n - (intOf i).toNat)
  case atStart => exact ⟨0, _, _, by omega, rfl, ok_zero _, all_zero ⟨_, rfl⟩, agree_zero _ _, hB0, hR0, hGr0⟩
  case round =>
    obtain ⟨k, S, V, hk, rfl, hO, hV, hA, hB, hR, hG⟩ := hrel
    by_cases hlt : k < n ∧ k < 200
    · obtain ⟨hlt, hlt2⟩ := hlt
      obtain ⟨g, off, rfl, hg, hc⟩ := ha (by omega)
      obtain ⟨d0, d1, d2, d3⟩ := hc k hlt
      have hzr := hG.size
      have x0 := (hG.cell (p := ⟨g, off + k * 4, none⟩) hg (fun f => f)).trans d0
      have x1 := (hG.cell (p := ⟨g, off + k * 4 + 1, none⟩) hg (fun f => f)).trans d1
      have x2 := (hG.cell (p := ⟨g, off + k * 4 + 2, none⟩) hg (fun f => f)).trans d2
      have x3 := (hG.cell (p := ⟨g, off + k * 4 + 3, none⟩) hg (fun f => f)).trans d3
      clear d0 d1 d2 d3 hc ha
      go_wp2_with fail
      obtain ⟨W, hW⟩ : ∃ W, (wr.alloc (.cells #[.int .i64 (D k), .int .i64 (I k), .bool (Pl k), .int .i64 (V0 k)] 36)).drew = W := ⟨_, rfl⟩
      have y0 : W.cell? ⟨wr.heap.size, 0, none⟩ = some (.int .i64 (D k)) := by rw [← hW]; simp [go_sem]
      have y1 : W.cell? ⟨wr.heap.size, 1, none⟩ = some (.int .i64 (I k)) := by rw [← hW]; simp [go_sem]
      have y2 : W.cell? ⟨wr.heap.size, 2, none⟩ = some (.bool (Pl k)) := by rw [← hW]; simp [go_sem]
      have y3 : W.cell? ⟨wr.heap.size, 3, none⟩ = some (.int .i64 (V0 k)) := by rw [← hW]; simp [go_sem]
      have yB : Sl 58 W w1.heap.size S := by rw [← hW]; exact hB.alloc _
      have yR : Rf W w2.heap.size S V := by rw [← hW]; exact hR.alloc _
      have yG : Same w W := by rw [← hW]; exact hG.alloc _
      have yz : wr.heap.size < W.heap.size := by rw [← hW]; show _ < (World.alloc _ _).heap.size; simp
      have yl := hR.lt
      clear hB hR hG x0 x1 x2 x3
      subst hW
      go_region_held3 (fun W => W.cell? ⟨wr.heap.size, 0, none⟩ = some (.int .i64 (D k)) ∧ W.cell? ⟨wr.heap.size, 1, none⟩ = some (.int .i64 (I k)) ∧ W.cell? ⟨wr.heap.size, 2, none⟩ = some (.bool (Pl k)) ∧ W.cell? ⟨wr.heap.size, 3, none⟩ = some (.int .i64 (V0 k)) ∧ Sl 58 W w1.heap.size S ∧ Rf W w2.heap.size S V ∧ Same w W ∧ wr.heap.size < W.heap.size)
        (first | ((repeat' (with_reducible apply And.intro)) <;> assumption))
        (first | (go_at_call 16; refine (ids_r _ _ _ hO _ yR).mono ?_; rintro e w6 ⟨A6, c6, rfl, hr6, hG6⟩; have y0' := (hG6.cell (p := ⟨wr.heap.size, 0, none⟩) yz (fun f => f)).trans y0; have y1' := (hG6.cell (p := ⟨wr.heap.size, 1, none⟩) yz (fun f => f)).trans y1; have y2' := (hG6.cell (p := ⟨wr.heap.size, 2, none⟩) yz (fun f => f)).trans y2; have y3' := (hG6.cell (p := ⟨wr.heap.size, 3, none⟩) yz (fun f => f)).trans y3; have yB' := hG6.blk yB (fun f => f); have yR' := hG6.blk yR (fun f => f); have yG' := yG.next hG6; have yz' := Nat.lt_of_lt_of_le yz hG6.size) | (go_at_call 15; refine (number_any _ _ _ _ _ _ _ _ _ hr6 (ids8 _)).mono ?_; rintro e w7 ⟨rfl, hG7⟩; have z0 := (hG7.cell (p := ⟨wr.heap.size, 0, none⟩) yz' (fun f => f)).trans y0'; have z1 := (hG7.cell (p := ⟨wr.heap.size, 1, none⟩) yz' (fun f => f)).trans y1'; have z2 := (hG7.cell (p := ⟨wr.heap.size, 2, none⟩) yz' (fun f => f)).trans y2'; have z3 := (hG7.cell (p := ⟨wr.heap.size, 3, none⟩) yz' (fun f => f)).trans y3'; have zB := hG7.blk yB' (fun f => f); have zR := hG7.blk yR' (fun f => f); have zG := yG'.next hG7; have zz := Nat.lt_of_lt_of_le yz' hG7.size))
      clear y0 y1 y2 y3 yB yR yG yz y0' y1' y2' y3' yB' yR' yG' yz'
      generalize numI S.ids (I k) (Pl k) = id
      have hzz : w2.heap.size < wr.heap.size := yl
      rcases six_cases (D k) with h6 | h6 | h6 | h6 | h6 | h6
      all_goals unfold six at h6
      · go_wp2_with fail
        refine (add_f _ S hO (V0 k) _ zB).mono ?_
        rintro e w8 ⟨rfl, hG8, hB8⟩
        have q3 := (hG8.cell (p := ⟨wr.heap.size, 3, none⟩) zz (fun h => by dsimp only at h; omega)).trans z3
        go_wp2_with fail
        refine (radd _ S V hO (V0 k) (.int .i64 (V0 k)) _ (hG8.blk zR (by omega))).mono ?_
        rintro e w9 ⟨rfl, hG9, hR9⟩
        have hBq := hG9.blk hB8 (by omega)
        have hRq := hR9
        have hGq : Same w w9 := (zG.trans hG8 (fun j hj h => by omega)).trans hG9 (fun j hj h => by omega)
        clear zB zR zG z0 z1 z2 z3 hG8 hG9 hB8 hR9
        go_wp2_with fail
        refine (ids_s _ _ (ok_addS hO _) _ hBq).mono ?_
        rintro e w11 ⟨A1, c1, rfl, hr1, hG11⟩
        have hR1 := hG11.blk hRq (fun f => f)
        go_wp2_with fail
        refine (ids_r _ _ _ (ok_addS hO _) _ hR1).mono ?_
        rintro e w12 ⟨A2, c2, rfl, hr2, hG12⟩
        have hr1' := hr1.same hG12
        go_wp2_with fail
        refine (ints_same A1 A2 c1 c2 _ _ _ _ hr1' hr2 (ids8 _)).mono ?_
        rintro e w13 ⟨rfl, hG13⟩
        have hGr := (hG11.next hG12).next hG13
        have hBz := hGr.blk hBq (fun f => f)
        have hRz := hGr.blk hRq (fun f => f)
        have hGz := hGq.next hGr
        go_wp2
        go_roundw
        case rel => exact ⟨k + 1, _, _, by omega, by go_num, ok_addS hO _, all_addS hV ⟨_, rfl⟩, agree_add hA _, hBz, hRz, hGz⟩
        case measure => simp [intOf]; omega
      · go_wp2_with fail
        refine (add_f _ S hO (V0 k) _ zB).mono ?_
        rintro e w8 ⟨rfl, hG8, hB8⟩
        have q3 := (hG8.cell (p := ⟨wr.heap.size, 3, none⟩) zz (fun h => by dsimp only at h; omega)).trans z3
        go_wp2_with fail
        refine (radd _ S V hO (V0 k) (.int .i64 (V0 k)) _ (hG8.blk zR (by omega))).mono ?_
        rintro e w9 ⟨rfl, hG9, hR9⟩
        have hBq := hG9.blk hB8 (by omega)
        have hRq := hR9
        have hGq : Same w w9 := (zG.trans hG8 (fun j hj h => by omega)).trans hG9 (fun j hj h => by omega)
        clear zB zR zG z0 z1 z2 z3 hG8 hG9 hB8 hR9
        go_wp2_with fail
        refine (ids_s _ _ (ok_addS hO _) _ hBq).mono ?_
        rintro e w11 ⟨A1, c1, rfl, hr1, hG11⟩
        have hR1 := hG11.blk hRq (fun f => f)
        go_wp2_with fail
        refine (ids_r _ _ _ (ok_addS hO _) _ hR1).mono ?_
        rintro e w12 ⟨A2, c2, rfl, hr2, hG12⟩
        have hr1' := hr1.same hG12
        go_wp2_with fail
        refine (ints_same A1 A2 c1 c2 _ _ _ _ hr1' hr2 (ids8 _)).mono ?_
        rintro e w13 ⟨rfl, hG13⟩
        have hGr := (hG11.next hG12).next hG13
        have hBz := hGr.blk hBq (fun f => f)
        have hRz := hGr.blk hRq (fun f => f)
        have hGz := hGq.next hGr
        go_wp2
        go_roundw
        case rel => exact ⟨k + 1, _, _, by omega, by go_num, ok_addS hO _, all_addS hV ⟨_, rfl⟩, agree_add hA _, hBz, hRz, hGz⟩
        case measure => simp [intOf]; omega
      · go_wp2_with fail
        refine (get_f _ S hO hV id _ zB).mono ?_
        rintro e w8 ⟨rfl, hG8⟩
        go_wp2_with fail
        refine (rget_a _ S V hO hA id _ (hG8.blk zR (fun f => f))).mono ?_
        rintro e w9 ⟨rfl, hG9⟩
        have hBq := hG9.blk (hG8.blk zB (fun f => f)) (fun f => f)
        have hRq := hG9.blk (hG8.blk zR (fun f => f)) (fun f => f)
        have hGq : Same w w9 := (zG.next hG8).next hG9
        clear zB zR zG z0 z1 z2 z3 hG8 hG9
        go_wp2_with fail
        refine (ids_s _ _ (hO) _ hBq).mono ?_
        rintro e w11 ⟨A1, c1, rfl, hr1, hG11⟩
        have hR1 := hG11.blk hRq (fun f => f)
        go_wp2_with fail
        refine (ids_r _ _ _ (hO) _ hR1).mono ?_
        rintro e w12 ⟨A2, c2, rfl, hr2, hG12⟩
        have hr1' := hr1.same hG12
        go_wp2_with fail
        refine (ints_same A1 A2 c1 c2 _ _ _ _ hr1' hr2 (ids8 _)).mono ?_
        rintro e w13 ⟨rfl, hG13⟩
        have hGr := (hG11.next hG12).next hG13
        have hBz := hGr.blk hBq (fun f => f)
        have hRz := hGr.blk hRq (fun f => f)
        have hGz := hGq.next hGr
        go_wp2
        go_roundw
        case rel => exact ⟨k + 1, _, _, by omega, by go_num, hO, hV, hA, hBz, hRz, hGz⟩
        case measure => simp [intOf]; omega
      · go_wp2_with fail
        go_region_held3 (fun W => W.cell? ⟨wr.heap.size, 3, none⟩ = some (.int .i64 (V0 k))) (first | exact z3 | assumption) (first | (go_at_call 19; refine (set_f _ S hO hV id (V0 k) _ (by first | exact cB | exact zB)).mono ?_; rintro e wA ⟨rfl, hGA, hBA⟩; have aX := (hGA.cell (p := ⟨wr.heap.size, 3, none⟩) (by first | exact cz | exact zz) (fun h => by dsimp only at h; omega)).trans (by first | exact cX | exact z3); have aR := hGA.blk (by first | exact hRC | exact zR) (fun h => by omega); have az := Nat.lt_of_lt_of_le (by first | exact cz | exact zz) hGA.size) | (go_at_call 20; refine (rset _ S V hO id (V0 k) (.int .i64 (V0 k)) _ (by first | exact aR | exact zR)).mono ?_; rintro e wC ⟨rfl, hGC, hRC⟩; have cX := (hGC.cell (p := ⟨wr.heap.size, 3, none⟩) (by first | exact az | exact zz) (fun h => by dsimp only at h; omega)).trans (by first | exact aX | exact z3); have cB := hGC.blk (by first | exact hBA | exact zB) (fun h => by omega); have cz := Nat.lt_of_lt_of_le (by first | exact az | exact zz) hGC.size))
        have hBq := cB
        have hRq := hRC
        have hGq : Same w wC := (zG.trans hGA (fun j hj h => by omega)).trans hGC (fun j hj h => by omega)
        clear zB zR zG z0 z1 z2 z3 hGA hGC hBA hRC aX aR az cX cB cz
        go_wp2_with fail
        refine (ids_s _ _ (ok_setS' hO _ _) _ hBq).mono ?_
        rintro e w11 ⟨A1, c1, rfl, hr1, hG11⟩
        have hR1 := hG11.blk hRq (fun f => f)
        go_wp2_with fail
        refine (ids_r _ _ _ (ok_setS' hO _ _) _ hR1).mono ?_
        rintro e w12 ⟨A2, c2, rfl, hr2, hG12⟩
        have hr1' := hr1.same hG12
        go_wp2_with fail
        refine (ints_same A1 A2 c1 c2 _ _ _ _ hr1' hr2 (ids8 _)).mono ?_
        rintro e w13 ⟨rfl, hG13⟩
        have hGr := (hG11.next hG12).next hG13
        have hBz := hGr.blk hBq (fun f => f)
        have hRz := hGr.blk hRq (fun f => f)
        have hGz := hGq.next hGr
        go_wp2
        go_roundw
        case rel => exact ⟨k + 1, _, _, by omega, by go_num, ok_setS' hO _ _, all_setS' hV _ ⟨_, rfl⟩, agree_set hA _ _, hBz, hRz, hGz⟩
        case measure => simp [intOf]; omega
      · go_wp2_with fail
        refine (remove_f _ S hO hV id _ zB).mono ?_
        rintro e w8 ⟨rfl, hG8, hB8⟩
        go_wp2_with fail
        refine (rremove_a _ S V hO hA id _ (hG8.blk zR (by omega))).mono ?_
        rintro e w9 ⟨rfl, hG9, hR9⟩
        have hBq := hG9.blk hB8 (by omega)
        have hRq := hR9
        have hGq : Same w w9 := (zG.trans hG8 (fun j hj h => by omega)).trans hG9 (fun j hj h => by omega)
        clear zB zR zG z0 z1 z2 z3 hG8 hG9 hB8 hR9
        go_wp2_with fail
        refine (ids_s _ _ (ok_rmS hO _ _) _ hBq).mono ?_
        rintro e w11 ⟨A1, c1, rfl, hr1, hG11⟩
        have hR1 := hG11.blk hRq (fun f => f)
        go_wp2_with fail
        refine (ids_r _ _ _ (ok_rmS hO _ _) _ hR1).mono ?_
        rintro e w12 ⟨A2, c2, rfl, hr2, hG12⟩
        have hr1' := hr1.same hG12
        go_wp2_with fail
        refine (ints_same A1 A2 c1 c2 _ _ _ _ hr1' hr2 (ids8 _)).mono ?_
        rintro e w13 ⟨rfl, hG13⟩
        have hGr := (hG11.next hG12).next hG13
        have hBz := hGr.blk hBq (fun f => f)
        have hRz := hGr.blk hRq (fun f => f)
        have hGz := hGq.next hGr
        go_wp2
        go_roundw
        case rel => exact ⟨k + 1, _, _, by omega, by go_num, ok_rmS hO _ _, all_rmS hV _ ⟨_, rfl⟩, agree_rm hA _ _, hBz, hRz, hGz⟩
        case measure => simp [intOf]; omega
      · go_wp2_with fail
        refine (remove_f _ S hO hV id _ zB).mono ?_
        rintro e w8 ⟨rfl, hG8, hB8⟩
        go_wp2_with fail
        refine (rremove_a _ S V hO hA id _ (hG8.blk zR (by omega))).mono ?_
        rintro e w9 ⟨rfl, hG9, hR9⟩
        have hBq := hG9.blk hB8 (by omega)
        have hRq := hR9
        have hGq : Same w w9 := (zG.trans hG8 (fun j hj h => by omega)).trans hG9 (fun j hj h => by omega)
        clear zB zR zG z0 z1 z2 z3 hG8 hG9 hB8 hR9
        go_wp2_with fail
        refine (ids_s _ _ (ok_rmS hO _ _) _ hBq).mono ?_
        rintro e w11 ⟨A1, c1, rfl, hr1, hG11⟩
        have hR1 := hG11.blk hRq (fun f => f)
        go_wp2_with fail
        refine (ids_r _ _ _ (ok_rmS hO _ _) _ hR1).mono ?_
        rintro e w12 ⟨A2, c2, rfl, hr2, hG12⟩
        have hr1' := hr1.same hG12
        go_wp2_with fail
        refine (ints_same A1 A2 c1 c2 _ _ _ _ hr1' hr2 (ids8 _)).mono ?_
        rintro e w13 ⟨rfl, hG13⟩
        have hGr := (hG11.next hG12).next hG13
        have hBz := hGr.blk hBq (fun f => f)
        have hRz := hGr.blk hRq (fun f => f)
        have hGz := hGq.next hGr
        go_wp2
        go_roundw
        case rel => exact ⟨k + 1, _, _, by omega, by go_num, ok_rmS hO _ _, all_rmS hV _ ⟨_, rfl⟩, agree_rm hA _ _, hBz, hRz, hGz⟩
        case measure => simp [intOf]; omega
    · go_wp2
      all_goals (go_ret; exact ⟨rfl, hG.below⟩)
end Go.Proofs
