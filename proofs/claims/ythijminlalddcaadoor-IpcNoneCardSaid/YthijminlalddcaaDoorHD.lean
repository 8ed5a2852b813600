/- IpcGone, IpcNone. -/
import Derived.Test.YthijminlalddcaaDoorHC
set_option linter.unusedVariables false
set_option linter.unusedSimpArgs false
namespace Go.Proofs
open Go.RowKit Go.Shelf
attribute [local go_sem] Oper.semAt_some

theorem owns_self {cu cg m : Int} (h : areB [cu, cg] = true) (hm : 0 ≤ m ∧ m ≤ 511) : ownsB cu cg cu cg cu cg m = true := by
  obtain ⟨h1, h2⟩ := areB_in h
  unfold ownsB
  rw [h, permB5 h1 h2 h1 h2 hm]
  simp
set_option maxRecDepth 100000 in
set_option maxHeartbeats 4000000 in
theorem ipcGone_walk (cu cg key mode : Int) (w : World) (he : EtH w) : Calls Tryd.prog 3 #[.agg #[.int .i64 cu, .int .i64 cg], .int .i64 key, .int .i64 mode] w fun e w' => e = .returned (.bool true) ∧ Below w.heap.size w w' := by
  have hb0 : Blk (w.alloc (.cells #[.int .i64 cu, .int .i64 cg] 23)) w.heap.size 23 #[.int .i64 cu, .int .i64 cg] := Blk.new _ _ _ _ rfl
  have he0 := he.same (Gr.a1 w (.cells #[.int .i64 cu, .int .i64 cg] 23)) (fun f => f)
  by_cases hg : key ≠ 0 ∧ 0 ≤ mode ∧ mode ≤ 511
  · obtain ⟨hk, hm0, hm1⟩ := hg
    have hk' : (key == 0) = false := by simp [hk]
    cases hr : areB [cu, cg]
    · have HG : Hid (gt St.zeroS cu cg key (512 + mode) vS = ((0, false, 50), St.zeroS)) := Lib.hid (gt_cred hr)
      clear hr hk
      go_enter Tryd.func3, Tryd.ntmps3
      go_wp2_with fail
      refine (shown_any _ he0).mono ?_; rintro e w1 ⟨rfl, hG1⟩
      go_wp2_with fail
      refine (nnew_anyS _ (he0.same hG1 (fun f => f))).mono ?_; rintro e w2 ⟨n, h, rfl, x2⟩
      have hbA := hG1.blk hb0 (fun f => f)
      have hbB := (x2.g).blk hbA (fun f => f)
      have hlA := hbA.lt
      have hhh := x2.hh
      have hne : w.heap.size ≠ h := by omega
      have y0 := hbB.cell 0
      have y1 := hbB.cell 1
      simp at y0 y1
      have yl := hbB.lt
      go_wp2_with fail
      refine (nget_eqS x2 cu cg key (512 + mode) vS (by omega) 0 false 50 _ HG.out).mono ?_; rintro e w3 ⟨rfl, x3, hG3⟩
      go_wp2
      go_ret
      exact ⟨by first | rfl | (simp; done), (((Gr.a1 _ _).next hG1).next x3.g).below⟩
    · have HG : Hid (gt St.zeroS cu cg key (512 + mode) vS = ((0, true, 0), one zthS 0 ⟨cu, cg, cu, cg, mode, key, vS⟩ true)) := Lib.hid (by
        rw [zero_oneS, gt_made hr (by omega) (one_nmd0 _ _ _ _) (.inr (crB_made mode hm0 hm1)), one_addId, one_addE, one_add]
        unfold mkT
        rw [mod_made mode hm0 hm1]
        rfl)
      have hrm : rmES ((one zthS 0 ⟨cu, cg, cu, cg, mode, key, vS⟩ true).getT 0 zthS) ((one zthS 0 ⟨cu, cg, cu, cg, mode, key, vS⟩ true).getE 0) cu cg = 0 := by rw [one0T, one0E]; unfold rmES; dsimp only; rw [if_neg (by simp), if_pos (owns_self hr ⟨hm0, hm1⟩)]
      have HR := Lib.hid hrm
      have HV : Hid (rmVS ((one zthS 0 ⟨cu, cg, cu, cg, mode, key, vS⟩ true).getT 0 zthS) ((one zthS 0 ⟨cu, cg, cu, cg, mode, key, vS⟩ true).getE 0) cu cg = vS) := Lib.hid (by unfold rmVS; rw [hrm, one0T]; rfl)
      have HS : Hid ((if (0 : Int) = 0 then (one zthS 0 ⟨cu, cg, cu, cg, mode, key, vS⟩ true).rmI 0 zthS else (one zthS 0 ⟨cu, cg, cu, cg, mode, key, vS⟩ true)) = one zthS 1 zthS false) := Lib.hid (by rw [if_pos rfl, one0R])
      have hfe : fdES ((one zthS 1 zthS false).getT 0 zthS) ((one zthS 1 zthS false).getE 0) cu cg 0 = 100 := by rw [one_getE0]; unfold fdES; rw [if_pos (by decide)]
      have HF := Lib.hid hfe
      have HFV : Hid (fdVS ((one zthS 1 zthS false).getT 0 zthS) ((one zthS 1 zthS false).getE 0) cu cg 0 = ByteArray.empty) := Lib.hid (by unfold fdVS; rw [hfe]; rfl)
      have HG2 : Hid (gt (one zthS 1 zthS false) cu cg key 0 wS = ((0, false, 110), one zthS 1 zthS false)) := Lib.hid (gt_absent hr (by omega) (one_nmd0 _ _ _ _) (fun h => by rcases h with h | h; exact hk h; exact absurd h (by decide)))
      have HG3 : Hid (gt (one zthS 1 zthS false) cu cg key 512 wS = ((8, true, 0), one zthS 1 (mkT cu cg key 512 wS) true)) := Lib.hid (by
        rw [gt_made hr (by omega) (one_nmd0 _ _ _ _) (.inr (by decide)), one_addId, one_addE, one_add]
        rfl)
      clear hr hk hrm hfe
      have hvS : vS.toList = [118] := by decide +kernel
      go_enter Tryd.func3, Tryd.ntmps3
      go_wp2_with fail
      refine (shown_any _ he0).mono ?_; rintro e w1 ⟨rfl, hG1⟩
      go_wp2_with fail
      refine (nnew_anyS _ (he0.same hG1 (fun f => f))).mono ?_; rintro e w2 ⟨n, h, rfl, x2⟩
      have hbA := hG1.blk hb0 (fun f => f)
      have hbB := (x2.g).blk hbA (fun f => f)
      have hlA := hbA.lt
      have hhh := x2.hh
      have hne : w.heap.size ≠ h := by omega
      have y0 := hbB.cell 0
      have y1 := hbB.cell 1
      simp at y0 y1
      have yl := hbB.lt
      go_wp2_with fail
      refine (nget_eqS x2 cu cg key (512 + mode) vS (by omega) 0 true 0 _ HG.out).mono ?_; rintro e w3 ⟨rfl, x3, hG3⟩
      clear y0 y1 yl
      have yB3 := hG3.blk hbB hne
      have y0 := yB3.cell 0
      have y1 := yB3.cell 1
      simp at y0 y1
      have yl := yB3.lt
      go_wp2_with fail
      refine (nremove_atS x3 0 cu cg vS 0 _ HR.out HV.out HS.out).mono ?_; rintro e w4 ⟨rfl, x4, hG4⟩
      clear y0 y1 yl
      have yB4 := hG4.blk yB3 hne
      have y0 := yB4.cell 0
      have y1 := yB4.cell 1
      simp at y0 y1
      have yl := yB4.lt
      go_wp2_with fail
      refine (nfind_atS x4 0 cu cg 0 ByteArray.empty 100 HF.out HFV.out).mono ?_; rintro e w5 ⟨rfl, x5, hG5⟩
      clear y0 y1 yl
      have yB5 := hG5.blk yB4 hne
      have y0 := yB5.cell 0
      have y1 := yB5.cell 1
      simp at y0 y1
      have yl := yB5.lt
      go_wp2_with fail
      refine (nget_eqS x5 cu cg key 0 wS (by omega) 0 false 110 _ HG2.out).mono ?_; rintro e w6 ⟨rfl, x6, hG6⟩
      clear y0 y1 yl
      have yB6 := hG6.blk yB5 hne
      have y0 := yB6.cell 0
      have y1 := yB6.cell 1
      simp at y0 y1
      have yl := yB6.lt
      go_wp2_with fail
      refine (nget_eqS x6 cu cg key 512 wS (by omega) 8 true 0 _ HG3.out).mono ?_; rintro e w7 ⟨rfl, x7, hG7⟩
      go_wp2
      go_ret
      exact ⟨by first | rfl | (simp [vS]; done), (((Gr.a1 _ _).next hG1).next x7.g).below⟩
  · rcases (show key = 0 ∨ (key ≠ 0 ∧ mode < 0) ∨ (key ≠ 0 ∧ 0 ≤ mode ∧ 511 < mode) by omega) with h | ⟨h1, h⟩ | ⟨h1, h2, h⟩
    all_goals
      clear hg
      first
        | (have hk' : (key == 0) = false := by simp [h1])
        | (have hk' : (key == 0) = true := by simp [h])
      first | clear h1 | clear h
      go_enter Tryd.func3, Tryd.ntmps3
      go_wp2_with fail
      refine (shown_any _ he0).mono ?_; rintro e w1 ⟨rfl, hG1⟩
      go_wp2
      go_ret
      exact ⟨rfl, ((Gr.a1 _ _).next hG1).below⟩

theorem nFind_nil (id cu cg want : Int) (w : World) (he : EtH w) : Calls Tryd.prog 16 #[.pointer none, .agg #[.int .i64 cu, .int .i64 cg], .int .i64 id, .int .i64 want] w fun e w' => e = .returned (.tuple #[.int .i64 0, .int .i64 1]) ∧ Same w w' := by
  have hf := nFind_coreI (.pointer none) zthI 1 id cu cg want w (fun W _ => nfind_nilI id W) he
  rw [show fdVI zthI 1 cu cg want = 0 by unfold fdVI fdEI; simp, show fdEI zthI 1 cu cg want = 1 by unfold fdEI; simp] at hf
  exact hf
theorem nPerm_nil (id : Int) (w : World) (he : EtH w) : Calls Tryd.prog 21 #[.pointer none, .int .i64 id] w fun e w' => e = .returned (.tuple #[.agg #[.int .i64 0, .int .i64 0, .int .i64 0, .int .i64 0, .int .i64 0], .int .i64 1]) ∧ Same w w' := by
  have hf := nPerm_core (.pointer none) zthI 1 id w (fun W _ => nfind_nilI id W) he
  exact hf
theorem nRemove_nil (id cu cg : Int) (w : World) (he : EtH w) : Calls Tryd.prog 17 #[.pointer none, .agg #[.int .i64 cu, .int .i64 cg], .int .i64 id] w fun e w' => e = .returned (.tuple #[.int .i64 0, .int .i64 1]) ∧ Same w w' := by
  have h1 : rmEI zthI 1 cu cg = 1 := by unfold rmEI; simp
  have hf := nRemove_noI (.pointer none) zthI 1 id cu cg (by rw [h1]; decide) w (fun W _ => nfind_nilI id W) he
  rw [h1] at hf
  exact hf
theorem nPut_nil (id v : Int) (w : World) (he : EtH w) : Calls Tryd.prog 23 #[.pointer none, .int .i64 id, .int .i64 v] w fun e w' => e = .returned (.int .i64 1) ∧ Same w w' :=
  nPut_no (.pointer none) zthI 1 id v (by decide) w (fun W _ => nfind_nilI id W) he
theorem nSet_nil (id cu cg uid gid mode : Int) (w : World) (he : EtH w) : Calls Tryd.prog 20 #[.pointer none, .agg #[.int .i64 cu, .int .i64 cg], .int .i64 id, .int .i64 uid, .int .i64 gid, .int .i64 mode] w fun e w' => e = .returned (.int .i64 1) ∧ Same w w' :=
  nSet_no (.pointer none) zthI 1 id cu cg uid gid mode (by decide) w (fun W _ => nfind_nilI id W) he
set_option maxRecDepth 100000 in
set_option maxHeartbeats 4000000 in
theorem ipcNone_walk (d cu cg key : Int) (pl : Bool) (fl v p0 p1 p2 p3 p4 : Int) (w : World) (he : EtH w) : Calls Tryd.prog 8 #[.agg #[.int .i64 d, .int .i64 cu, .int .i64 cg, .int .i64 key, .bool pl, .int .i64 fl, .int .i64 v, .int .i64 p0, .int .i64 p1, .int .i64 p2, .int .i64 p3, .int .i64 p4]] w fun e w' => e = .returned (.bool true) ∧ Below w.heap.size w w' := by
  have hb0 : Blk (w.alloc (.cells #[.int .i64 d, .int .i64 cu, .int .i64 cg, .int .i64 key, .bool pl, .int .i64 fl, .int .i64 v, .int .i64 p0, .int .i64 p1, .int .i64 p2, .int .i64 p3, .int .i64 p4] 44)) w.heap.size 44 #[.int .i64 d, .int .i64 cu, .int .i64 cg, .int .i64 key, .bool pl, .int .i64 fl, .int .i64 v, .int .i64 p0, .int .i64 p1, .int .i64 p2, .int .i64 p3, .int .i64 p4] := Blk.new _ _ _ _ rfl
  have he0 := he.same (Gr.a1 w (.cells #[.int .i64 d, .int .i64 cu, .int .i64 cg, .int .i64 key, .bool pl, .int .i64 fl, .int .i64 v, .int .i64 p0, .int .i64 p1, .int .i64 p2, .int .i64 p3, .int .i64 p4] 44)) (fun f => f)
  go_enter Tryd.func8, Tryd.ntmps8
  go_wp2_with fail
  refine (shown_any _ he0).mono ?_; rintro e w1 ⟨rfl, hG1⟩
  have yB1 := hG1.blk hb0 (fun f => f)
  have hGa := (Gr.a1 w (.cells #[.int .i64 d, .int .i64 cu, .int .i64 cg, .int .i64 key, .bool pl, .int .i64 fl, .int .i64 v, .int .i64 p0, .int .i64 p1, .int .i64 p2, .int .i64 p3, .int .i64 p4] 44)).next hG1
  have heA := he0.same hG1 (fun f => f)
  have y0 := yB1.cell 0
  have y1 := yB1.cell 1
  have y2 := yB1.cell 2
  have y3 := yB1.cell 3
  have y4 := yB1.cell 4
  have y5 := yB1.cell 5
  have y6 := yB1.cell 6
  have y7 := yB1.cell 7
  have y8 := yB1.cell 8
  have y9 := yB1.cell 9
  have y10 := yB1.cell 10
  have y11 := yB1.cell 11
  simp at y0 y1 y2 y3 y4 y5 y6 y7 y8 y9 y10 y11
  have yl := yB1.lt
  go_wp2_with fail
  refine (nGet_nilI cu cg key fl v _).mono ?_; rintro e w2 ⟨rfl, hG2⟩
  clear y0 y1 y2 y3 y4 y5 y6 y7 y8 y9 y10 y11 yl
  have yB2 := hG2.blk yB1 (fun f => f)
  have hGb := hGa.next hG2
  have heB := heA.same hG2 (fun f => f)
  have y0 := yB2.cell 0
  have y1 := yB2.cell 1
  have y2 := yB2.cell 2
  have y3 := yB2.cell 3
  have y4 := yB2.cell 4
  have y5 := yB2.cell 5
  have y6 := yB2.cell 6
  have y7 := yB2.cell 7
  have y8 := yB2.cell 8
  have y9 := yB2.cell 9
  have y10 := yB2.cell 10
  have y11 := yB2.cell 11
  simp at y0 y1 y2 y3 y4 y5 y6 y7 y8 y9 y10 y11
  have yl := yB2.lt
  go_wp2_with fail
  refine (nFind_nil key cu cg fl _ heB).mono ?_; rintro e w3 ⟨rfl, hG3⟩
  clear y0 y1 y2 y3 y4 y5 y6 y7 y8 y9 y10 y11 yl
  have yB3 := hG3.blk yB2 (fun f => f)
  have hGc := hGb.next hG3
  have heC := heB.same hG3 (fun f => f)
  have y0 := yB3.cell 0
  have y1 := yB3.cell 1
  have y2 := yB3.cell 2
  have y3 := yB3.cell 3
  have y4 := yB3.cell 4
  have y5 := yB3.cell 5
  have y6 := yB3.cell 6
  have y7 := yB3.cell 7
  have y8 := yB3.cell 8
  have y9 := yB3.cell 9
  have y10 := yB3.cell 10
  have y11 := yB3.cell 11
  simp at y0 y1 y2 y3 y4 y5 y6 y7 y8 y9 y10 y11
  have yl := yB3.lt
  go_wp2_with fail
  refine (nPerm_nil key _ heC).mono ?_; rintro e w4 ⟨rfl, hG4⟩
  have hG4a := hG4.alloc (.cells #[.int .i64 0, .int .i64 0, .int .i64 0, .int .i64 0, .int .i64 0] 42)
  clear y0 y1 y2 y3 y4 y5 y6 y7 y8 y9 y10 y11 yl
  have yB4 := hG4a.blk yB3 (fun f => f)
  have hGd := hGc.next hG4a
  have heD := heC.same hG4a (fun f => f)
  have y0 := yB4.cell 0
  have y1 := yB4.cell 1
  have y2 := yB4.cell 2
  have y3 := yB4.cell 3
  have y4 := yB4.cell 4
  have y5 := yB4.cell 5
  have y6 := yB4.cell 6
  have y7 := yB4.cell 7
  have y8 := yB4.cell 8
  have y9 := yB4.cell 9
  have y10 := yB4.cell 10
  have y11 := yB4.cell 11
  simp at y0 y1 y2 y3 y4 y5 y6 y7 y8 y9 y10 y11
  have yl := yB4.lt
  go_wp2_with fail
  refine (nRemove_nil key cu cg _ heD).mono ?_; rintro e w5 ⟨rfl, hG5⟩
  clear y0 y1 y2 y3 y4 y5 y6 y7 y8 y9 y10 y11 yl
  have yB5 := hG5.blk yB4 (fun f => f)
  have hGe := hGd.next hG5
  have heE := heD.same hG5 (fun f => f)
  have y0 := yB5.cell 0
  have y1 := yB5.cell 1
  have y2 := yB5.cell 2
  have y3 := yB5.cell 3
  have y4 := yB5.cell 4
  have y5 := yB5.cell 5
  have y6 := yB5.cell 6
  have y7 := yB5.cell 7
  have y8 := yB5.cell 8
  have y9 := yB5.cell 9
  have y10 := yB5.cell 10
  have y11 := yB5.cell 11
  simp at y0 y1 y2 y3 y4 y5 y6 y7 y8 y9 y10 y11
  have yl := yB5.lt
  go_wp2_with fail
  refine (nPut_nil key v _ heE).mono ?_; rintro e w6 ⟨rfl, hG6⟩
  clear y0 y1 y2 y3 y4 y5 y6 y7 y8 y9 y10 y11 yl
  have yB6 := hG6.blk yB5 (fun f => f)
  have hGf := hGe.next hG6
  have heF := heE.same hG6 (fun f => f)
  have y0 := yB6.cell 0
  have y1 := yB6.cell 1
  have y2 := yB6.cell 2
  have y3 := yB6.cell 3
  have y4 := yB6.cell 4
  have y5 := yB6.cell 5
  have y6 := yB6.cell 6
  have y7 := yB6.cell 7
  have y8 := yB6.cell 8
  have y9 := yB6.cell 9
  have y10 := yB6.cell 10
  have y11 := yB6.cell 11
  simp at y0 y1 y2 y3 y4 y5 y6 y7 y8 y9 y10 y11
  have yl := yB6.lt
  go_wp2_with fail
  refine (nSet_nil key cu cg 0 0 0 _ heF).mono ?_; rintro e w7 ⟨rfl, hG7⟩
  have hGg := hGf.next hG7
  go_wp2_with fail
  refine (nIds_nil _).mono ?_; rintro e w8 ⟨rfl, rfl⟩
  go_wp2
  go_ret
  exact ⟨by first | rfl | (simp; done), hGg.below⟩
end Go.Proofs
