/- IpcModes. -/
import Derived.Test.YthijminlalddcaaDoorHC
set_option linter.unusedVariables false
set_option linter.unusedSimpArgs false
namespace Go.Proofs
open Go.RowKit Go.Shelf
attribute [local go_sem] Oper.semAt_some

theorem bits_range (u g pu pg pcu pcg m : Int) : 0 ≤ bitsOf u g pu pg pcu pcg m ∧ bitsOf u g pu pg pcu pcg m ≤ 7 := by
  unfold bitsOf
  split
  · rename_i h
    obtain ⟨h1, h2⟩ := permB_m h.2
    split
    · omega
    · split
      · omega
      · split <;> omega
  · omega
theorem ask_write : ∀ A : Fin 512, A.1 &&& 146 ≠ 0 → askN A.1 &&& 2 = 2 := by decide +kernel
theorem sub_write : ∀ b q : Fin 8, b.1 &&& q.1 = q.1 → q.1 &&& 2 = 2 → b.1 &&& 2 = 2 := by decide
theorem all_bits : ∀ q : Fin 8, 7 &&& q.1 = q.1 := by decide
theorem may_nat {α : Type} (t : Th α) (u g : Int) (A : Nat) (hA : A < 512) : ∃ b : Nat, b < 8 ∧ bitsOf u g t.u t.g t.cu t.cg t.m = b ∧ mayB t u g A = decide (b &&& askN A = askN A) := by
  obtain ⟨h0, h1⟩ := bits_range u g t.u t.g t.cu t.cg t.m
  obtain ⟨b, hb⟩ := Int.eq_ofNat_of_zero_le h0
  refine ⟨b, by omega, hb, ?_⟩
  unfold mayB
  rw [hb, show ((A : Int) % 512).toNat = A by omega, i64_and_nat b (askN A) (by omega) (by have := askN_lt A; omega)]
  by_cases h : b &&& askN A = askN A
  · rw [h, decide_eq_true rfl]; simp
  · rw [decide_eq_false h]
    have : ((b &&& askN A : Nat) : Int) ≠ ((askN A : Nat) : Int) := fun e => h (by exact_mod_cast e)
    simp [this]
theorem may_writes {α : Type} {t : Th α} {u g : Int} {A : Nat} (hA : A < 512) (h1 : areB [u, g] = true) (h2 : permB t.u t.g t.cu t.cg t.m = true) (hm : mayB t u g A = true) (hw : A &&& 146 ≠ 0) : allowedV u g t.u t.g t.cu t.cg t.m 2 = 0 := by
  obtain ⟨b, hb, he, hmb⟩ := may_nat t u g A hA
  rw [hm] at hmb
  have h3 : b &&& askN A = askN A := of_decide_eq_true hmb.symm
  have h4 := sub_write ⟨b, hb⟩ ⟨askN A, askN_lt A⟩ h3 (ask_write ⟨A, hA⟩ hw)
  unfold allowedV
  rw [if_pos ⟨.inl rfl, h1, h2⟩, he]
  have h5 := i64_and_nat b 2 (by omega) (by omega)
  rw [show ((2 : Nat) : Int) = 2 from rfl] at h5
  rw [h5, if_pos (by rw [show b &&& 2 = 2 from h4]; rfl)]
theorem may_root {α : Type} {t : Th α} {g : Int} {A : Nat} (hA : A < 512) (h1 : areB [0, g] = true) (h2 : permB t.u t.g t.cu t.cg t.m = true) : mayB t 0 g A = true := by
  obtain ⟨b, hb, he, hmb⟩ := may_nat t 0 g A hA
  have h7 : bitsOf 0 g t.u t.g t.cu t.cg t.m = 7 := by unfold bitsOf; rw [if_pos ⟨h1, h2⟩, if_pos rfl]
  obtain rfl : b = 7 := by omega
  rw [hmb]
  exact decide_eq_true (all_bits ⟨askN A, askN_lt A⟩)
set_option maxRecDepth 100000 in
set_option maxHeartbeats 8000000 in
theorem ipcModes_walk (cu cg du dg mode asked : Int) (w : World) (he : EtH w) : Calls Tryd.prog 4 #[.agg #[.int .i64 cu, .int .i64 cg], .agg #[.int .i64 du, .int .i64 dg], .int .i64 mode, .int .i64 asked] w fun e w' => e = .returned (.bool true) ∧ Below w.heap.size w w' := by
  have hc0 : Blk ((w.alloc (.cells #[.int .i64 cu, .int .i64 cg] 23)).alloc (.cells #[.int .i64 du, .int .i64 dg] 23)) w.heap.size 23 #[.int .i64 cu, .int .i64 cg] := (Blk.new _ _ _ _ rfl).alloc _
  have hd0 : Blk ((w.alloc (.cells #[.int .i64 cu, .int .i64 cg] 23)).alloc (.cells #[.int .i64 du, .int .i64 dg] 23)) (w.heap.size + 1) 23 #[.int .i64 du, .int .i64 dg] := Blk.new _ _ _ _ (by simp)
  have he0 := he.same (Gr.a2 w (.cells #[.int .i64 cu, .int .i64 cg] 23) (.cells #[.int .i64 du, .int .i64 dg] 23)) (fun f => f)
  by_cases hg : 0 ≤ mode ∧ mode ≤ 511 ∧ 0 ≤ asked ∧ asked ≤ 511
  · obtain ⟨hm0, hm1, ha0, ha1⟩ := hg
    obtain ⟨A, rfl⟩ := Int.eq_ofNat_of_zero_le ha0
    cases hr : areB [cu, cg]
    · have HG : Hid (gt St.zeroI cu cg 5 (512 + mode) 1 = ((0, false, 50), St.zeroI)) := Lib.hid (gt_cred hr)
      obtain ⟨i2, m2, f2, S2, hq⟩ : ∃ i2 m2 f2 S2, gt St.zeroI du dg 5 A 2 = ((i2, m2, f2), S2) := ⟨_, _, _, _, rfl⟩
      have HQ := Lib.hid hq
      clear hr hq
      go_enter Tryd.func4, Tryd.ntmps4
      go_wp2_with fail
      refine (shown_any _ he0).mono ?_; rintro e w1 ⟨rfl, hG1⟩
      go_wp2_with fail
      refine (nnew_anyI _ (he0.same hG1 (fun f => f))).mono ?_; rintro e w2 ⟨n, h, rfl, x2⟩
      have hcA := hG1.blk hc0 (fun f => f)
      have hdA := hG1.blk hd0 (fun f => f)
      have hcB := (x2.g).blk hcA (fun f => f)
      have hdB := (x2.g).blk hdA (fun f => f)
      have hlA := hdA.lt
      have hhh := x2.hh
      have hne : w.heap.size ≠ h := by omega
      have hne2 : w.heap.size + 1 ≠ h := by omega
      have y0 := hcB.cell 0
      have y1 := hcB.cell 1
      simp at y0 y1
      have yl := hcB.lt
      have z0 := hdB.cell 0
      have z1 := hdB.cell 1
      simp at z0 z1
      have zl := hdB.lt
      go_wp2_with fail
      refine (nget_eqI x2 cu cg 5 (512 + mode) 1 (by omega) 0 false 50 _ HG.out).mono ?_; rintro e w3 ⟨rfl, x3, hG3⟩
      clear y0 y1 yl
      clear z0 z1 zl
      have yB3 := hG3.blk hcB hne
      have zB3 := hG3.blk hdB hne2
      have y0 := yB3.cell 0
      have y1 := yB3.cell 1
      simp at y0 y1
      have yl := yB3.lt
      have z0 := zB3.cell 0
      have z1 := zB3.cell 1
      simp at z0 z1
      have zl := zB3.lt
      go_wp2_with fail
      refine (nget_eqI x3 du dg 5 A 2 (by omega) i2 m2 f2 S2 HQ.out).mono ?_; rintro e w4 ⟨rfl, x4, hG4⟩
      go_wp2
      go_ret
      exact ⟨by first | rfl | (simp; done) | (simp; omega), (((Gr.a2 _ _ _).next hG1).next x4.g).below⟩
    · obtain ⟨c1, c2⟩ := areB_in hr
      have hpm : permB cu cg cu cg mode = true := permB5 c1 c2 c1 c2 ⟨hm0, hm1⟩
      have HG : Hid (gt St.zeroI cu cg 5 (512 + mode) 1 = ((0, true, 0), one zthI 0 ⟨cu, cg, cu, cg, mode, 5, 1⟩ true)) := Lib.hid (by
        rw [zero_oneI, gt_made hr (by omega) (one_nmd0 _ _ _ _) (.inr (crB_made mode hm0 hm1)), one_addId, one_addE, one_add]
        unfold mkT
        rw [mod_made mode hm0 hm1]
        rfl)
      cases hrd : areB [du, dg]
      · have HQ : Hid (gt (one zthI 0 ⟨cu, cg, cu, cg, mode, 5, 1⟩ true) du dg 5 A 2 = ((0, false, 50), one zthI 0 ⟨cu, cg, cu, cg, mode, 5, 1⟩ true)) := Lib.hid (gt_cred hrd)
        clear hr hrd c1 c2 hpm
        go_enter Tryd.func4, Tryd.ntmps4
        go_wp2_with fail
        refine (shown_any _ he0).mono ?_; rintro e w1 ⟨rfl, hG1⟩
        go_wp2_with fail
        refine (nnew_anyI _ (he0.same hG1 (fun f => f))).mono ?_; rintro e w2 ⟨n, h, rfl, x2⟩
        have hcA := hG1.blk hc0 (fun f => f)
        have hdA := hG1.blk hd0 (fun f => f)
        have hcB := (x2.g).blk hcA (fun f => f)
        have hdB := (x2.g).blk hdA (fun f => f)
        have hlA := hdA.lt
        have hhh := x2.hh
        have hne : w.heap.size ≠ h := by omega
        have hne2 : w.heap.size + 1 ≠ h := by omega
        have y0 := hcB.cell 0
        have y1 := hcB.cell 1
        simp at y0 y1
        have yl := hcB.lt
        have z0 := hdB.cell 0
        have z1 := hdB.cell 1
        simp at z0 z1
        have zl := hdB.lt
        go_wp2_with fail
        refine (nget_eqI x2 cu cg 5 (512 + mode) 1 (by omega) 0 true 0 _ HG.out).mono ?_; rintro e w3 ⟨rfl, x3, hG3⟩
        clear y0 y1 yl
        clear z0 z1 zl
        have yB3 := hG3.blk hcB hne
        have zB3 := hG3.blk hdB hne2
        have y0 := yB3.cell 0
        have y1 := yB3.cell 1
        simp at y0 y1
        have yl := yB3.lt
        have z0 := zB3.cell 0
        have z1 := zB3.cell 1
        simp at z0 z1
        have zl := zB3.lt
        go_wp2_with fail
        refine (nget_eqI x3 du dg 5 A 2 (by omega) 0 false 50 _ HQ.out).mono ?_; rintro e w4 ⟨rfl, x4, hG4⟩
        clear y0 y1 yl
        clear z0 z1 zl
        have yB4 := hG4.blk yB3 hne
        have zB4 := hG4.blk zB3 hne2
        have y0 := yB4.cell 0
        have y1 := yB4.cell 1
        simp at y0 y1
        have yl := yB4.lt
        have z0 := zB4.cell 0
        have z1 := zB4.cell 1
        simp at z0 z1
        have zl := zB4.lt
        go_wp2
        go_ret
        exact ⟨by first | rfl | (simp; done) | (simp; omega), (((Gr.a2 _ _ _).next hG1).next x4.g).below⟩
      · have hgf := gt_found (S := one zthI 0 ⟨cu, cg, cu, cg, mode, 5, 1⟩ true) (cu := du) (cg := dg) (key := 5) (flags := A) (v := (2 : Int)) (i := 0) hrd (by omega) (one_nmd _ _ _ 5 (by decide) rfl) (by omega)
        have hth : (one zthI 0 ⟨cu, cg, cu, cg, mode, 5, 1⟩ true).th 0 = ⟨cu, cg, cu, cg, mode, 5, 1⟩ := rfl
        have hid0 : idOf (one zthI 0 ⟨cu, cg, cu, cg, mode, 5, 1⟩ true) 0 = 0 := rfl
        rw [hth, hid0] at hgf
        cases hmy : mayB (⟨cu, cg, cu, cg, mode, 5, 1⟩ : Th Int) du dg A
        · rw [hmy, if_neg (by simp)] at hgf
          have HQ := Lib.hid hgf
          have hdu : (du == 0) = false := by
            cases hdd : (du == 0)
            · rfl
            · have : du = 0 := by simpa using hdd
              subst this
              have := may_root (t := (⟨cu, cg, cu, cg, mode, 5, 1⟩ : Th Int)) (A := A) (by omega) hrd hpm
              rw [this] at hmy; cases hmy
          have hdu' : (du != 0) = true := by simpa using hdu
          clear hr hrd c1 c2 hpm hgf hmy hth hid0
          go_enter Tryd.func4, Tryd.ntmps4
          go_wp2_with fail
          refine (shown_any _ he0).mono ?_; rintro e w1 ⟨rfl, hG1⟩
          go_wp2_with fail
          refine (nnew_anyI _ (he0.same hG1 (fun f => f))).mono ?_; rintro e w2 ⟨n, h, rfl, x2⟩
          have hcA := hG1.blk hc0 (fun f => f)
          have hdA := hG1.blk hd0 (fun f => f)
          have hcB := (x2.g).blk hcA (fun f => f)
          have hdB := (x2.g).blk hdA (fun f => f)
          have hlA := hdA.lt
          have hhh := x2.hh
          have hne : w.heap.size ≠ h := by omega
          have hne2 : w.heap.size + 1 ≠ h := by omega
          have y0 := hcB.cell 0
          have y1 := hcB.cell 1
          simp at y0 y1
          have yl := hcB.lt
          have z0 := hdB.cell 0
          have z1 := hdB.cell 1
          simp at z0 z1
          have zl := hdB.lt
          go_wp2_with fail
          refine (nget_eqI x2 cu cg 5 (512 + mode) 1 (by omega) 0 true 0 _ HG.out).mono ?_; rintro e w3 ⟨rfl, x3, hG3⟩
          clear y0 y1 yl
          clear z0 z1 zl
          have yB3 := hG3.blk hcB hne
          have zB3 := hG3.blk hdB hne2
          have y0 := yB3.cell 0
          have y1 := yB3.cell 1
          simp at y0 y1
          have yl := yB3.lt
          have z0 := zB3.cell 0
          have z1 := zB3.cell 1
          simp at z0 z1
          have zl := zB3.lt
          go_wp2_with fail
          refine (nget_eqI x3 du dg 5 A 2 (by omega) 0 false 51 _ HQ.out).mono ?_; rintro e w4 ⟨rfl, x4, hG4⟩
          clear y0 y1 yl
          clear z0 z1 zl
          have yB4 := hG4.blk yB3 hne
          have zB4 := hG4.blk zB3 hne2
          have y0 := yB4.cell 0
          have y1 := yB4.cell 1
          simp at y0 y1
          have yl := yB4.lt
          have z0 := zB4.cell 0
          have z1 := zB4.cell 1
          simp at z0 z1
          have zl := zB4.lt
          go_wp2
          go_ret
          exact ⟨by first | rfl | (simp; done) | (simp; omega), (((Gr.a2 _ _ _).next hG1).next x4.g).below⟩
        · rw [hmy, if_pos rfl] at hgf
          have HQ := Lib.hid hgf
          have HF : Hid (fdEI ((one zthI 0 ⟨cu, cg, cu, cg, mode, 5, 1⟩ true).getT 0 zthI) ((one zthI 0 ⟨cu, cg, cu, cg, mode, 5, 1⟩ true).getE 0) du dg 0 = 0) := Lib.hid (by rw [one0E]; unfold fdEI; simp)
          have HFV : Hid (fdVI ((one zthI 0 ⟨cu, cg, cu, cg, mode, 5, 1⟩ true).getT 0 zthI) ((one zthI 0 ⟨cu, cg, cu, cg, mode, 5, 1⟩ true).getE 0) du dg 0 = 1) := Lib.hid (by unfold fdVI; rw [HF.out, one0T]; rfl)
          obtain ⟨f3, hf3⟩ : ∃ f3, fdEI ((one zthI 0 ⟨cu, cg, cu, cg, mode, 5, 1⟩ true).getT 0 zthI) ((one zthI 0 ⟨cu, cg, cu, cg, mode, 5, 1⟩ true).getE 0) du dg 2 = f3 := ⟨_, rfl⟩
          obtain ⟨v2, hv2⟩ : ∃ v2, fdVI ((one zthI 0 ⟨cu, cg, cu, cg, mode, 5, 1⟩ true).getT 0 zthI) ((one zthI 0 ⟨cu, cg, cu, cg, mode, 5, 1⟩ true).getE 0) du dg 2 = v2 := ⟨_, rfl⟩
          have HF2 := Lib.hid hf3
          have HFV2 := Lib.hid hv2
          have hand := i64_and_nat A 146 (by omega) (by omega)
          rw [show ((146 : Nat) : Int) = 146 from rfl] at hand
          by_cases hw : A &&& 146 = 0
          · have hq0 : (bits .and .i64 (A : Int) 146 == 0) = true := by rw [hand, hw]; rfl
            clear hr hrd c1 c2 hpm hgf hmy hth hid0 hf3 hv2 hand hw
            go_enter Tryd.func4, Tryd.ntmps4
            go_wp2_with fail
            refine (shown_any _ he0).mono ?_; rintro e w1 ⟨rfl, hG1⟩
            go_wp2_with fail
            refine (nnew_anyI _ (he0.same hG1 (fun f => f))).mono ?_; rintro e w2 ⟨n, h, rfl, x2⟩
            have hcA := hG1.blk hc0 (fun f => f)
            have hdA := hG1.blk hd0 (fun f => f)
            have hcB := (x2.g).blk hcA (fun f => f)
            have hdB := (x2.g).blk hdA (fun f => f)
            have hlA := hdA.lt
            have hhh := x2.hh
            have hne : w.heap.size ≠ h := by omega
            have hne2 : w.heap.size + 1 ≠ h := by omega
            have y0 := hcB.cell 0
            have y1 := hcB.cell 1
            simp at y0 y1
            have yl := hcB.lt
            have z0 := hdB.cell 0
            have z1 := hdB.cell 1
            simp at z0 z1
            have zl := hdB.lt
            go_wp2_with fail
            refine (nget_eqI x2 cu cg 5 (512 + mode) 1 (by omega) 0 true 0 _ HG.out).mono ?_; rintro e w3 ⟨rfl, x3, hG3⟩
            clear y0 y1 yl
            clear z0 z1 zl
            have yB3 := hG3.blk hcB hne
            have zB3 := hG3.blk hdB hne2
            have y0 := yB3.cell 0
            have y1 := yB3.cell 1
            simp at y0 y1
            have yl := yB3.lt
            have z0 := zB3.cell 0
            have z1 := zB3.cell 1
            simp at z0 z1
            have zl := zB3.lt
            go_wp2_with fail
            refine (nget_eqI x3 du dg 5 A 2 (by omega) 0 false 0 _ HQ.out).mono ?_; rintro e w4 ⟨rfl, x4, hG4⟩
            clear y0 y1 yl
            clear z0 z1 zl
            have yB4 := hG4.blk yB3 hne
            have zB4 := hG4.blk zB3 hne2
            have y0 := yB4.cell 0
            have y1 := yB4.cell 1
            simp at y0 y1
            have yl := yB4.lt
            have z0 := zB4.cell 0
            have z1 := zB4.cell 1
            simp at z0 z1
            have zl := zB4.lt
            go_wp2_with fail
            refine (nfind_atI x4 0 du dg 0 1 0 HF.out HFV.out).mono ?_; rintro e w5 ⟨rfl, x5, hG5⟩
            clear y0 y1 yl
            clear z0 z1 zl
            have yB5 := hG5.blk yB4 hne
            have zB5 := hG5.blk zB4 hne2
            have y0 := yB5.cell 0
            have y1 := yB5.cell 1
            simp at y0 y1
            have yl := yB5.lt
            have z0 := zB5.cell 0
            have z1 := zB5.cell 1
            simp at z0 z1
            have zl := zB5.lt
            go_wp2_with fail
            refine (nfind_atI x5 0 du dg 2 v2 f3 HF2.out HFV2.out).mono ?_; rintro e w6 ⟨rfl, x6, hG6⟩
            go_wp2
            go_ret
            exact ⟨by first | rfl | (simp; done) | (simp; omega), (((Gr.a2 _ _ _).next hG1).next x6.g).below⟩
          · have hq0 : (bits .and .i64 (A : Int) 146 == 0) = false := by rw [hand]; simp; exact hw
            have hf0 : f3 = 0 := by
              rw [← hf3, one0T, one0E]
              unfold fdEI
              rw [if_neg (by simp), if_neg (by decide)]
              exact may_writes (t := (⟨cu, cg, cu, cg, mode, 5, 1⟩ : Th Int)) (by omega) hrd hpm hmy hw
            subst hf0
            clear hr hrd c1 c2 hpm hgf hmy hth hid0 hf3 hv2 hand hw
            go_enter Tryd.func4, Tryd.ntmps4
            go_wp2_with fail
            refine (shown_any _ he0).mono ?_; rintro e w1 ⟨rfl, hG1⟩
            go_wp2_with fail
            refine (nnew_anyI _ (he0.same hG1 (fun f => f))).mono ?_; rintro e w2 ⟨n, h, rfl, x2⟩
            have hcA := hG1.blk hc0 (fun f => f)
            have hdA := hG1.blk hd0 (fun f => f)
            have hcB := (x2.g).blk hcA (fun f => f)
            have hdB := (x2.g).blk hdA (fun f => f)
            have hlA := hdA.lt
            have hhh := x2.hh
            have hne : w.heap.size ≠ h := by omega
            have hne2 : w.heap.size + 1 ≠ h := by omega
            have y0 := hcB.cell 0
            have y1 := hcB.cell 1
            simp at y0 y1
            have yl := hcB.lt
            have z0 := hdB.cell 0
            have z1 := hdB.cell 1
            simp at z0 z1
            have zl := hdB.lt
            go_wp2_with fail
            refine (nget_eqI x2 cu cg 5 (512 + mode) 1 (by omega) 0 true 0 _ HG.out).mono ?_; rintro e w3 ⟨rfl, x3, hG3⟩
            clear y0 y1 yl
            clear z0 z1 zl
            have yB3 := hG3.blk hcB hne
            have zB3 := hG3.blk hdB hne2
            have y0 := yB3.cell 0
            have y1 := yB3.cell 1
            simp at y0 y1
            have yl := yB3.lt
            have z0 := zB3.cell 0
            have z1 := zB3.cell 1
            simp at z0 z1
            have zl := zB3.lt
            go_wp2_with fail
            refine (nget_eqI x3 du dg 5 A 2 (by omega) 0 false 0 _ HQ.out).mono ?_; rintro e w4 ⟨rfl, x4, hG4⟩
            clear y0 y1 yl
            clear z0 z1 zl
            have yB4 := hG4.blk yB3 hne
            have zB4 := hG4.blk zB3 hne2
            have y0 := yB4.cell 0
            have y1 := yB4.cell 1
            simp at y0 y1
            have yl := yB4.lt
            have z0 := zB4.cell 0
            have z1 := zB4.cell 1
            simp at z0 z1
            have zl := zB4.lt
            go_wp2_with fail
            refine (nfind_atI x4 0 du dg 0 1 0 HF.out HFV.out).mono ?_; rintro e w5 ⟨rfl, x5, hG5⟩
            clear y0 y1 yl
            clear z0 z1 zl
            have yB5 := hG5.blk yB4 hne
            have zB5 := hG5.blk zB4 hne2
            have y0 := yB5.cell 0
            have y1 := yB5.cell 1
            simp at y0 y1
            have yl := yB5.lt
            have z0 := zB5.cell 0
            have z1 := zB5.cell 1
            simp at z0 z1
            have zl := zB5.lt
            go_wp2_with fail
            refine (nfind_atI x5 0 du dg 2 v2 0 HF2.out HFV2.out).mono ?_; rintro e w6 ⟨rfl, x6, hG6⟩
            go_wp2
            go_ret
            exact ⟨by first | rfl | (simp; done) | (simp; omega), (((Gr.a2 _ _ _).next hG1).next x6.g).below⟩
  · rcases (show mode < 0 ∨ (0 ≤ mode ∧ 511 < mode) ∨ (0 ≤ mode ∧ mode ≤ 511 ∧ asked < 0) ∨ (0 ≤ mode ∧ mode ≤ 511 ∧ 0 ≤ asked ∧ 511 < asked) by omega) with h | ⟨h1, h⟩ | ⟨h1, h2, h⟩ | ⟨h1, h2, h3, h⟩
    all_goals
      clear hg
      go_enter Tryd.func4, Tryd.ntmps4
      go_wp2_with fail
      refine (shown_any _ he0).mono ?_; rintro e w1 ⟨rfl, hG1⟩
      go_wp2
      go_ret
      exact ⟨rfl, ((Gr.a2 _ _ _).next hG1).below⟩
end Go.Proofs
