/- Waits; SemWaits. -/
import Derived.Test.YtgecoiaidmndkaaDoorU
import Derived.Deep.RegionHeld3
set_option linter.unusedVariables false
set_option linter.unusedSimpArgs false
namespace Go.Proofs
open Go.RowKit Go.Shelf
attribute [local go_sem] Oper.semAt_some
variable {aR aA aW : Addr}

theorem Ints.drew {w : World} {A : Option Addr} {xs : List Int} (h : Ints w A xs) : Ints w.drew A xs := h.same ((Gr.refl _ _).drew)
def waitsB (ys : List Int) (num d : Int) : Bool := rightB ys && inB ys.length num && mw (ys[num.toNat]?.getD 0) d

set_option maxRecDepth 100000 in
set_option maxHeartbeats 2000000 in
theorem waits_any (ys : List Int) (A : Option Addr) (q c : Nat) (num d fl : Int) (w : World) (hq : ys.length = q) (hq12 : q ≤ 12) (hI : Ints w A ys) :
    Calls Tryd.prog 17 #[.slice A q c, .agg #[.int .i64 num, .int .i64 d, .int .i64 fl]] w fun e w' => e = .returned (.bool (waitsB ys num d)) ∧ Same w w' := by
  have HQ := Lib.hid hq
  have hI0 := hI
  cases hr : rightB ys
  · have HW : Hid (waitsB ys num d = false) := Lib.hid (by unfold waitsB; rw [hr]; rfl)
    have HR : ∀ W, Ints W A ys → Calls Tryd.prog 15 #[.slice A q c] W fun e w' => e = .returned (.bool false) ∧ W = w' := fun W h => by
      have := right_any ys A q c W HQ.out (by unfold maxLen; omega) h
      rwa [hr] at this
    rw [HW.out]
    clear hq hr hI
    go_enter Tryd.func17, Tryd.ntmps17
    go_wp2
    have hb : Blk (w.alloc (.cells #[.int .i64 num, .int .i64 d, .int .i64 fl] 32)) w.heap.size 32 #[.int .i64 num, .int .i64 d, .int .i64 fl] := Blk.new _ _ _ _ rfl
    have y0 := hb.cell 0
    have y1 := hb.cell 1
    have y2 := hb.cell 2
    have yI := Lib.hid (hI0.same (Gr.a1 w (.cells #[.int .i64 num, .int .i64 d, .int .i64 fl] 32)))
    have yG := Gr.a1 w (.cells #[.int .i64 num, .int .i64 d, .int .i64 fl] 32)
    generalize w.alloc (.cells #[.int .i64 num, .int .i64 d, .int .i64 fl] 32) = W1 at *
    simp at y0 y1 y2
    clear hb
    go_quiet (((go_at_call 15; exact Calls.quiet_of_same ((HR _ (yI.out.same ((Gr.refl _ _).drewN _))).mono (fun _ _ h => ⟨h.1, h.2.symm⟩)))))
    go_wp2
    go_ret
    exact ⟨rfl, yG.drewN _⟩
  · have HR : ∀ W, Ints W A ys → Calls Tryd.prog 15 #[.slice A q c] W fun e w' => e = .returned (.bool true) ∧ W = w' := fun W h => by
      have := right_any ys A q c W HQ.out (by unfold maxLen; omega) h
      rwa [hr] at this
    cases hi : inB q num
    · have HW : Hid (waitsB ys num d = false) := Lib.hid (by unfold waitsB; rw [hr, hq, hi]; rfl)
      have HI : ∀ W, Calls Tryd.prog 25 #[.slice A q c, .int .i64 num] W fun e w' => e = .returned (.bool false) ∧ W = w' := fun W => by
        have := isIn_any A q c num W (by unfold maxLen; omega)
        rwa [hi] at this
      rw [HW.out]
      clear hq hr hI hi
      go_enter Tryd.func17, Tryd.ntmps17
      go_wp2
      have hb : Blk (w.alloc (.cells #[.int .i64 num, .int .i64 d, .int .i64 fl] 32)) w.heap.size 32 #[.int .i64 num, .int .i64 d, .int .i64 fl] := Blk.new _ _ _ _ rfl
      have y0 := hb.cell 0
      have y1 := hb.cell 1
      have y2 := hb.cell 2
      have yI := Lib.hid (hI0.same (Gr.a1 w (.cells #[.int .i64 num, .int .i64 d, .int .i64 fl] 32)))
      have yG := Gr.a1 w (.cells #[.int .i64 num, .int .i64 d, .int .i64 fl] 32)
      generalize w.alloc (.cells #[.int .i64 num, .int .i64 d, .int .i64 fl] 32) = W1 at *
      simp at y0 y1 y2
      clear hb
      go_quiet ((first | (go_at_call 15; exact Calls.quiet_of_same ((HR _ (yI.out.same ((Gr.refl _ _).drewN _))).mono (fun _ _ h => ⟨h.1, h.2.symm⟩))) | (go_at_call 25; exact Calls.quiet_of_same ((HI _).mono (fun _ _ h => ⟨h.1, h.2.symm⟩)))))
      go_wp2
      go_ret
      exact ⟨rfl, yG.drewN _⟩
    · have hin : 0 ≤ num ∧ num < q := by have h := hi; unfold inB at h; simpa using h
      obtain ⟨j, rfl⟩ : ∃ j : Nat, num = j := ⟨num.toNat, by omega⟩
      obtain ⟨r1, r2, r3⟩ := right_parts hr
      obtain ⟨v1, v2⟩ := areB_get r3 j
      have HI : ∀ W, Calls Tryd.prog 25 #[.slice A q c, .int .i64 (j : Int)] W fun e w' => e = .returned (.bool true) ∧ W = w' := fun W => by
        have := isIn_any A q c (j : Int) W (by unfold maxLen; omega)
        rwa [hi] at this
      obtain ⟨g, off, rfl, hg, hcc⟩ := hI0 (by omega)
      have x0 := hcc j (by omega)
      have HW : Hid (waitsB ys j d = mw (ys[j]?.getD 0) d) := Lib.hid (by unfold waitsB; rw [hr, hq, hi]; simp)
      rw [HW.out]
      have hI0 := hI
      generalize ys[j]?.getD 0 = v at x0 v1 v2 ⊢
      have hjq : j < q := by omega
      clear hq hr hI hi hcc HW
      go_enter Tryd.func17, Tryd.ntmps17
      go_wp2
      obtain ⟨W, hW⟩ : ∃ W, (w.alloc (.cells #[.int .i64 j, .int .i64 d, .int .i64 fl] 32)).drew = W := ⟨_, rfl⟩
      have y0 : W.cell? ⟨w.heap.size, 0, none⟩ = some (.int .i64 j) := by rw [← hW]; simp [go_sem]
      have y1 : W.cell? ⟨w.heap.size, 1, none⟩ = some (.int .i64 d) := by rw [← hW]; simp [go_sem]
      have y2 : W.cell? ⟨w.heap.size, 2, none⟩ = some (.int .i64 fl) := by rw [← hW]; simp [go_sem]
      have yG : Same w W := by rw [← hW]; exact (Gr.a1 _ _).drew
      have yI : Hid (Ints W (some ⟨g, off, none⟩) ys) := Lib.hid (hI0.same yG)
      have yx : W.cell? ⟨g, off + j, none⟩ = some (.int .i64 v) := (yG.cell (p := ⟨g, off + j, none⟩) hg (fun f => f)).trans x0
      clear x0
      subst hW
      go_region_held3 (fun W => W.cell? ⟨w.heap.size, 0, none⟩ = some (.int .i64 j) ∧ W.cell? ⟨w.heap.size, 1, none⟩ = some (.int .i64 d) ∧ W.cell? ⟨w.heap.size, 2, none⟩ = some (.int .i64 fl) ∧ Hid (Ints W (some ⟨g, off, none⟩) ys) ∧ Same w W ∧ W.cell? ⟨g, off + j, none⟩ = some (.int .i64 v)) (first | ((repeat' (with_reducible apply And.intro)) <;> assumption)) (first | (go_at_call 15; refine (HR _ yI.out).mono ?_; rintro e w1 ⟨rfl, rfl⟩) | (go_at_call 25; refine (HI _).mono ?_; rintro e w1 ⟨rfl, rfl⟩) | (go_at_call 30; refine (mustWait_any v j d fl v1 v2 _).mono ?_; rintro e w2 ⟨rfl, hG2⟩; have y0' := (hG2.cell (p := ⟨w.heap.size, 0, none⟩) (by have := yG.size; have := World.block_lt_of_cell? _ _ y0; assumption) (fun f => f)).trans y0; have y1' := (hG2.cell (p := ⟨w.heap.size, 1, none⟩) (World.block_lt_of_cell? _ _ y1) (fun f => f)).trans y1; have y2' := (hG2.cell (p := ⟨w.heap.size, 2, none⟩) (World.block_lt_of_cell? _ _ y2) (fun f => f)).trans y2; have yI' : Hid (Ints _ (some ⟨g, off, none⟩) ys) := Lib.hid (yI.out.same hG2); have yG' := yG.next hG2; have yx' := (hG2.cell (p := ⟨g, off + j, none⟩) (World.block_lt_of_cell? _ _ yx) (fun f => f)).trans yx))
      go_wp2
      go_ret
      exact ⟨rfl, by assumption⟩

theorem waits_no {ys : List Int} {num d : Int} (h : tcode ys 1 (mk [num]) ≠ 0) : waitsB ys num d = false := by
  unfold tcode at h
  split at h
  · rename_i h1
    unfold waitsB
    rcases h1 with h1 | h1
    · rw [h1]; rfl
    · omega
  · split at h
    · omega
    · split at h
      · exact absurd rfl h
      · rename_i h3
        unfold waitsB
        have : inB ys.length num = false := by
          cases hb : inB ys.length num with
          | false => rfl
          | true =>
            refine absurd ?_ h3
            rw [List.all_eq_true]
            intro i hi
            have hi0 : i = 0 := by simpa using hi
            subst hi0
            exact hb
        rw [this]; simp
theorem waits_er {ys : List Int} {num d fl : Int} (h : tcode ys 1 (mk [num]) = 0) : waitsB ys num d = mw (ys[num.toNat]?.getD 0) d ∧ er (mk [num]) (mk [d]) (mk [fl]) ys 0 = erk (ys[num.toNat]?.getD 0) d fl := by
  obtain ⟨hr, _, _, hin⟩ := tcode_zero h
  have := hin 0 (by omega)
  refine ⟨by unfold waitsB; rw [hr, show inB ys.length num = true from this]; rfl, rfl⟩
theorem erk_mw {v d fl : Int} (h1 : v ≤ 32767) : (erk v d fl = 0 ∧ mw v d = false) ∨ (erk v d fl = 1 ∧ mw v d = false) ∨ (erk v d fl = 2 ∧ mw v d = true ∧ fl % 2 ≠ 0) ∨ (erk v d fl = 3 ∧ mw v d = true ∧ fl % 2 = 0) := by
  unfold erk
  split
  · right; left
    refine ⟨rfl, ?_⟩
    unfold mw
    rw [if_neg (by omega), if_neg (by omega)]
  · cases hm : mw v d
    · left; exact ⟨rfl, rfl⟩
    · by_cases hf : fl % 2 = 0
      · right; right; right; simp [hf]
      · right; right; left; simp [hf]

set_option maxRecDepth 100000 in
set_option maxHeartbeats 4000000 in
theorem semWaits_walk (xs : List Int) (A : Option Addr) (n c : Nat) (num d fl : Int) (w : World) (hn : xs.length = n) (hnc : n ≤ c) (hc : c ≤ maxLen) (hA : Ints w A xs) (w1' : -9223372036854775808 ≤ num ∧ num < 9223372036854775808) (w2' : -9223372036854775808 ≤ d ∧ d < 9223372036854775808)
    (w3' : -9223372036854775808 ≤ fl ∧ fl < 9223372036854775808) (hS : Sen w aR aA aW) :
    Calls Tryd.prog 7 #[.slice A n c, .agg #[.int .i64 num, .int .i64 d, .int .i64 fl]] w fun e w' => e = .returned (.bool true) ∧ Below w.heap.size w w' := by
  have HN := Lib.hid hn
  have HA := Lib.hid hA
  clear hn hA w1' w2'
  go_enter Tryd.func7, Tryd.ntmps7
  go_wp2_with fail
  have hb0 : Blk (w.alloc (.cells #[.int .i64 num, .int .i64 d, .int .i64 fl] 32)) w.heap.size 32 #[.int .i64 num, .int .i64 d, .int .i64 fl] := Blk.new _ _ _ _ rfl
  refine (shown_any (aR := aR) (aA := aA) (aW := aW) _ (hS.same (Gr.a1 _ _))).mono ?_; rintro e w1 ⟨rfl, hG1⟩
  have hb1 := hG1.blk hb0 (fun f => f)
  have hGa := (Gr.a1 _ _).next hG1
  clear hG1 hb0
  go_wp2_with fail
  refine (cut_any xs A n c _ HN.out hnc hc (HA.out.same hGa)).mono ?_; rintro e w2 ⟨b0, hb0, rfl, hG2, hI2⟩
  have hb2 := hG2.blk hb1 (fun f => f)
  have hGw := hGa.next hG2
  have j0 := hb2.cell 0
  have j1 := hb2.cell 1
  have j2 := hb2.cell 2
  simp at j0 j1 j2
  obtain ⟨ys, hys⟩ : ∃ ys, xs.take 12 = ys := ⟨_, rfl⟩
  obtain ⟨q, hq⟩ : ∃ q, min n 12 = q := ⟨_, rfl⟩
  have hyl : ys.length = q := by rw [← hys, List.length_take, HN.out]; omega
  rw [hys] at hI2
  rw [hq]
  have hq12 : q ≤ 12 := by omega
  have HYL := Lib.hid hyl
  clear hys hq hyl hG2 hb1 hGa hb0
  go_wp2_with fail
  have ho := ops_one (Blk.new w2 32 #[.int .i64 num, .int .i64 d, .int .i64 fl] _ rfl)
  have hI2' := hI2.same (Gr.a1 w2 (.cells #[.int .i64 num, .int .i64 d, .int .i64 fl] 32))
  have hGb := hGw.alloc (.cells #[.int .i64 num, .int .i64 d, .int .i64 fl] 32)
  refine (try_full ys _ q 12 _ 1 1 (mk [num]) (mk [d]) (mk [fl]) _ HYL.out (by omega) (by omega) hI2' ho (flags_mk (by intro x hx; simp at hx; subst hx; exact w3') 1) (hS.same hGb)).mono ?_
  rintro e w3 ⟨hG3, hres⟩
  have hGc := hGb.next hG3
  have hI3 := hI2'.same hG3
  have hb3 := hG3.blk (hb2.alloc (.cells #[.int .i64 num, .int .i64 d, .int .i64 fl] 32)) (fun f => f)
  have i0 := hb3.cell 0
  have i1 := hb3.cell 1
  have i2 := hb3.cell 2
  simp at i0 i1 i2
  clear j0 j1 j2 hb2 hGb hI2' ho hG3
  rcases hres with ⟨ht, rfl⟩ | ⟨ht, i, hi, hne, hlt, rfl⟩ | ⟨ht, hall, b, hb, rfl, hB⟩
  · have hw := waits_no (d := d) ht
    have ht' := tcode_mem ht
    generalize tcode ys 1 (mk [num]) = t at ht' ⊢
    clear ht
    go_wp2_with fail
    refine (waits_any ys _ q 12 num d fl _ HYL.out hq12 hI3).mono ?_; rintro e w4 ⟨rfl, hG4⟩
    rw [hw]
    clear hw
    rcases ht' with rfl | rfl | rfl
    all_goals
      go_wp2
      go_ret
      exact ⟨by first | rfl | simp, (hGc.next hG4).below⟩
  · obtain rfl : i = 0 := by omega
    obtain ⟨e1, e2⟩ := waits_er (d := d) (fl := fl) ht
    have hv := (areB_get (right_parts (tcode_zero ht).1).2.2 num.toNat).2
    rw [e2] at hne ⊢
    have hk := erk_mw (d := d) (fl := fl) hv
    have htm : fl.tmod 2 = 0 ↔ fl % 2 = 0 := (Int.dvd_iff_tmod_eq_zero ..).symm.trans (Int.dvd_iff_emod_eq_zero ..)
    go_wp2_with fail
    refine (waits_any ys _ q 12 num d fl _ HYL.out hq12 hI3).mono ?_; rintro e w4 ⟨rfl, hG4⟩
    have hb4 := (hG4.blk hb3 (fun f => f)).cell 2
    simp at hb4
    rw [e1]
    rcases hk with ⟨h1, h2⟩ | ⟨h1, h2⟩ | ⟨h1, h2, h3⟩ | ⟨h1, h2, h3⟩
    · exact absurd h1 hne
    · rw [h1, h2]
      clear hne ht hv htm e1 e2 h1 h2 hlt i0 i1 i2
      simp only [code]
      go_wp2
      go_ret
      exact ⟨by first | rfl | simp, (hGc.next hG4).below⟩
    · rw [h1, h2]
      have hf : (fl.tmod 2 != 0) = true := by simp; omega
      clear hne ht hv htm e1 e2 h1 h2 h3 hlt i0 i1 i2
      simp only [code]
      go_wp2
      go_ret
      exact ⟨by first | rfl | (simp [hf]; done) | simp, (hGc.next hG4).below⟩
    · rw [h1, h2]
      have hf : (fl.tmod 2 == 0) = true := by simp; omega
      clear hne ht hv htm e1 e2 h1 h2 h3 hlt i0 i1 i2
      simp only [code]
      go_wp2
      go_ret
      exact ⟨by first | rfl | (simp [hf]; done) | simp, (hGc.next hG4).below⟩
  · obtain ⟨e1, e2⟩ := waits_er (d := d) (fl := fl) ht
    have hv := (areB_get (right_parts (tcode_zero ht).1).2.2 num.toNat).2
    have h0 := hall 0 (by omega)
    rw [e2] at h0
    have h2 : mw (ys[num.toNat]?.getD 0) d = false := by
      rcases erk_mw (d := d) (fl := fl) hv with ⟨_, h⟩ | ⟨h, _⟩ | ⟨h, _⟩ | ⟨h, _⟩
      · exact h
      · omega
      · omega
      · omega
    have HE := Lib.hid (e1.trans h2)
    clear e1 e2 h2 h0 hall hv ht hB
    go_wp2_with fail
    refine (waits_any ys _ q 12 num d fl _ HYL.out hq12 hI3).mono ?_; rintro e w4 ⟨rfl, hG4⟩
    rw [HE.out]
    clear i0 i1 i2
    go_wp2
    go_ret
    exact ⟨by first | rfl | simp, (hGc.next hG4).below⟩
end Go.Proofs
