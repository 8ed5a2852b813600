/- SemSets. -/
import Derived.Test.YtgecoiaidmndkaaDoorJ
set_option linter.unusedVariables false
set_option linter.unusedSimpArgs false
namespace Go.Proofs
open Go.RowKit Go.Shelf
attribute [local go_sem] Oper.semAt_some
variable {aR aA aW : Addr}

/-- What is answered of values of which one is set. -/
def setVal (xs : List Int) (num v : Int) : List Int := if setCode xs num v = 0 then xs.set num.toNat v else []
theorem setVal_len (xs : List Int) (num v : Int) : (setVal xs num v).length ≤ xs.length := by unfold setVal; split <;> simp
theorem set_any' (xs : List Int) (A : Option Addr) (n c : Nat) (num v : Int) (w : World) (hn : xs.length = n) (hn12 : n ≤ 1000) (hI : Ints w A xs) :
    Calls Tryd.prog 22 #[.slice A n c, .int .i64 num, .int .i64 v] w fun e w' => Same w w' ∧ ∃ A1 c1, e = .returned (.tuple #[.slice A1 (setVal xs num v).length c1, .int .i64 (setCode xs num v)]) ∧ Ints w' A1 (setVal xs num v) :=
  (set_any xs A n c num v w hn hn12 hI).mono fun e w' ⟨hG, h⟩ => ⟨hG, by
    rcases h with ⟨hc, rfl⟩ | ⟨hc, b, _, rfl, hB⟩
    · have e : setVal xs num v = [] := by unfold setVal; rw [if_neg hc]
      rw [e]
      exact ⟨none, 0, rfl, fun h => by simp at h⟩
    · have e : setVal xs num v = xs.set num.toNat v := by unfold setVal; rw [if_pos hc]
      rw [e, hc]
      exact ⟨_, n, by rw [List.length_set, hn], ints_blk hB⟩⟩
theorem ref_set' (xs : List Int) (A : Option Addr) (n c : Nat) (num v : Int) (w : World) (hn : xs.length = n) (hn12 : n ≤ 1000) (hI : Ints w A xs) :
    Calls Tryd.prog 23 #[.slice A n c, .int .i64 num, .int .i64 v] w fun e w' => Same w w' ∧ ∃ A1 c1, e = .returned (.tuple #[.slice A1 (setVal xs num v).length c1, .int .i64 (setCode xs num v)]) ∧ Ints w' A1 (setVal xs num v) :=
  (ref_set xs A n c num v w hn hn12 hI).mono fun e w' ⟨hG, h⟩ => ⟨hG, by
    rcases h with ⟨hc, rfl⟩ | ⟨hc, A1, c1, rfl, hB⟩
    · have e : setVal xs num v = [] := by unfold setVal; rw [if_neg hc]
      rw [e]
      exact ⟨none, 0, rfl, fun h => by simp at h⟩
    · have e : setVal xs num v = xs.set num.toNat v := by unfold setVal; rw [if_pos hc]
      rw [e, hc]
      exact ⟨_, c1, by rw [List.length_set, hn], hB⟩⟩

/-- What the last region reads. -/
def Rest (w : World) (A1 A2 A3 : Option Addr) (zs ys : List Int) (W : World) : Prop := Ints W A1 zs ∧ Ints W A2 zs ∧ Ints W A3 ys ∧ Same w W
theorem Rest.next {w W W' : World} {A1 A2 A3 : Option Addr} {zs ys : List Int} (h : Hid (Rest w A1 A2 A3 zs ys W)) (hG : Same W W') : Hid (Rest w A1 A2 A3 zs ys W') :=
  Lib.hid ⟨h.out.1.same hG, h.out.2.1.same hG, h.out.2.2.1.same hG, h.out.2.2.2.next hG⟩
theorem cell_next {W W' : World} {b o : Nat} {v : Value} (h : W.cell? ⟨b, o, none⟩ = some v) (hG : Same W W') : W'.cell? ⟨b, o, none⟩ = some v :=
  (hG.cell (p := ⟨b, o, none⟩) (World.block_lt_of_cell? _ _ h) (fun f => f)).trans h

set_option maxRecDepth 100000 in
set_option maxHeartbeats 4000000 in
theorem semSets_walk (xs : List Int) (A : Option Addr) (n c : Nat) (num v : Int) (onum d fl : Int) (w : World) (hn : xs.length = n) (hnc : n ≤ c) (hc : c ≤ maxLen) (hA : Ints w A xs) (w1' : -9223372036854775808 ≤ onum ∧ onum < 9223372036854775808) (w2' : -9223372036854775808 ≤ d ∧ d < 9223372036854775808)
    (w3' : -9223372036854775808 ≤ fl ∧ fl < 9223372036854775808) (hS : Sen w aR aA aW) :
    Calls Tryd.prog 10 #[.slice A n c, .int .i64 num, .int .i64 v, .agg #[.int .i64 onum, .int .i64 d, .int .i64 fl]] w fun e w' => e = .returned (.bool true) ∧ Below w.heap.size w w' := by
  have HN := Lib.hid hn
  have HA := Lib.hid hA
  clear hn hA w1' w2' w3'
  go_enter Tryd.func10, Tryd.ntmps10
  go_wp2_with fail
  have hb0 : Blk (w.alloc (.cells #[.int .i64 onum, .int .i64 d, .int .i64 fl] 32)) w.heap.size 32 #[.int .i64 onum, .int .i64 d, .int .i64 fl] := Blk.new _ _ _ _ rfl
  refine (shown_any (aR := aR) (aA := aA) (aW := aW) _ (hS.same (Gr.a1 _ _))).mono ?_; rintro e w1 ⟨rfl, hG1⟩
  have hb1 := hG1.blk hb0 (fun f => f)
  have hGa := (Gr.a1 _ _).next hG1
  clear hG1 hb0
  go_wp2_with fail
  refine (cut_any xs A n c _ HN.out hnc hc (HA.out.same hGa)).mono ?_; rintro e w2 ⟨b0, hb0, rfl, hG2, hI2⟩
  have hb2 := hG2.blk hb1 (fun f => f)
  have hGw := hGa.next hG2
  obtain ⟨ys, hys⟩ : ∃ ys, xs.take 12 = ys := ⟨_, rfl⟩
  obtain ⟨q, hq⟩ : ∃ q, min n 12 = q := ⟨_, rfl⟩
  have hyl : ys.length = q := by rw [← hys, List.length_take, HN.out]; omega
  rw [hys] at hI2
  rw [hq]
  have hq12 : q ≤ 12 := by omega
  have HYL := Lib.hid hyl
  clear hys hq hyl hG2 hb1 hGa hb0
  go_wp2_with fail
  refine (set_any' ys _ q 12 num v _ HYL.out (by omega) hI2).mono ?_
  rintro e w3 ⟨hG3, A1, c1, rfl, hZ1⟩
  have hb3 := hG3.blk hb2 (fun f => f)
  have hG3' := hGw.next hG3
  have hI3 := hI2.same hG3
  have hsl := setVal_len ys num v
  obtain ⟨k, hk⟩ : ∃ k, (setVal ys num v).length = k := ⟨_, rfl⟩
  rw [hk]
  go_wp2_with fail
  refine (ref_set' ys _ q 12 num v _ HYL.out (by omega) hI3).mono ?_
  rintro e w4 ⟨hG4, A2, c2, rfl, hZ2⟩
  rw [hk]
  have hk12 : k ≤ 12 := by rw [← hk]; have := HYL.out; omega
  have HK := Lib.hid hk
  generalize setVal ys num v = zs at *
  generalize setCode ys num v = t
  have hb4 : Blk w4.drew w.heap.size 32 #[.int .i64 onum, .int .i64 d, .int .i64 fl] := hG4.blk hb3 (fun f => f)
  have y0 := hb4.cell 0
  have y1 := hb4.cell 1
  have y2 := hb4.cell 2
  simp at y0 y1 y2
  have yR : Hid (Rest w A1 A2 (some ⟨b0, 0, none⟩) zs ys w4.drew) := Lib.hid ⟨(hZ1.same hG4).same (Gr.refl _ _).drew, hZ2.same (Gr.refl _ _).drew, (hI3.same hG4).same (Gr.refl _ _).drew, (hG3'.next hG4).drew⟩
  clear hb4 hb3 hb2 hG4 hG3 hG3' hGw hI2 hI3 hZ1 hZ2 hsl hk hS
  obtain ⟨bw, hbw⟩ : ∃ bw, waitsB ys onum d = bw := ⟨_, rfl⟩
  have HW1 : ∀ W, Hid (Rest w A1 A2 (some ⟨b0, 0, none⟩) zs ys W) → Calls Tryd.prog 17 #[.slice (some ⟨b0, 0, none⟩) q 12, .agg #[.int .i64 onum, .int .i64 d, .int .i64 fl]] W fun e w' => e = .returned (.bool bw) ∧ Same W w' := fun W h => by
    rw [← hbw]; exact waits_any ys _ q 12 onum d fl _ HYL.out hq12 h.out.2.2.1
  have HW2 : ∀ W, Hid (Rest w A1 A2 (some ⟨b0, 0, none⟩) zs ys W) → Calls Tryd.prog 24 #[.slice (some ⟨b0, 0, none⟩) q 12, .agg #[.int .i64 onum, .int .i64 d, .int .i64 fl]] W fun e w' => e = .returned (.bool bw) ∧ Same W w' := fun W h => by
    rw [← hbw]; exact ref_waits ys _ q 12 onum d fl _ HYL.out hq12 h.out.2.2.1
  have HW3 : ∀ W, Hid (Rest w A1 A2 (some ⟨b0, 0, none⟩) zs ys W) → Calls Tryd.prog 16 #[.slice A1 k c1, .slice A2 k c2] W fun e w' => e = .returned (.bool true) ∧ Same W w' := fun W h =>
    ints_same zs _ _ k _ _ _ HK.out (by omega) h.out.1 h.out.2.1
  clear hbw HYL HK
  go_wp2
  go_region_held3 (fun W => W.cell? ⟨w.heap.size, 0, none⟩ = some (.int .i64 onum) ∧ W.cell? ⟨w.heap.size, 1, none⟩ = some (.int .i64 d) ∧ W.cell? ⟨w.heap.size, 2, none⟩ = some (.int .i64 fl) ∧ Hid (Rest w A1 A2 (some ⟨b0, 0, none⟩) zs ys W)) (first | ((repeat' (with_reducible apply And.intro)) <;> assumption)) (first | (go_at_call 16; refine (HW3 _ (by assumption)).mono ?_; rintro e w6 ⟨rfl, hG6⟩; have y0' := cell_next (by assumption) hG6 (b := w.heap.size) (o := 0) (v := .int .i64 onum); have y1' := cell_next (by assumption) hG6 (b := w.heap.size) (o := 1) (v := .int .i64 d); have y2' := cell_next (by assumption) hG6 (b := w.heap.size) (o := 2) (v := .int .i64 fl); have yR' := Rest.next (by assumption) hG6 (w := w) (A1 := A1) (A2 := A2) (A3 := some ⟨b0, 0, none⟩) (zs := zs) (ys := ys)) | (go_at_call 17; refine (HW1 _ (by assumption)).mono ?_; rintro e w6 ⟨rfl, hG6⟩; have y0' := cell_next (by assumption) hG6 (b := w.heap.size) (o := 0) (v := .int .i64 onum); have y1' := cell_next (by assumption) hG6 (b := w.heap.size) (o := 1) (v := .int .i64 d); have y2' := cell_next (by assumption) hG6 (b := w.heap.size) (o := 2) (v := .int .i64 fl); have yR' := Rest.next (by assumption) hG6 (w := w) (A1 := A1) (A2 := A2) (A3 := some ⟨b0, 0, none⟩) (zs := zs) (ys := ys)) | (go_at_call 24; refine (HW2 _ (by assumption)).mono ?_; rintro e w6 ⟨rfl, hG6⟩; have y0' := cell_next (by assumption) hG6 (b := w.heap.size) (o := 0) (v := .int .i64 onum); have y1' := cell_next (by assumption) hG6 (b := w.heap.size) (o := 1) (v := .int .i64 d); have y2' := cell_next (by assumption) hG6 (b := w.heap.size) (o := 2) (v := .int .i64 fl); have yR' := Rest.next (by assumption) hG6 (w := w) (A1 := A1) (A2 := A2) (A3 := some ⟨b0, 0, none⟩) (zs := zs) (ys := ys)))
  go_wp2
  go_ret
  exact ⟨by first | rfl | simp, Gr.below (Hid.out (p := Rest w A1 A2 (some ⟨b0, 0, none⟩) zs ys _) (by assumption)).2.2.2⟩
end Go.Proofs
