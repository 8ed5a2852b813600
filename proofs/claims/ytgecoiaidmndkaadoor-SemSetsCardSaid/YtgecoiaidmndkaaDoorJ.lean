/- Semaphores: the document's answers: Right, Waits, Set. -/
import Derived.Test.YtgecoiaidmndkaaDoorW
import Derived.Test.YtgecoiaidmndkaaDoorZ
import Derived.Deep.AppendLies
import Derived.OwnWalk
set_option linter.unusedVariables false
set_option linter.unusedSimpArgs false
namespace Go.Proofs
open Go.RowKit Go.Shelf
attribute [local go_sem] Oper.semAt_some
variable {aR aA aW : Addr}

theorem areB_all {xs : List Int} {k : Nat} (hk : xs.length = k) (h : areB (xs.take k) = true) : areB xs = true := by
  rwa [← hk, List.take_length] at h

set_option maxHeartbeats 1000000 in
theorem ref_right (xs : List Int) (A : Option Addr) (n c : Nat) (w : World) (hn : xs.length = n) (hm : n ≤ maxLen) (hc : Ints w A xs) :
    Calls Tryd.prog 21 #[.slice A n c] w fun e w' => e = .returned (.bool (rightB xs)) ∧ Same w w' := by
  have HN := Lib.hid hn
  have HC := Lib.hid hc
  clear hn hc
  unfold maxLen at hm
  rcases (show n < 1 ∨ 8 < n ∨ (1 ≤ n ∧ n ≤ 8) by omega) with h | h | ⟨h, h'⟩
  · have e : rightB xs = false := by unfold rightB; rw [HN.out]; simp; omega
    rw [e]
    go_enter Tryd.func21, Tryd.ntmps21
    go_wp2
    all_goals (go_ret; exact ⟨rfl, Gr.refl _ _⟩)
  · have e : rightB xs = false := by unfold rightB; rw [HN.out]; simp; omega
    rw [e]
    go_enter Tryd.func21, Tryd.ntmps21
    go_wp2
    all_goals (go_ret; exact ⟨rfl, Gr.refl _ _⟩)
  · have e : rightB xs = areB xs := by unfold rightB; rw [HN.out]; simp [h, h']
    rw [e]
    go_enter Tryd.func21, Tryd.ntmps21
    go_wp2
    go_loopw [3] (fun i wr => ∃ k : Nat, k ≤ n ∧ i = .int .i64 k ∧ Hid (areB (xs.take k) = true) ∧ Same w wr) (fun i _ => n - (intOf i).toNat)
    case atStart => exact ⟨0, by omega, rfl, Lib.hid (by simp [areB]), Gr.refl _ _⟩
    case round =>
      obtain ⟨k, hk, rfl, HA, hG⟩ := hrel
      by_cases hlt : k < n
      · obtain ⟨a, oa, rfl, _, ca⟩ := (HC.out.same hG) (by rw [HN.out]; omega)
        have x0 := ca k (by rw [HN.out]; exact hlt)
        generalize hx : xs[k]?.getD 0 = v at x0
        have HX := Lib.hid hx
        have HK : Hid (k < xs.length) := Lib.hid (by rw [HN.out]; exact hlt)
        clear ca hx
        rcases (show v < 0 ∨ 32767 < v ∨ (0 ≤ v ∧ v ≤ 32767) by omega) with hv | hv | ⟨hv, hv'⟩
        · have HF := Lib.hid (areB_false xs k HK.out (by rw [HX.out]; exact okN_false (by omega)))
          clear HX HK HA
          go_wp2
          go_ret
          exact ⟨by rw [HF.out]; rfl, hG⟩
        · have HF := Lib.hid (areB_false xs k HK.out (by rw [HX.out]; exact okN_false (by omega)))
          clear HX HK HA
          go_wp2
          go_ret
          exact ⟨by rw [HF.out]; rfl, hG⟩
        · have HA2 := Lib.hid (areB_take_succ xs k HK.out HA.out (by rw [HX.out]; exact okN_true (by omega) (by omega)))
          clear HX HK HA
          go_wp2
          go_roundw
          case rel => exact ⟨k + 1, by omega, by go_num, HA2, hG⟩
          case measure => simp [intOf]; omega
      · obtain rfl : k = n := by omega
        have HF := Lib.hid (areB_all HN.out HA.out)
        go_wp2
        go_ret
        exact ⟨by rw [HF.out]; rfl, hG⟩

theorem mw_cases (v d : Int) : (d < 0 ∧ d < -v ∧ mw v d = true) ∨ (d < 0 ∧ -v ≤ d ∧ mw v d = false) ∨ (d = 0 ∧ v ≠ 0 ∧ mw v d = true) ∨ (d = 0 ∧ v = 0 ∧ mw v d = false) ∨ (0 < d ∧ mw v d = false) := by
  unfold mw
  by_cases h1 : d < 0
  · rw [if_pos h1]
    by_cases h2 : d < -v
    · exact .inl ⟨h1, h2, by simp [h2]⟩
    · exact .inr (.inl ⟨h1, by omega, by simp; omega⟩)
  · rw [if_neg h1]
    by_cases h2 : d = 0
    · rw [if_pos h2]
      by_cases h3 : v = 0
      · exact .inr (.inr (.inr (.inl ⟨h2, h3, by simp [h3]⟩)))
      · exact .inr (.inr (.inl ⟨h2, h3, by simp [h3]⟩))
    · rw [if_neg h2]
      exact .inr (.inr (.inr (.inr ⟨by omega, rfl⟩)))
set_option maxHeartbeats 2000000 in
theorem ref_waits (ys : List Int) (A : Option Addr) (q c : Nat) (num d fl : Int) (w : World) (hq : ys.length = q) (hq12 : q ≤ 12) (hI : Ints w A ys) :
    Calls Tryd.prog 24 #[.slice A q c, .agg #[.int .i64 num, .int .i64 d, .int .i64 fl]] w fun e w' => e = .returned (.bool (waitsB ys num d)) ∧ Same w w' := by
  have HQ := Lib.hid hq
  have HI := Lib.hid hI
  have HR : ∀ W, Same w W → Calls Tryd.prog 21 #[.slice A q c] W fun e w' => e = .returned (.bool (rightB ys)) ∧ Same W w' := fun W h => ref_right ys A q c W HQ.out (by unfold maxLen; omega) (HI.out.same h)
  have y0 : (w.alloc (.cells #[.int .i64 num, .int .i64 d, .int .i64 fl] 32)).cell? ⟨w.heap.size, 0, none⟩ = some (.int .i64 num) := by simp
  have y1 : (w.alloc (.cells #[.int .i64 num, .int .i64 d, .int .i64 fl] 32)).cell? ⟨w.heap.size, 1, none⟩ = some (.int .i64 d) := by simp
  have yG := Gr.a1 w (.cells #[.int .i64 num, .int .i64 d, .int .i64 fl] 32)
  have hs : w.heap.size < (w.alloc (.cells #[.int .i64 num, .int .i64 d, .int .i64 fl] 32)).heap.size := by simp
  cases hr : rightB ys
  · have HW : Hid (waitsB ys num d = false) := Lib.hid (by unfold waitsB; rw [hr]; rfl)
    rw [hr] at HR
    rw [HW.out]
    clear hq hr hI
    go_enter Tryd.func24, Tryd.ntmps24
    go_wp2_with fail
    refine (HR _ yG).mono ?_; rintro e w1 ⟨rfl, hG1⟩
    have z0 := (hG1.cell (p := ⟨w.heap.size, 0, none⟩) hs (fun f => f)).trans y0
    clear y0 y1
    go_wp2
    go_ret
    exact ⟨rfl, yG.next hG1⟩
  · rw [hr] at HR
    cases hi : inB q num
    · have HW : Hid (waitsB ys num d = false) := Lib.hid (by unfold waitsB; rw [hr, hq, hi]; rfl)
      rw [HW.out]
      have hin : num < 0 ∨ (0 ≤ num ∧ (q : Int) ≤ num) := by unfold inB at hi; simp at hi; omega
      clear hq hr hI hi
      rcases hin with hin | ⟨hin, hin'⟩
      all_goals
        go_enter Tryd.func24, Tryd.ntmps24
        go_wp2_with fail
        refine (HR _ yG).mono ?_; rintro e w1 ⟨rfl, hG1⟩
        have z0 := (hG1.cell (p := ⟨w.heap.size, 0, none⟩) hs (fun f => f)).trans y0
        clear y0 y1
        go_wp2
        go_ret
        exact ⟨rfl, yG.next hG1⟩
    · have hin : 0 ≤ num ∧ num < q := by have h := hi; unfold inB at h; simpa using h
      obtain ⟨j, rfl⟩ : ∃ j : Nat, num = j := ⟨num.toNat, by omega⟩
      obtain ⟨r1, r2, r3⟩ := right_parts hr
      obtain ⟨v1, v2⟩ := areB_get r3 j
      obtain ⟨g, off, rfl, hg, hcc⟩ := HI.out (by omega)
      have x0 := hcc j (by omega)
      have HW : Hid (waitsB ys j d = mw (ys[j]?.getD 0) d) := Lib.hid (by unfold waitsB; rw [hr, hq, hi]; simp)
      rw [HW.out]
      generalize ys[j]?.getD 0 = v at x0 v1 v2 ⊢
      have hjq : j < q := by omega
      clear hq hr hI hi hcc HW
      rcases mw_cases v d with ⟨k1, k2, hm⟩ | ⟨k1, k2, hm⟩ | ⟨rfl, k2, hm⟩ | ⟨rfl, rfl, hm⟩ | ⟨k1, hm⟩
      all_goals
        rw [hm]
        clear hm
        go_enter Tryd.func24, Tryd.ntmps24
        go_wp2_with fail
        refine (HR _ yG).mono ?_; rintro e w1 ⟨rfl, hG1⟩
        have z0 := (hG1.cell (p := ⟨w.heap.size, 0, none⟩) hs (fun f => f)).trans y0
        have z1 := (hG1.cell (p := ⟨w.heap.size, 1, none⟩) hs (fun f => f)).trans y1
        have zx := ((yG.next hG1).cell (p := ⟨g, off + j, none⟩) hg (fun f => f)).trans x0
        clear y0 y1 x0
        go_wp2
        go_ret
        exact ⟨by first | rfl | exact congrArg (fun b => Ending.returned (.bool b)) (show decide (d < -v) = false by simp; omega) | exact congrArg (fun b => Ending.returned (.bool b)) (show (v != 0) = true by simp; omega), yG.next hG1⟩
theorem cells_ints {w : World} {g off : Nat} {xs : List Int} (h : Ints w (some ⟨g, off, none⟩) xs) : ∀ j u, (xs.map (Value.int .i64))[j]? = some u → w.cell? ((⟨g, off, none⟩ : Addr).add j) = some u := fun j u hu => by
  have hj : j < xs.length := by have := (List.getElem?_eq_some_iff.1 hu).1; simpa using this
  obtain ⟨g', off', e, _, hc⟩ := h (by omega)
  cases e
  rw [Go.WideShapes.add_plain, hc j hj]
  rw [List.getElem?_map, List.getElem?_eq_getElem hj] at hu
  rw [List.getElem?_eq_getElem hj]
  simpa using hu
theorem own_ints {w : World} {base g n cap : Nat} {xs : List Int} (h : w.ownsRow base 3 1 (.slice (some ⟨g, 0, none⟩) n cap) n (xs.map (Value.int .i64))) : Ints w (some ⟨g, 0, none⟩) xs := fun hn => by
  have hl : n = xs.length := by have := h.1; simp at this; omega
  rcases h.2 with ⟨e, _⟩ | ⟨g2, cap2, cur2, e, hg, hb, _⟩
  · cases e
  · cases e
    exact ⟨g, 0, rfl, Blk.lt (show Blk w g 3 cur2 from hb), fun j hj => by
      rw [Nat.zero_add, h.cellAt j (by omega), List.getElem?_map, List.getElem?_eq_getElem hj]; rfl⟩
theorem own_ge' {w : World} {base g n cap : Nat} {xs : List Value} (h : w.ownsRow base 3 1 (.slice (some ⟨g, 0, none⟩) n cap) n xs) (hn : 0 < n) : base ≤ g := by
  rcases h.2 with ⟨e, _⟩ | ⟨g2, cap2, cur2, e, hg, _⟩
  · cases e
  · cases e; exact hg
theorem own_cell {w : World} {base g n cap : Nat} {xs : List Int} (h : w.ownsRow base 3 1 (.slice (some ⟨g, 0, none⟩) (0 + n) cap) (0 + n) ([] ++ xs.map (Value.int .i64))) (j : Nat) (hj : j < n) :
    w.cell? ⟨g, j, none⟩ = some (.int .i64 (xs[j]?.getD 0)) ∧ w.frozen? ⟨g, j, none⟩ = false ∧ ∀ v : Int, Ints (w.setCell ⟨g, j, none⟩ (.int .i64 v)) (some ⟨g, 0, none⟩) (xs.set j v) := by
  rw [Nat.zero_add, List.nil_append] at h
  have hl : n = xs.length := by have := h.1; simp at this; omega
  refine ⟨by rw [h.cellAt j (by omega), List.getElem?_map, List.getElem?_eq_getElem (by omega)]; rfl, h.frozenAt j, fun v => ?_⟩
  have h2 := (h.stored j (.int .i64 v)).1
  rw [show (xs.map (Value.int .i64)).set j (.int .i64 v) = (xs.set j v).map (Value.int .i64) by rw [List.map_set]] at h2
  exact own_ints h2
theorem info3' : (Tryd.prog.info? 3).map (fun i => (i.zero, i.size, i.bytes)) = some (some (.int .i64 0), 1, 8) := by kernel_rfl
set_option maxHeartbeats 2000000 in
theorem ref_set (xs : List Int) (A : Option Addr) (n c : Nat) (num v : Int) (w : World) (hn : xs.length = n) (hn12 : n ≤ 1000) (hI : Ints w A xs) :
    Calls Tryd.prog 23 #[.slice A n c, .int .i64 num, .int .i64 v] w fun e w' => Same w w' ∧
      ((setCode xs num v ≠ 0 ∧ e = .returned (.tuple #[.slice none 0 0, .int .i64 (setCode xs num v)])) ∨
       (setCode xs num v = 0 ∧ ∃ A' c', e = .returned (.tuple #[.slice A' n c', .int .i64 0]) ∧ Ints w' A' (xs.set num.toNat v))) := by
  have HN := Lib.hid hn
  have HI := Lib.hid hI
  have HR : ∀ W : World, Same w W → Calls Tryd.prog 21 #[.slice A n c] W fun e w' => e = .returned (.bool (rightB xs)) ∧ Same W w' := fun W h => ref_right xs A n c W HN.out (by unfold maxLen; omega) (HI.out.same h)
  clear hn hI
  cases hr : rightB xs
  · have hc : setCode xs num v = 2 := by unfold setCode; rw [if_pos (.inl hr)]
    rw [hr] at HR
    have HC := Lib.hid hc
    clear hr hc
    go_enter Tryd.func23, Tryd.ntmps23
    go_wp2_with fail
    refine (HR _ (Gr.refl _ _)).mono ?_; rintro e w1 ⟨rfl, hG⟩
    go_wp2
    go_ret2
    exact ⟨hG, .inl ⟨by rw [HC.out]; decide, by rw [HC.out]; rfl⟩⟩
  · rw [hr] at HR
    cases ho : okN v
    · have hc : setCode xs num v = 2 := by unfold setCode; rw [if_pos (.inr ho)]
      have HC := Lib.hid hc
      have hv : v < 0 ∨ (0 ≤ v ∧ 32767 < v) := by unfold okN at ho; simp at ho; omega
      clear hr hc ho
      rcases hv with hv | ⟨hv, hv'⟩
      all_goals
        go_enter Tryd.func23, Tryd.ntmps23
        go_wp2_with fail
        refine (HR _ (Gr.refl _ _)).mono ?_; rintro e w1 ⟨rfl, hG⟩
        go_wp2
        go_ret2
        exact ⟨hG, .inl ⟨by rw [HC.out]; decide, by rw [HC.out]; rfl⟩⟩
    · obtain ⟨r1, r2, r3⟩ := right_parts hr
      obtain ⟨v0, v1⟩ := okN_iff.1 ho
      rw [HN.out] at r1 r2
      cases hi : inB n num
      · have hc : setCode xs num v = 131 := by unfold setCode; rw [if_neg (by rw [hr, ho]; simp), HN.out, if_pos hi]
        have HC := Lib.hid hc
        have hin : num < 0 ∨ (0 ≤ num ∧ (n : Int) ≤ num) := by unfold inB at hi; simp at hi; omega
        clear hr hc ho hi
        rcases hin with hin | ⟨hin, hin'⟩
        all_goals
          go_enter Tryd.func23, Tryd.ntmps23
          go_wp2_with fail
          refine (HR _ (Gr.refl _ _)).mono ?_; rintro e w1 ⟨rfl, hG⟩
          go_wp2
          go_ret2
          exact ⟨hG, .inl ⟨by rw [HC.out]; decide, by rw [HC.out]; rfl⟩⟩
      · have hc : setCode xs num v = 0 := by unfold setCode; rw [if_neg (by rw [hr, ho]; simp), HN.out, if_neg (by rw [hi]; simp)]
        have HC := Lib.hid hc
        have hin : 0 ≤ num ∧ num < n := by have h := hi; unfold inB at h; simpa using h
        obtain ⟨j, rfl⟩ : ∃ j : Nat, num = j := ⟨num.toNat, by omega⟩
        obtain ⟨g, off, rfl, hg, hcc⟩ := HI.out (by rw [HN.out]; omega)
        have HCC := Lib.hid hcc
        obtain ⟨i0, hi0, hz0, hz1, hz2⟩ := info_parts info3'
        have hjn : j < n := by omega
        clear hr hc ho hi hcc
        go_enter Tryd.func23, Tryd.ntmps23
        go_wp2_with fail
        refine (HR _ (Gr.refl _ _)).mono ?_; rintro e w1 ⟨rfl, hG⟩
        have HG := hG
        go_wp2_with first
          | (at_builtin; refine wpList_append_lies _ rfl _ _ 22 rfl w.heap.size 3 i0 (.int .i64 0) 1 8 Tryd.underlying22 hi0 hz0 hz1 hz2 rfl (by decide) _ _ _ rfl (World.ownsRow_nil _ _ _ _) ⟨g, off, none⟩ n c (xs.map (Value.int .i64)) rfl (by rw [List.length_map, HN.out, Nat.mul_one]) (cells_ints (HI.out.same HG)) (by simp [Value.oneCell']) r1 (by unfold maxLen; omega) (by omega) HG.size _ rfl ?_; intro g' cap' w' hown hgrow hg' hlt'; obtain ⟨x0, xf, xs'⟩ := own_cell hown j hjn)
        have hG2 := hG.trans (Y := fun _ => False) (Gr.of_grownBy (show w1.grownBy w' none from hgrow) (fun k hk => by cases hk)) (fun j hj h => by simp at h)
        have hge : w.heap.size ≤ g' := own_ge' hown (by omega)
        go_ret2
        exact ⟨Gr.setCell (p := ⟨g', j, none⟩) (X := fun _ => False) hG2 (.inr hge) _, .inr ⟨HC.out, _, _, rfl, xs' _⟩⟩
end Go.Proofs
