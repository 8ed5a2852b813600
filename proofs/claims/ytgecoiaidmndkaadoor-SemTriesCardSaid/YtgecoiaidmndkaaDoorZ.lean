/- Set; SemOwn. -/
import Derived.Test.YtgecoiaidmndkaaDoorN
set_option linter.unusedVariables false
set_option linter.unusedSimpArgs false
namespace Go.Proofs
open Go.RowKit Go.Shelf
attribute [local go_sem] Oper.semAt_some
variable {aR aA aW : Addr}

def setCode (xs : List Int) (num v : Int) : Int := if rightB xs = false ∨ okN v = false then 2 else if inB xs.length num = false then 131 else 0
set_option maxHeartbeats 1000000 in
theorem set_any (xs : List Int) (A : Option Addr) (n c : Nat) (num v : Int) (w : World) (hn : xs.length = n) (hn12 : n ≤ 1000) (hI : Ints w A xs) :
    Calls Tryd.prog 22 #[.slice A n c, .int .i64 num, .int .i64 v] w fun e w' => Same w w' ∧
      ((setCode xs num v ≠ 0 ∧ e = .returned (.tuple #[.slice none 0 0, .int .i64 (setCode xs num v)])) ∨
       (setCode xs num v = 0 ∧ ∃ b, w.heap.size ≤ b ∧ e = .returned (.tuple #[.slice (some ⟨b, 0, none⟩) n n, .int .i64 0]) ∧ Blk w' b 3 ((xs.set num.toNat v).map (Value.int .i64)).toArray)) := by
  have HN := Lib.hid hn
  have HI := Lib.hid hI
  have HR : ∀ W : World, Same w W → Calls Tryd.prog 15 #[.slice A n c] W fun e w' => e = .returned (.bool (rightB xs)) ∧ W = w' := fun W h => right_any xs A n c W HN.out (by unfold maxLen; omega) (HI.out.same h)
  have HA : ∀ W : World, Calls Tryd.prog 29 #[.slice (some ⟨W.heap.size, 0, none⟩) 1 1] (W.alloc (.cells #[.int .i64 v] 3)) fun e w' => e = .returned (.bool (okN v)) ∧ W.alloc (.cells #[.int .i64 v] 3) = w' := fun W => by
    have := are_any [v] (some ⟨W.heap.size, 0, none⟩) 1 1 (W.alloc (.cells #[.int .i64 v] 3)) rfl (by decide) (fun _ => ⟨W.heap.size, 0, rfl, by simp, fun j hj => by
      obtain rfl : j = 0 := by simpa using hj
      exact (Blk.cell (Blk.new W 3 #[.int .i64 v] _ rfl) 0).trans rfl⟩)
    have e : areB [v] = okN v := by unfold areB; simp
    rwa [e] at this
  clear hn hI
  cases hr : rightB xs
  · have hc : setCode xs num v = 2 := by unfold setCode; rw [if_pos (.inl hr)]
    rw [hr] at HR
    have HC := Lib.hid hc
    clear hr hc HA
    go_enter Tryd.func22, Tryd.ntmps22
    go_wp2_with fail
    refine (HR _ (Gr.refl _ _)).mono ?_; rintro e w1 ⟨rfl, rfl⟩
    go_wp2
    go_ret2
    exact ⟨Gr.refl _ _, .inl ⟨by rw [HC.out]; decide, by rw [HC.out]; rfl⟩⟩
  · rw [hr] at HR
    cases ho : okN v
    · have hc : setCode xs num v = 2 := by unfold setCode; rw [if_pos (.inr ho)]
      rw [ho] at HA
      have HC := Lib.hid hc
      clear hr hc ho
      go_enter Tryd.func22, Tryd.ntmps22
      go_wp2_with fail
      refine (HR _ (Gr.refl _ _)).mono ?_; rintro e w1 ⟨rfl, rfl⟩
      go_wp2_with fail
      refine (HA _).mono ?_; rintro e w1 ⟨rfl, rfl⟩
      go_wp2
      go_ret2
      exact ⟨Gr.a1 _ _, .inl ⟨by rw [HC.out]; decide, by rw [HC.out]; rfl⟩⟩
    · rw [ho] at HA
      obtain ⟨r1, r2, r3⟩ := right_parts hr
      rw [HN.out] at r1 r2
      cases hi : inB n num
      · have hc : setCode xs num v = 131 := by unfold setCode; rw [if_neg (by rw [hr, ho]; simp), HN.out, if_pos hi]
        have HII : ∀ W : World, Calls Tryd.prog 25 #[.slice A n c, .int .i64 num] W fun e w' => e = .returned (.bool false) ∧ W = w' := fun W => by
          have := isIn_any A n c num W (by unfold maxLen; omega)
          rwa [hi] at this
        have HC := Lib.hid hc
        clear hr hc ho hi
        go_enter Tryd.func22, Tryd.ntmps22
        go_wp2_with fail
        refine (HR _ (Gr.refl _ _)).mono ?_; rintro e w1 ⟨rfl, rfl⟩
        go_wp2_with fail
        refine (HA _).mono ?_; rintro e w1 ⟨rfl, rfl⟩
        go_wp2_with fail
        refine (HII _).mono ?_; rintro e w1 ⟨rfl, rfl⟩
        go_wp2
        go_ret2
        exact ⟨Gr.a1 _ _, .inl ⟨by rw [HC.out]; decide, by rw [HC.out]; rfl⟩⟩
      · have hc : setCode xs num v = 0 := by unfold setCode; rw [if_neg (by rw [hr, ho]; simp), HN.out, if_neg (by rw [hi]; simp)]
        have hin : 0 ≤ num ∧ num < n := by have h := hi; unfold inB at h; simpa using h
        obtain ⟨j, rfl⟩ : ∃ j : Nat, num = j := ⟨num.toNat, by omega⟩
        have HII : ∀ W : World, Calls Tryd.prog 25 #[.slice A n c, .int .i64 (j : Int)] W fun e w' => e = .returned (.bool true) ∧ W = w' := fun W => by
          have := isIn_any A n c (j : Int) W (by unfold maxLen; omega)
          rwa [hi] at this
        have HC := Lib.hid hc
        clear hr hc ho hi
        go_enter Tryd.func22, Tryd.ntmps22
        go_wp2_with fail
        refine (HR _ (Gr.refl _ _)).mono ?_; rintro e w1 ⟨rfl, rfl⟩
        go_wp2_with fail
        refine (HA _).mono ?_; rintro e w1 ⟨rfl, rfl⟩
        go_wp2_with fail
        refine (HII _).mono ?_; rintro e w1 ⟨rfl, rfl⟩
        go_wp2_with fail
        refine (copied_any xs A n c _ HN.out r1 r2 (HI.out.same (Gr.a1 _ _))).mono ?_; rintro e w3 ⟨rfl, hG3, hB3⟩
        have x0 := hB3.cell j
        rw [show ((xs.map (Value.int .i64)).toArray[j]? : Option Value) = some (.int .i64 (xs[j]?.getD 0)) by simp [List.getElem?_eq_getElem (show j < xs.length by have := HN.out; omega)]] at x0
        have f0 := hB3.frozen j
        have hz : w.heap.size + 1 = (w.alloc (.cells #[.int .i64 v] 3)).heap.size := by simp
        rw [← hz] at hB3 x0 f0
        have hs3 := hG3.size
        generalize xs[j]?.getD 0 = u at x0
        have HB3 := Lib.hid hB3
        clear hB3 hz
        go_wp2
        go_ret2
        refine ⟨?_, .inr ⟨HC.out, w.heap.size + 1, by omega, rfl, ?_⟩⟩
        · exact Gr.setCell (p := ⟨w.heap.size + 1, j, none⟩) (X := fun _ => False) ((Gr.a1 _ _).next hG3) (.inr (by dsimp only; omega)) _
        · have := HB3.out.set_ j (.int .i64 v)
          rw [List.setIfInBounds_toArray] at this
          rw [Int.toNat_natCast, List.map_set]
          exact this
/-- A row of so many whole numbers. -/
def RowOK (w : World) (b q : Nat) : Prop := ∃ cs : Array Value, Blk w b 3 cs ∧ cs.size = q

set_option maxRecDepth 100000 in
set_option maxHeartbeats 8000000 in
theorem semOwn_walk (xs : List Int) (A : Option Addr) (n c : Nat) (B : Option Addr) (m d : Nat) (Nm Dl Fl : Nat → Int) (num v : Int) (w : World) (hn : xs.length = n) (hnc : n ≤ c) (hc : c ≤ maxLen) (hA : Ints w A xs)
    (hmd : m ≤ d) (hd : d ≤ maxLen) (hO : Ops w B m Nm Dl Fl) (hFl : ∀ i, i < m → -9223372036854775808 ≤ Fl i ∧ Fl i < 9223372036854775808) (hS : Sen w aR aA aW) :
    Calls Tryd.prog 9 #[.slice A n c, .slice B m d, .int .i64 num, .int .i64 v] w fun e w' => e = .returned (.bool true) ∧ Below w.heap.size w w' := by
  have HN := Lib.hid hn
  have HA := Lib.hid hA
  have HO := Lib.hid hO
  have HFL := Lib.hid hFl
  clear hn hA hO hFl
  go_enter Tryd.func9, Tryd.ntmps9
  go_wp2_with fail
  refine (shown_any (aR := aR) (aA := aA) (aW := aW) _ hS).mono ?_; rintro e w1 ⟨rfl, hG1⟩
  go_wp2_with fail
  refine (cut_any xs A n c _ HN.out hnc hc (HA.out.same hG1)).mono ?_; rintro e w1a ⟨b0, hb0, rfl, hG1a, hI1a⟩
  obtain ⟨ys, hys⟩ : ∃ ys, xs.take 12 = ys := ⟨_, rfl⟩
  obtain ⟨q, hq⟩ : ∃ q, min n 12 = q := ⟨_, rfl⟩
  have hyl : ys.length = q := by rw [← hys, List.length_take, HN.out]; omega
  rw [hys] at hI1a
  rw [hq]
  have hq12 : q ≤ 12 := by omega
  have hyt : ys.take 12 = ys := List.take_of_length_le (by omega)
  have HYL := Lib.hid hyl
  have HYT := Lib.hid hyt
  clear hys hq hyl hyt
  go_wp2_with fail
  refine (cut_any ys _ q 12 _ HYL.out hq12 (by decide) hI1a).mono ?_; rintro e w2 ⟨b1, hb1, rfl, hG2, hI2⟩
  rw [HYT.out] at hI2
  rw [show min q 12 = q by omega]
  have HIL := Lib.hid (hI1a.same hG2)
  have HIW := Lib.hid hI2
  have hGw := (hG1.next hG1a).next hG2
  clear hG1 hG1a hG2 hI1a hI2 hb0 hb1
  go_wp2_with fail
  refine (few_any B m d _ hmd hd).mono ?_; rintro e w3 ⟨rfl, rfl⟩
  obtain ⟨p, hp⟩ : ∃ p, min m 12 = p := ⟨_, rfl⟩
  rw [hp]
  have hpm : p ≤ m := by omega
  have hOp : Ops w B p Nm Dl Fl := fun h => by
    obtain ⟨g, off, e, hg, ho⟩ := HO.out (by omega)
    exact ⟨g, off, e, hg, fun i hi => ho i (by omega)⟩
  have hp12 : p ≤ 12 := by omega
  clear hp
  go_wp2_with fail
  refine (try_full ys _ q 12 B p d Nm Dl Fl _ HYL.out (by omega) (by omega) HIL.out (hOp.same hGw) (fun i hi => HFL.out i (by omega)) (hS.same hGw)).mono ?_
  rintro e w3 ⟨hSt, ⟨_, rfl⟩ | ⟨_, i, hi, _, _, rfl⟩ | ⟨_, _, b, hb, rfl, hB⟩⟩
  · generalize tcode ys p Nm = t0
    go_wp2
    go_loopw [14] (fun i wr => i = .int .i64 0 ∧ Same w2 wr) (fun _ _ => 0)
    case atStart => exact ⟨rfl, hSt⟩
    case round =>
      obtain ⟨rfl, hStr⟩ := hrel
      obtain ⟨wo, hwo⟩ : ∃ wo : World, wo = wr := ⟨_, rfl⟩
      rw [← hwo]
      rw [← hwo] at hStr
      have HS0 := Lib.hid hStr
      clear hwo hStr
      go_wp2_with fail
      refine (set_any ys _ _ 12 num v _ HYL.out (by omega) (HIL.out.same HS0.out)).mono ?_
      rintro e w5 ⟨hG5, ⟨hcz, rfl⟩ | ⟨hcz, b5, hb5, rfl, hB5⟩⟩
      · have hSs : Same w2 w5 := HS0.out.next hG5
        generalize setCode ys num v = t
        go_wp2
        go_loopw [17] (fun i wr => i = .int .i64 0 ∧ Same w2 wr) (fun _ _ => 0)
        case atStart => exact ⟨rfl, hSs⟩
        case round =>
          obtain ⟨rfl, hSsr⟩ := hrel
          go_wp2_with fail
          refine (ints_same ys _ _ _ 12 12 _ HYL.out (by omega) (HIL.out.same hSsr) (HIW.out.same hSsr)).mono ?_; rintro e wz ⟨rfl, hGz⟩
          go_wp2
          go_ret
          exact ⟨rfl, (hGw.next (hSsr.next hGz)).below⟩
      · have hSs : Same w2 w5 := HS0.out.next hG5
        have hRows : RowOK w5 b5 q := ⟨_, hB5, by simp; exact HYL.out⟩
        have hb5' : w2.heap.size ≤ b5 := by have := HS0.out.size; omega
        clear hB5
        go_wp2
        go_loopw [17] (fun i wr => ∃ k : Nat, k ≤ q ∧ i = .int .i64 k ∧ Same w2 wr ∧ RowOK wr b5 q) (fun i _ => q - (intOf i).toNat)
        case atStart => exact ⟨0, by omega, rfl, hSs, hRows⟩
        case round =>
          obtain ⟨k, hk, rfl, hSsr, cs, hcs, hcl⟩ := hrel
          by_cases hkq : k < q
          · have x0 := hcs.cell k
            have f0 := hcs.frozen k
            have HCS := Lib.hid hcs
            obtain ⟨u, hu⟩ : ∃ u, cs[k]? = some u := ⟨cs[k], Array.getElem?_eq_getElem (by omega)⟩
            rw [hu] at x0
            clear hu hcs
            go_wp2
            go_roundw
            case rel => exact ⟨k + 1, by omega, by go_num, Gr.setCell (p := ⟨b5, k, none⟩) (X := fun _ => False) hSsr (.inr (by dsimp only; omega)) _, _, HCS.out.set_ k _, by simp [hcl]⟩
            case measure => simp [intOf]; omega
          · obtain rfl : q = k := by omega
            clear hcs hcl hkq
            go_wp2_with fail
            refine (ints_same ys _ _ _ 12 12 _ HYL.out (by omega) (HIL.out.same hSsr) (HIW.out.same hSsr)).mono ?_; rintro e wz ⟨rfl, hGz⟩
            go_wp2
            go_ret
            exact ⟨rfl, (hGw.next (hSsr.next hGz)).below⟩
  · generalize code (er Nm Dl Fl ys i) = t0
    go_wp2
    go_loopw [14] (fun i wr => i = .int .i64 0 ∧ Same w2 wr) (fun _ _ => 0)
    case atStart => exact ⟨rfl, hSt⟩
    case round =>
      obtain ⟨rfl, hStr⟩ := hrel
      obtain ⟨wo, hwo⟩ : ∃ wo : World, wo = wr := ⟨_, rfl⟩
      rw [← hwo]
      rw [← hwo] at hStr
      have HS0 := Lib.hid hStr
      clear hwo hStr
      go_wp2_with fail
      refine (set_any ys _ _ 12 num v _ HYL.out (by omega) (HIL.out.same HS0.out)).mono ?_
      rintro e w5 ⟨hG5, ⟨hcz, rfl⟩ | ⟨hcz, b5, hb5, rfl, hB5⟩⟩
      · have hSs : Same w2 w5 := HS0.out.next hG5
        generalize setCode ys num v = t
        go_wp2
        go_loopw [17] (fun i wr => i = .int .i64 0 ∧ Same w2 wr) (fun _ _ => 0)
        case atStart => exact ⟨rfl, hSs⟩
        case round =>
          obtain ⟨rfl, hSsr⟩ := hrel
          go_wp2_with fail
          refine (ints_same ys _ _ _ 12 12 _ HYL.out (by omega) (HIL.out.same hSsr) (HIW.out.same hSsr)).mono ?_; rintro e wz ⟨rfl, hGz⟩
          go_wp2
          go_ret
          exact ⟨rfl, (hGw.next (hSsr.next hGz)).below⟩
      · have hSs : Same w2 w5 := HS0.out.next hG5
        have hRows : RowOK w5 b5 q := ⟨_, hB5, by simp; exact HYL.out⟩
        have hb5' : w2.heap.size ≤ b5 := by have := HS0.out.size; omega
        clear hB5
        go_wp2
        go_loopw [17] (fun i wr => ∃ k : Nat, k ≤ q ∧ i = .int .i64 k ∧ Same w2 wr ∧ RowOK wr b5 q) (fun i _ => q - (intOf i).toNat)
        case atStart => exact ⟨0, by omega, rfl, hSs, hRows⟩
        case round =>
          obtain ⟨k, hk, rfl, hSsr, cs, hcs, hcl⟩ := hrel
          by_cases hkq : k < q
          · have x0 := hcs.cell k
            have f0 := hcs.frozen k
            have HCS := Lib.hid hcs
            obtain ⟨u, hu⟩ : ∃ u, cs[k]? = some u := ⟨cs[k], Array.getElem?_eq_getElem (by omega)⟩
            rw [hu] at x0
            clear hu hcs
            go_wp2
            go_roundw
            case rel => exact ⟨k + 1, by omega, by go_num, Gr.setCell (p := ⟨b5, k, none⟩) (X := fun _ => False) hSsr (.inr (by dsimp only; omega)) _, _, HCS.out.set_ k _, by simp [hcl]⟩
            case measure => simp [intOf]; omega
          · obtain rfl : q = k := by omega
            clear hcs hcl hkq
            go_wp2_with fail
            refine (ints_same ys _ _ _ 12 12 _ HYL.out (by omega) (HIL.out.same hSsr) (HIW.out.same hSsr)).mono ?_; rintro e wz ⟨rfl, hGz⟩
            go_wp2
            go_ret
            exact ⟨rfl, (hGw.next (hSsr.next hGz)).below⟩
  · rw [HYL.out]
    have hRowt : RowOK w3 b q := ⟨_, hB, by simp [stp_len]; exact HYL.out⟩
    clear hB
    go_wp2
    go_loopw [14] (fun i wr => ∃ k : Nat, k ≤ q ∧ i = .int .i64 k ∧ Same w2 wr ∧ RowOK wr b q) (fun i _ => q - (intOf i).toNat)
    case atStart => exact ⟨0, by omega, rfl, hSt, hRowt⟩
    case round =>
      obtain ⟨k, hk, rfl, hStr, cs, hcs, hcl⟩ := hrel
      by_cases hkq : k < q
      · have x0 := hcs.cell k
        have f0 := hcs.frozen k
        have HCS := Lib.hid hcs
        obtain ⟨u, hu⟩ : ∃ u, cs[k]? = some u := ⟨cs[k], Array.getElem?_eq_getElem (by omega)⟩
        rw [hu] at x0
        clear hu hcs
        go_wp2
        go_roundw
        case rel => exact ⟨k + 1, by omega, by go_num, Gr.setCell (p := ⟨b, k, none⟩) (X := fun _ => False) hStr (.inr (by dsimp only; omega)) _, _, HCS.out.set_ k _, by simp [hcl]⟩
        case measure => simp [intOf]; omega
      · obtain rfl : q = k := by omega
        clear hcs hcl hkq
        obtain ⟨wo, hwo⟩ : ∃ wo : World, wo = wr := ⟨_, rfl⟩
        rw [← hwo]
        rw [← hwo] at hStr
        have HS0 := Lib.hid hStr
        clear hwo hStr
        go_wp2_with fail
        refine (set_any ys _ _ 12 num v _ HYL.out (by omega) (HIL.out.same HS0.out)).mono ?_
        rintro e w5 ⟨hG5, ⟨hcz, rfl⟩ | ⟨hcz, b5, hb5, rfl, hB5⟩⟩
        · have hSs : Same w2 w5 := HS0.out.next hG5
          generalize setCode ys num v = t
          go_wp2
          go_loopw [17] (fun i wr => i = .int .i64 0 ∧ Same w2 wr) (fun _ _ => 0)
          case atStart => exact ⟨rfl, hSs⟩
          case round =>
            obtain ⟨rfl, hSsr⟩ := hrel
            go_wp2_with fail
            refine (ints_same ys _ _ _ 12 12 _ HYL.out (by omega) (HIL.out.same hSsr) (HIW.out.same hSsr)).mono ?_; rintro e wz ⟨rfl, hGz⟩
            go_wp2
            go_ret
            exact ⟨rfl, (hGw.next (hSsr.next hGz)).below⟩
        · have hSs : Same w2 w5 := HS0.out.next hG5
          have hRows : RowOK w5 b5 q := ⟨_, hB5, by simp; exact HYL.out⟩
          have hb5' : w2.heap.size ≤ b5 := by have := HS0.out.size; omega
          clear hB5
          go_wp2
          go_loopw [17] (fun i wr => ∃ k : Nat, k ≤ q ∧ i = .int .i64 k ∧ Same w2 wr ∧ RowOK wr b5 q) (fun i _ => q - (intOf i).toNat)
          case atStart => exact ⟨0, by omega, rfl, hSs, hRows⟩
          case round =>
            obtain ⟨k, hk, rfl, hSsr, cs, hcs, hcl⟩ := hrel
            by_cases hkq : k < q
            · have x0 := hcs.cell k
              have f0 := hcs.frozen k
              have HCS := Lib.hid hcs
              obtain ⟨u, hu⟩ : ∃ u, cs[k]? = some u := ⟨cs[k], Array.getElem?_eq_getElem (by omega)⟩
              rw [hu] at x0
              clear hu hcs
              go_wp2
              go_roundw
              case rel => exact ⟨k + 1, by omega, by go_num, Gr.setCell (p := ⟨b5, k, none⟩) (X := fun _ => False) hSsr (.inr (by dsimp only; omega)) _, _, HCS.out.set_ k _, by simp [hcl]⟩
              case measure => simp [intOf]; omega
            · obtain rfl : q = k := by omega
              clear hcs hcl hkq
              go_wp2_with fail
              refine (ints_same ys _ _ _ 12 12 _ HYL.out (by omega) (HIL.out.same hSsr) (HIW.out.same hSsr)).mono ?_; rintro e wz ⟨rfl, hGz⟩
              go_wp2
              go_ret
              exact ⟨rfl, (hGw.next (hSsr.next hGz)).below⟩
end Go.Proofs
