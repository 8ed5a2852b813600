/- SemBack. -/
import Derived.Test.YtgecoiaidmndkaaDoorX
import Derived.Test.YtgecoiaidmndkaaDoorU
set_option linter.unusedVariables false
set_option linter.unusedSimpArgs false
namespace Go.Proofs
open Go.RowKit Go.Shelf
attribute [local go_sem] Oper.semAt_some
variable {aR aA aW : Addr}

/-! ### The plain law -/
def BN (l : List (Int × Int)) (i : Nat) : Int := (l[i]?.getD (0, 0)).1
def BD (l : List (Int × Int)) (i : Nat) : Int := (l[i]?.getD (0, 0)).2
/-- The opposite operations, of the last j of p. -/
def bl (Nm Dl : Nat → Int) (p : Nat) : Nat → List (Int × Int)
  | 0 => []
  | j + 1 => if Dl (p - 1 - j) = 0 then bl Nm Dl p j else bl Nm Dl p j ++ [(Nm (p - 1 - j), -Dl (p - 1 - j))]
section
variable {Nm Dl Fl : Nat → Int} {ys : List Int} {p : Nat}
theorem flat_congr {Nm Dl Fl Nm' Dl' Fl' : Nat → Int} (k : Nat) (h : ∀ i, i < k → Nm i = Nm' i ∧ Dl i = Dl' i ∧ Fl i = Fl' i) : flat Nm Dl Fl k = flat Nm' Dl' Fl' k := by
  induction k with
  | zero => rfl
  | succ k ih =>
    obtain ⟨a, b, c⟩ := h k (by omega)
    rw [flat, flat, ih (fun i hi => h i (by omega))]
    unfold op3
    rw [a, b, c]
def fl2 (l : List (Int × Int)) : List Value := flat (BN l) (BD l) (fun _ => 0) l.length
theorem fl2_snoc (l : List (Int × Int)) (a b : Int) : fl2 (l ++ [(a, b)]) = fl2 l ++ [.int .i64 a, .int .i64 b, .int .i64 0] := by
  unfold fl2
  rw [List.length_append]
  show flat _ _ _ (l.length + 1) = _
  rw [flat]
  congr 1
  · exact flat_congr _ (fun i hi => ⟨by unfold BN; rw [List.getElem?_append_left hi], by unfold BD; rw [List.getElem?_append_left hi], rfl⟩)
  · unfold op3 BN BD; simp
theorem bl_zero {j : Nat} (h : Dl (p - 1 - j) = 0) : bl Nm Dl p (j + 1) = bl Nm Dl p j := by rw [bl, if_pos h]
theorem bl_one {j : Nat} (h : Dl (p - 1 - j) ≠ 0) : bl Nm Dl p (j + 1) = bl Nm Dl p j ++ [(Nm (p - 1 - j), -Dl (p - 1 - j))] := by rw [bl, if_neg h]
theorem bl_len (j : Nat) : (bl Nm Dl p j).length ≤ j := by
  induction j with
  | zero => exact Nat.le_refl _
  | succ j ih =>
    by_cases h : Dl (p - 1 - j) = 0
    · rw [bl_zero h]; omega
    · rw [bl_one h, List.length_append]; simp; omega
theorem bl_pre {j k : Nat} (h : j ≤ k) : ∃ t, bl Nm Dl p k = bl Nm Dl p j ++ t := by
  induction k with
  | zero =>
    obtain rfl : j = 0 := by omega
    exact ⟨[], by simp⟩
  | succ k ih =>
    rcases Nat.lt_or_ge j (k + 1) with h1 | h1
    · obtain ⟨t, ht⟩ := ih (by omega)
      by_cases hd : Dl (p - 1 - k) = 0
      · exact ⟨t, by rw [bl_zero hd, ht]⟩
      · exact ⟨t ++ [_], by rw [bl_one hd, ht, List.append_assoc]⟩
    · obtain rfl : j = k + 1 := by omega
      exact ⟨[], by simp⟩
theorem bl_mem {j : Nat} (hj : j ≤ p) : ∀ x ∈ bl Nm Dl p j, ∃ i, i < p ∧ x.1 = Nm i := by
  induction j with
  | zero => intro x hx; simp [bl] at hx
  | succ j ih =>
    intro x hx
    by_cases hd : Dl (p - 1 - j) = 0
    · rw [bl_zero hd] at hx; exact ih (by omega) x hx
    · rw [bl_one hd] at hx
      rcases List.mem_append.1 hx with hx | hx
      · exact ih (by omega) x hx
      · obtain rfl := List.mem_singleton.1 hx
        exact ⟨p - 1 - j, by omega, rfl⟩
theorem bn_mem {l : List (Int × Int)} {i : Nat} (h : i < l.length) : ∃ x ∈ l, BN l i = x.1 := ⟨l[i], List.getElem_mem h, by unfold BN; rw [List.getElem?_eq_getElem h]; rfl⟩
theorem set_self (s : List Int) (k : Nat) : s.set k (s[k]?.getD 0) = s := by
  rcases Nat.lt_or_ge k s.length with h | h
  · rw [List.getElem?_eq_getElem h]; exact List.set_getElem_self h
  · exact List.set_eq_of_length_le h
theorem erk_back {v d : Int} (v0 : 0 ≤ v) (v1 : v ≤ 32767) (hd : d ≠ 0) : erk (v + d) (-d) 0 = 0 := by
  unfold erk
  rw [if_neg (by omega), if_neg]
  unfold mw
  by_cases h : -d < 0
  · rw [if_pos h]; simp; omega
  · rw [if_neg h, if_neg (by omega)]; simp

theorem undo (hare : areB ys = true) (hin : ∀ i, i < p → inB ys.length (Nm i) = true) (hall : ∀ i, i < p → er Nm Dl Fl ys i = 0) {L : List (Int × Int)} (hL : bl Nm Dl p p = L) (j : Nat) (hj : j ≤ p) :
    (∀ i, i < (bl Nm Dl p j).length → er (BN L) (BD L) (fun _ => 0) (stp Nm Dl Fl ys p) i = 0) ∧ stp (BN L) (BD L) (fun _ => 0) (stp Nm Dl Fl ys p) (bl Nm Dl p j).length = stp Nm Dl Fl ys (p - j) := by
  induction j with
  | zero => exact ⟨fun i hi => by simp [bl] at hi, rfl⟩
  | succ j ih =>
    obtain ⟨ih1, ih2⟩ := ih (by omega)
    have hx : p - j = p - 1 - j + 1 := by omega
    have hy : p - (j + 1) = p - 1 - j := by omega
    have hidx : p - 1 - j < p := by omega
    rw [hx] at ih2
    rw [hy]
    obtain ⟨t, ht⟩ := bl_pre (Nm := Nm) (Dl := Dl) (p := p) hj
    rw [hL] at ht
    have hn := hin _ hidx
    have hs := stp_ok (hall _ hidx)
    obtain ⟨v0, v1⟩ := areB_get (stp_are (Nm := Nm) (Dl := Dl) (Fl := Fl) hare (p - 1 - j)) (Nm (p - 1 - j)).toNat
    have hlen := stp_len (Nm := Nm) (Dl := Dl) (Fl := Fl) (xs := ys) (p - 1 - j)
    have hva : at_ Nm (stp Nm Dl Fl ys (p - 1 - j)) (p - 1 - j) = (stp Nm Dl Fl ys (p - 1 - j))[(Nm (p - 1 - j)).toNat]?.getD 0 := rfl
    by_cases hd : Dl (p - 1 - j) = 0
    · rw [bl_zero hd]
      refine ⟨ih1, ?_⟩
      rw [ih2, hs, hd, Int.add_zero, hva, set_self]
    · rw [bl_one hd] at ht ⊢
      generalize p - 1 - j = idx at *
      have hbn : BN L (bl Nm Dl p j).length = Nm idx := by unfold BN; rw [ht, List.append_assoc, List.getElem?_append_right (Nat.le_refl _), Nat.sub_self]; rfl
      have hbd : BD L (bl Nm Dl p j).length = -Dl idx := by unfold BD; rw [ht, List.append_assoc, List.getElem?_append_right (Nat.le_refl _), Nat.sub_self]; rfl
      have hin' : (Nm idx).toNat < (stp Nm Dl Fl ys idx).length := by rw [hlen]; unfold inB at hn; simp at hn; omega
      have hat : at_ (BN L) (stp (BN L) (BD L) (fun _ => 0) (stp Nm Dl Fl ys p) (bl Nm Dl p j).length) (bl Nm Dl p j).length = (stp Nm Dl Fl ys idx)[(Nm idx).toNat]?.getD 0 + Dl idx := by
        unfold at_
        rw [hbn, ih2, hs, hva, List.getElem?_set_self hin']
        rfl
      have he : er (BN L) (BD L) (fun _ => 0) (stp Nm Dl Fl ys p) (bl Nm Dl p j).length = 0 := by
        unfold er
        rw [hat, hbd]
        exact erk_back v0 v1 hd
      have hl1 : (bl Nm Dl p j ++ [(Nm idx, -Dl idx)]).length = (bl Nm Dl p j).length + 1 := by rw [List.length_append]; rfl
      rw [hl1]
      refine ⟨fun i hi => ?_, ?_⟩
      · rcases Nat.lt_or_ge i (bl Nm Dl p j).length with h | h
        · exact ih1 i h
        · obtain rfl : i = (bl Nm Dl p j).length := by omega
          exact he
      · rw [stp_ok he, hat, hbn, hbd, ih2, hs, List.set_set, Int.add_neg_cancel_right, set_self]
theorem tcode_ok {xs : List Int} {m : Nat} (hr : rightB xs = true) (hm : 0 < m) (hm8 : m ≤ 8) (hall : ∀ i, i < m → inB xs.length (Nm i) = true) : tcode xs m Nm = 0 := by
  unfold tcode; rw [if_neg (by rw [hr]; simp; omega), if_neg (by omega), if_pos]
  rw [List.all_eq_true]; exact fun i hi => hall i (List.mem_range.1 hi)
/-- All that the last part of the walk wants of the opposite operations. -/
theorem back_all (hr : rightB ys = true) (hp8 : p ≤ 8) (hin : ∀ i, i < p → inB ys.length (Nm i) = true) (hall : ∀ i, i < p → er Nm Dl Fl ys i = 0) {L : List (Int × Int)} (hL : bl Nm Dl p p = L) :
    L.length ≤ 8 ∧ (L.length = 0 → stp Nm Dl Fl ys p = ys) ∧ (0 < L.length → tcode (stp Nm Dl Fl ys p) L.length (BN L) = 0) ∧ (∀ i, i < L.length → er (BN L) (BD L) (fun _ => 0) (stp Nm Dl Fl ys p) i = 0) ∧ stp (BN L) (BD L) (fun _ => 0) (stp Nm Dl Fl ys p) L.length = ys := by
  obtain ⟨r1, r2, r3⟩ := right_parts hr
  obtain ⟨u1, u2⟩ := undo r3 hin hall hL p (Nat.le_refl _)
  have hlen := bl_len (Nm := Nm) (Dl := Dl) (p := p) p
  rw [hL] at u1 u2 hlen
  rw [Nat.sub_self, stp_zero] at u2
  refine ⟨by omega, fun h => by rw [h] at u2; exact u2, fun h => tcode_ok (right_stp hr p) h (by omega) (fun i hi => ?_), u1, u2⟩
  obtain ⟨x, hx, e⟩ := bn_mem hi
  rw [← hL] at hx
  obtain ⟨k, hk, ek⟩ := bl_mem (Nat.le_refl _) x hx
  rw [e, ek, stp_len]
  exact hin k hk
/-- How far an operation that is done goes. -/
theorem dl_bound (hare : areB ys = true) (hall : ∀ i, i < p → er Nm Dl Fl ys i = 0) (i : Nat) (hi : i < p) : -32767 ≤ Dl i ∧ Dl i ≤ 32767 := by
  obtain ⟨v0, v1⟩ := areB_get (stp_are (Nm := Nm) (Dl := Dl) (Fl := Fl) hare i) (Nm i).toNat
  have := erk_zero v0 v1 (hall i hi)
  omega
end

set_option maxRecDepth 100000 in
set_option maxHeartbeats 8000000 in
theorem semBack_walk (xs : List Int) (A : Option Addr) (n c : Nat) (B : Option Addr) (m d : Nat) (Nm Dl Fl : Nat → Int) (w : World) (hn : xs.length = n) (hnc : n ≤ c) (hc : c ≤ maxLen) (hA : Ints w A xs)
    (hmd : m ≤ d) (hd : d ≤ maxLen) (hO : Ops w B m Nm Dl Fl) (hFl : ∀ i, i < m → -9223372036854775808 ≤ Fl i ∧ Fl i < 9223372036854775808) (hS : Sen w aR aA aW) :
    Calls Tryd.prog 5 #[.slice A n c, .slice B m d] w fun e w' => e = .returned (.bool true) ∧ Below w.heap.size w w' := by
  have HN := Lib.hid hn
  have HA := Lib.hid hA
  have HO := Lib.hid hO
  have HFL := Lib.hid hFl
  clear hn hA hO hFl
  go_enter Tryd.func5, Tryd.ntmps5
  go_wp2_with fail
  refine (shown_any (aR := aR) (aA := aA) (aW := aW) _ hS).mono ?_; rintro e w1 ⟨rfl, hG1⟩
  go_wp2_with fail
  refine (cut_any xs A n c _ HN.out hnc hc (HA.out.same hG1)).mono ?_; rintro e w2 ⟨b0, hb0, rfl, hG2, hI2⟩
  go_wp2_with fail
  refine (few_any B m d _ hmd hd).mono ?_; rintro e w3 ⟨rfl, rfl⟩
  obtain ⟨ys, hys⟩ : ∃ ys, xs.take 12 = ys := ⟨_, rfl⟩
  obtain ⟨q, hq⟩ : ∃ q, min n 12 = q := ⟨_, rfl⟩
  obtain ⟨p, hp⟩ : ∃ p, min m 12 = p := ⟨_, rfl⟩
  have hyl : ys.length = q := by rw [← hys, List.length_take, HN.out]; omega
  rw [hys] at hI2
  rw [hq, hp]
  have hpm : p ≤ m := by omega
  have hp12 : p ≤ 12 := by omega
  have hq12 : q ≤ 12 := by omega
  have hOp : Ops w B p Nm Dl Fl := fun h => by
    obtain ⟨g, off, e, hg, ho⟩ := HO.out (by omega)
    exact ⟨g, off, e, hg, fun i hi => ho i (by omega)⟩
  have HFp : Hid (∀ i, i < p → -9223372036854775808 ≤ Fl i ∧ Fl i < 9223372036854775808) := Lib.hid (fun i hi => HFL.out i (by omega))
  have hGw := hG1.next hG2
  have HYL := Lib.hid hyl
  have HOP := Lib.hid (hOp.same hGw)
  have HI2 := Lib.hid hI2
  clear hys hq hp hyl hG1 hG2 hOp hI2 hmd hd hpm HFL HO HA HN hb0
  go_wp2_with fail
  refine (try_full ys _ q 12 B p d Nm Dl Fl _ HYL.out (by omega) (by omega) HI2.out HOP.out HFp.out (hS.same hGw)).mono ?_
  rintro e w3 ⟨hG3, h3⟩
  have hGa := hGw.next hG3
  rcases h3 with ⟨ht, rfl⟩ | ⟨ht, i1, hi1, hne1, hlt1, rfl⟩ | ⟨ht, hall1, b1, hb1, rfl, hB1⟩
  · have htm := tcode_mem ht
    generalize tcode ys p Nm = t at htm ⊢
    clear ht
    rcases htm with rfl | rfl | rfl
    all_goals
      go_wp2
      go_ret
      exact ⟨rfl, hGa.below⟩
  · have htm := code_mem hne1
    generalize code (er Nm Dl Fl ys i1) = t at htm ⊢
    clear ht hne1 hlt1
    rcases htm with rfl | rfl | rfl
    all_goals
      go_wp2
      go_ret
      exact ⟨rfl, hGa.below⟩
  · obtain ⟨hr, hp1, hp8, hin⟩ := tcode_zero ht
    obtain ⟨L, hL⟩ : ∃ L, bl Nm Dl p p = L := ⟨_, rfl⟩
    obtain ⟨hL8, hL0, hLt, hLe, hLs⟩ := back_all hr hp8 hin hall1 hL
    have HBD := Lib.hid (dl_bound (Nm := Nm) (Dl := Dl) (Fl := Fl) (right_parts hr).2.2 hall1)
    rw [HYL.out]
    have HL0 := Lib.hid hL0
    have HLT := Lib.hid hLt
    have HLE := Lib.hid hLe
    have HLS := Lib.hid hLs
    have HLL := Lib.hid hL
    have I1 := Lib.hid (ints_blk hB1)
    have HI3 := Lib.hid (HI2.out.same hG3)
    have HS3 := Lib.hid (hS.same hGa)
    have HO3 := Lib.hid (HOP.out.same hG3)
    clear hL0 hLt hLe hLs hL hB1 hall1 ht hr hin HI2 HOP HFp hS hGw hG3
    obtain ⟨i0, hi, hz0, hz1, hz2⟩ := info_parts info32
    go_wp2
    go_loopw [9, 10] (fun o i wr => ∃ j : Nat, j ≤ p ∧ i = .int .i64 ((p : Int) - 1 - j) ∧ Hid (wr.ownsRow w3.heap.size 32 3 o (bl Nm Dl p j).length (fl2 (bl Nm Dl p j))) ∧ Same w3 wr) (fun _ i _ => (intOf i + 1).toNat)
    case atStart => exact ⟨0, by omega, by simp, Lib.hid (World.ownsRow_nil _ _ _ _), Gr.refl _ _⟩
    case round =>
      obtain ⟨j, hj, rfl, HR, hG⟩ := hrel
      by_cases hjp : j < p
      · obtain ⟨k, hk⟩ : ∃ k : Nat, p - 1 - j = k := ⟨_, rfl⟩
        have hki : (p : Int) - 1 - j = k := by omega
        have hkp : k < p := by omega
        have hk1 : (p : Int) - 1 - (j + 1 : Nat) = (k : Int) - 1 := by omega
        rw [hki]
        obtain ⟨g, off, rfl, hg, ho⟩ := HO3.out (by omega)
        obtain ⟨o0, o1, _⟩ := ho.gr hG (fun f => f) k hkp
        obtain ⟨d0, d1⟩ := HBD.out k hkp
        obtain ⟨Ao, co, rfl, _⟩ := own_ops (Nm := BN (bl Nm Dl p j)) (Dl := BD (bl Nm Dl p j)) (Fl := fun _ => 0) HR.out
        have hbl := bl_len (Nm := Nm) (Dl := Dl) (p := p) j
        have hsz := hG.size
        have hrow := HR.out
        have HK1 := Lib.hid hk1
        have hB0 : Hid (Dl k = 0 → bl Nm Dl p (j + 1) = bl Nm Dl p j) := Lib.hid (fun h => bl_zero (by rw [hk]; exact h))
        have hB1 : Hid (Dl k ≠ 0 → bl Nm Dl p (j + 1) = bl Nm Dl p j ++ [(Nm k, -Dl k)]) := Lib.hid (fun h => by rw [bl_one (by rw [hk]; exact h), hk])
        clear ho HR hk hk1
        generalize bl Nm Dl p j = l0 at *
        generalize Nm k = num at *
        generalize Dl k = dd at *
        by_cases hdd : dd = 0
        · have HE := Lib.hid (hB0.out hdd)
          subst hdd
          clear hB0 hB1
          go_wp2
          go_roundw
          case rel => exact ⟨j + 1, by omega, by rw [HK1.out], by rw [HE.out]; exact Lib.hid hrow, hG⟩
          case measure => first | (simp [intOf]; done) | (simp [intOf]; omega)
        · have HE := Lib.hid (hB1.out hdd)
          have HE2 : Hid (fl2 (l0 ++ [(num, -dd)]) = fl2 l0 ++ [.int .i64 num, .int .i64 (IntKind.i64.wrap (-dd)), .int .i64 0]) := Lib.hid (by rw [show IntKind.i64.wrap (-dd) = -dd by rw [IntKind.wrap_i64]; omega]; exact fl2_snoc _ _ _)
          have HE3 : Hid ((l0 ++ [(num, -dd)]).length = l0.length + 1) := Lib.hid (by simp)
          have hdd' : (dd != 0) = true := by rw [bne_iff_ne]; exact hdd
          clear hB0 hB1
          generalize fl2 l0 = fs at *
          generalize l0.length = z at *
          go_wp2
          go_region_law (refine step_append_lies _ rfl (.tmp 42) (.tmp 55) 23 rfl w3.heap.size 32 i0 (.agg #[.int .i64 0, .int .i64 0, .int .i64 0]) 3 24 Tryd.underlying23 hi hz0 hz1 hz2 rfl (by decide) (.slice Ao z co) z fs (by simp [Act.eval, Act.put]) (show (wr.alloc (.cells #[.int .i64 num, .int .i64 (IntKind.i64.wrap (-dd)), .int .i64 0] 32)).drew.ownsRow w3.heap.size 32 3 (.slice Ao z co) z fs from World.ownsRow.alloc hrow _) ⟨wr.heap.size, 0, none⟩ 1 1 [.int .i64 num, .int .i64 (IntKind.i64.wrap (-dd)), .int .i64 0] (by simp [Act.eval, Act.put]) rfl (fun j u hj => by rw [Go.WideShapes.add_plain, Blk.cell (show Blk (wr.alloc (.cells #[.int .i64 num, .int .i64 (IntKind.i64.wrap (-dd)), .int .i64 0] 32)).drew wr.heap.size 32 #[.int .i64 num, .int .i64 (IntKind.i64.wrap (-dd)), .int .i64 0] from Blk.new wr 32 _ _ rfl)]; simpa using hj) (by simp [Value.oneCell']) (by omega) (by unfold maxLen; omega) (by omega) (by simp; omega) _ rfl ?_; intro g' cap' w' hown' hgrow' hg' hlt')
          all_goals
            go_wp2
            go_roundw
            case rel =>
              refine ⟨j + 1, by omega, by rw [HK1.out], by rw [HE.out, HE2.out, HE3.out]; exact Lib.hid hown', ?_⟩
              refine (hG.alloc _).drew.trans (Y := fun j => w3.heap.size ≤ j) (Gr.of_grownBy hgrow' (fun j hj => .inl ?_)) (fun j hj h => by omega)
              exact (hrow.lt j hj).1
            case measure => first | (simp [intOf]; done) | (simp [intOf]; omega)
      · obtain rfl : p = j := by omega
        have HR2 := HR
        rw [HLL.out] at HR2
        obtain ⟨Ao, co, rfl, _, _, hOo⟩ := own_ops (Nm := BN L) (Dl := BD L) (Fl := fun _ => 0) HR2.out
        have HOo := Lib.hid hOo
        have hSL : (stp Nm Dl Fl ys p).length = q := by rw [stp_len, HYL.out]
        have HSL := Lib.hid hSL
        obtain ⟨K, hK⟩ : ∃ K, L.length = K := ⟨_, rfl⟩
        rw [hK] at HOo HL0 HLT HLE HLS hL8 ⊢
        clear HR HR2 hOo HLL hK hSL
        by_cases hK0 : K = 0
        · have HY : Hid (Ints wr (some ⟨b1, 0, none⟩) ys) := Lib.hid (by have := I1.out.same hG; rwa [HL0.out hK0] at this)
          subst hK0
          clear HL0 HLT HLE HLS I1
          go_wp2_with fail
          refine (ints_same ys _ _ q q 12 _ HYL.out (by omega) HY.out (HI3.out.same hG)).mono ?_; rintro e w5 ⟨rfl, hG5⟩
          go_wp2
          go_ret
          exact ⟨by first | rfl | simp, ((hGa.next hG).next hG5).below⟩
        · have hK1 : ((K : Int) == 0) = false := by simp; omega
          obtain ⟨wo, hwo⟩ : ∃ wo : World, wo = wr := ⟨_, rfl⟩
          rw [← hwo] at HOo hG ⊢
          clear hwo
          go_wp2_with fail
          refine (try_full (stp Nm Dl Fl ys p) _ q q Ao K co (BN L) (BD L) (fun _ => 0) _ HSL.out (by omega) (by omega) (I1.out.same hG) HOo.out (fun _ _ => by omega) (HS3.out.same hG)).mono ?_
          rintro e w4 ⟨hG4, ⟨ht', _⟩ | ⟨_, i2, hi2, hne2, _⟩ | ⟨_, _, b2, hb2, rfl, hB2⟩⟩
          · exact absurd (HLT.out (by omega)) ht'
          · exact absurd (HLE.out i2 hi2) hne2
          · rw [HSL.out]
            have HB2 := Lib.hid (ints_blk hB2)
            rw [HLS.out] at HB2
            clear hB2 HL0 HLT HLE HLS
            go_wp2_with fail
            refine (ints_same ys _ _ q q 12 _ HYL.out (by omega) HB2.out (HI3.out.same (hG.next hG4))).mono ?_; rintro e w5 ⟨rfl, hG5⟩
            go_wp2
            go_ret
            exact ⟨by first | rfl | simp, (((hGa.next hG).next hG4).next hG5).below⟩
end Go.Proofs
