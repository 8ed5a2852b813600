/- SemFlags: operations of other flags. -/
import Derived.Test.YtgecoiaidmndkaaDoorN
import Derived.Deep.AppendLies
set_option linter.unusedVariables false
set_option linter.unusedSimpArgs false
namespace Go.Proofs
open Go.RowKit Go.Shelf
attribute [local go_sem] Oper.semAt_some
variable {aR aA aW : Addr}

/-! ### Operations that a call collects -/
def op3 (Nm Dl Fl : Nat → Int) (i : Nat) : List Value := [.int .i64 (Nm i), .int .i64 (Dl i), .int .i64 (Fl i)]
def flat (Nm Dl Fl : Nat → Int) : Nat → List Value
  | 0 => []
  | k + 1 => flat Nm Dl Fl k ++ op3 Nm Dl Fl k
theorem flat_len (Nm Dl Fl : Nat → Int) (k : Nat) : (flat Nm Dl Fl k).length = k * 3 := by
  induction k with
  | zero => rfl
  | succ k ih => rw [flat, List.length_append, ih]; simp [op3]; omega
theorem flat_get (Nm Dl Fl : Nat → Int) (k i j : Nat) (hi : i < k) (hj : j < 3) : (flat Nm Dl Fl k)[i * 3 + j]? = (op3 Nm Dl Fl i)[j]? := by
  induction k with
  | zero => omega
  | succ k ih =>
    rw [flat]
    rcases Nat.lt_or_ge i k with h | h
    · rw [List.getElem?_append_left (by rw [flat_len]; omega), ih h]
    · obtain rfl : i = k := by omega
      rw [List.getElem?_append_right (by rw [flat_len]; omega), flat_len, Nat.add_sub_cancel_left]
theorem own_ops {w : World} {base k : Nat} {v : Value} {Nm Dl Fl : Nat → Int} (h : w.ownsRow base 32 3 v k (flat Nm Dl Fl k)) : ∃ A c, v = .slice A k c ∧ k ≤ c ∧ c ≤ maxLen ∧ Ops w A k Nm Dl Fl := by
  rcases h.2 with ⟨rfl, rfl⟩ | ⟨g, cap, cur, rfl, hg, hb, h1, h2, h3, h4⟩
  · exact ⟨none, 0, rfl, Nat.le_refl _, by unfold maxLen; omega, fun h => by omega⟩
  · refine ⟨_, cap, rfl, h1, h2, fun hk => ⟨g, 0, rfl, Blk.lt (show Blk w g 32 cur from hb), fun i hi => ?_⟩⟩
    have key : ∀ j, j < 3 → w.cell? ⟨g, 0 + i * 3 + j, none⟩ = (op3 Nm Dl Fl i)[j]? := fun j hj => by
      rw [Blk.cell (show Blk w g 32 cur from hb), ← flat_get Nm Dl Fl k i j hi hj, ← h4, List.getElem?_take_of_lt (by omega)]
      simp
    exact ⟨key 0 (by omega), key 1 (by omega), key 2 (by omega)⟩
theorem info32 : (Tryd.prog.info? 32).map (fun i => (i.zero, i.size, i.bytes)) = some (some (.agg #[.int .i64 0, .int .i64 0, .int .i64 0]), 3, 24) := by kernel_rfl

/-! ### The plain law -/
theorem erk_flags (v d f g : Int) : (erk v d f = 0 ↔ erk v d g = 0) ∧ (erk v d f = 1 ↔ erk v d g = 1) := by
  unfold erk
  constructor
  all_goals
    split
    · simp
    · split
      · split <;> split <;> simp
      · simp
theorem stp_flags {Nm Dl Fl Gl : Nat → Int} {xs : List Int} (i : Nat) : stp Nm Dl Fl xs i = stp Nm Dl Gl xs i := by
  induction i with
  | zero => rfl
  | succ i ih =>
    by_cases h : er Nm Dl Fl xs i = 0
    · have h' : er Nm Dl Gl xs i = 0 := by unfold er at *; rw [← ih]; exact (erk_flags _ _ _ _).1.1 h
      rw [stp_ok h, stp_ok h', ih]
    · have h' : er Nm Dl Gl xs i ≠ 0 := by unfold er at *; rw [← ih]; exact fun h2 => h ((erk_flags _ _ _ _).1.2 h2)
      rw [stp_no h, stp_no h', ih]
theorem er_flags {Nm Dl Fl : Nat → Int} (Gl : Nat → Int) {xs : List Int} (i : Nat) : (er Nm Dl Fl xs i = 0 ↔ er Nm Dl Gl xs i = 0) ∧ (er Nm Dl Fl xs i = 1 ↔ er Nm Dl Gl xs i = 1) := by
  unfold er
  rw [stp_flags (Fl := Fl) (Gl := Gl) i]
  exact erk_flags _ _ _ _
theorem code_two {k : Nat} (h0 : k ≠ 0) (h1 : k ≠ 1) : code k = 63 ∨ code k = 133 := by
  match k with
  | 0 => exact absurd rfl h0
  | 1 => exact absurd rfl h1
  | 2 => exact .inl rfl
  | n + 3 => exact .inr rfl

set_option maxRecDepth 100000 in
set_option maxHeartbeats 8000000 in
theorem semFlags_walk (xs : List Int) (A : Option Addr) (n c : Nat) (B : Option Addr) (m d : Nat) (Nm Dl Fl : Nat → Int) (f : Int) (w : World) (hn : xs.length = n) (hnc : n ≤ c) (hc : c ≤ maxLen) (hA : Ints w A xs)
    (hmd : m ≤ d) (hd : d ≤ maxLen) (hO : Ops w B m Nm Dl Fl) (hFl : ∀ i, i < m → -9223372036854775808 ≤ Fl i ∧ Fl i < 9223372036854775808) (hS : Sen w aR aA aW) :
    Calls Tryd.prog 6 #[.slice A n c, .slice B m d, .int .i64 f] w fun e w' => e = .returned (.bool true) ∧ Below w.heap.size w w' := by
  have HN := Lib.hid hn
  have HA := Lib.hid hA
  have HO := Lib.hid hO
  have HFL := Lib.hid hFl
  clear hn hA hO hFl
  go_enter Tryd.func6, Tryd.ntmps6
  go_wp2_with fail
  refine (shown_any (aR := aR) (aA := aA) (aW := aW) _ hS).mono ?_; rintro e w1 ⟨rfl, hG1⟩
  go_wp2_with fail
  refine (cut_any xs A n c _ HN.out hnc hc (HA.out.same hG1)).mono ?_; rintro e w2 ⟨b0, hb0, rfl, hG2, hI2⟩
  go_wp2_with fail
  refine (few_any B m d _ hmd hd).mono ?_; rintro e w3 ⟨rfl, rfl⟩
  obtain ⟨ys, hys⟩ : ∃ ys, xs.take 12 = ys := ⟨_, rfl⟩
  obtain ⟨q, hq⟩ : ∃ q, min n 12 = q := ⟨_, rfl⟩
  obtain ⟨p, hp⟩ : ∃ p, min m 12 = p := ⟨_, rfl⟩
  have hyl : ys.length = q := by rw [← hys, List.length_take, HN.out]; omega
  rw [hys] at hI2
  rw [hq, hp]
  have hpm : p ≤ m := by omega
  have hp12 : p ≤ 12 := by omega
  have hq12 : q ≤ 12 := by omega
  have hOp : Ops w B p Nm Dl Fl := fun h => by
    obtain ⟨g, off, e, hg, ho⟩ := HO.out (by omega)
    exact ⟨g, off, e, hg, fun i hi => ho i (by omega)⟩
  have HFp : Hid (∀ i, i < p → -9223372036854775808 ≤ Fl i ∧ Fl i < 9223372036854775808) := Lib.hid (fun i hi => HFL.out i (by omega))
  have hGw := hG1.next hG2
  have HYL := Lib.hid hyl
  have HOP := Lib.hid (hOp.same hGw)
  have HI2 := Lib.hid hI2
  clear hys hq hp hyl hG1 hG2 hOp hI2 hmd hd hpm HFL HO HA HN hb0
  by_cases hr : 0 ≤ f ∧ f ≤ 255
  · obtain ⟨hf0, hf1⟩ := hr
    obtain ⟨i0, hi, hz0, hz1, hz2⟩ := info_parts info32
    go_wp2
    go_loopw [8, 9] (fun o i wr => ∃ k : Nat, k ≤ p ∧ i = .int .i64 k ∧ Hid (wr.ownsRow w2.heap.size 32 3 o k (flat Nm Dl (fun _ => f) k)) ∧ Same w2 wr) (fun _ i _ => p - (intOf i).toNat)
    case atStart => exact ⟨0, by omega, rfl, Lib.hid (World.ownsRow_nil _ _ _ _), Gr.refl _ _⟩
    case round =>
      rename_i o i wr
      obtain ⟨k, hk, rfl, HR, hG⟩ := hrel
      by_cases hkp : k < p
      · obtain ⟨g, off, rfl, hg, ho⟩ := HOP.out (by omega)
        obtain ⟨o0, o1, _⟩ := ho.gr hG (fun f => f) k hkp
        obtain ⟨Ao, co, rfl, _⟩ := own_ops HR.out
        have HR2 := Lib.hid (show flat Nm Dl (fun _ => f) (k + 1) = flat Nm Dl (fun _ => f) k ++ [.int .i64 (Nm k), .int .i64 (Dl k), .int .i64 f] from rfl)
        have hsz := hG.size
        have hrow := HR.out
        clear ho HR
        generalize Nm k = num at *
        generalize Dl k = dd at *
        generalize flat Nm Dl (fun _ => f) k = fs at *
        go_wp2
        go_region_law (refine step_append_lies _ rfl (.tmp 35) (.tmp 48) 23 rfl w2.heap.size 32 i0 (.agg #[.int .i64 0, .int .i64 0, .int .i64 0]) 3 24 Tryd.underlying23 hi hz0 hz1 hz2 rfl (by decide) (.slice Ao k co) k fs (by simp [Act.eval, Act.put]) (show (wr.alloc (.cells #[.int .i64 num, .int .i64 dd, .int .i64 f] 32)).drew.ownsRow w2.heap.size 32 3 (.slice Ao k co) k fs from World.ownsRow.alloc hrow _) ⟨wr.heap.size, 0, none⟩ 1 1 [.int .i64 num, .int .i64 dd, .int .i64 f] (by simp [Act.eval, Act.put]) rfl (fun j u hj => by rw [Go.WideShapes.add_plain, Blk.cell (show Blk (wr.alloc (.cells #[.int .i64 num, .int .i64 dd, .int .i64 f] 32)).drew wr.heap.size 32 #[.int .i64 num, .int .i64 dd, .int .i64 f] from Blk.new wr 32 _ _ rfl)]; simpa using hj) (by simp [Value.oneCell']) (by omega) (by unfold maxLen; omega) (by omega) (by simp; omega) _ rfl ?_; intro g' cap' w' hown' hgrow' hg' hlt')
        all_goals
          go_wp2
          go_roundw
          case rel =>
            refine ⟨k + 1, by omega, by go_num, Lib.hid (by rw [HR2.out]; exact hown'), ?_⟩
            refine (hG.alloc _).drew.trans (Y := fun j => w2.heap.size ≤ j) (Gr.of_grownBy hgrow' (fun j hj => ?_)) (fun j hj h => by omega)
            left
            rcases hrow.2 with ⟨e, _⟩ | ⟨g2, cap2, cur2, e, hb2, _⟩
            · cases e; simp [Value.ownBlock] at hj
            · cases e
              obtain rfl : g2 = j := by simpa [Value.ownBlock] using hj
              exact hb2
          case measure => simp [intOf]; omega
      · obtain rfl : p = k := by omega
        obtain ⟨Ao, co, rfl, _, _, hOo⟩ := own_ops HR.out
        have HOo := Lib.hid hOo
        clear HR hOo hkp
        obtain ⟨w0, hw0⟩ : ∃ w0 : World, w0 = wr := ⟨_, rfl⟩
        rw [← hw0] at HOo hG ⊢
        clear hw0
        go_wp2_with fail
        refine (try_full ys _ q 12 B p d Nm Dl Fl _ HYL.out (by omega) (by omega) (HI2.out.same hG) (HOP.out.same hG) HFp.out (hS.same (hGw.next hG))).mono ?_
        rintro e w3 ⟨hG3, h3⟩
        have hGa := hG.next hG3
        rcases h3 with ⟨ht, rfl⟩ | ⟨ht, i1, hi1, hne1, hlt1, rfl⟩ | ⟨ht, hall1, b1, hb1, rfl, hB1⟩
        · go_wp2_with fail
          refine (try_full ys _ q 12 Ao p co Nm Dl (fun _ => f) _ HYL.out (by omega) (by omega) (HI2.out.same hGa) (HOo.out.same hG3) (fun _ _ => by omega) (hS.same (hGw.next hGa))).mono ?_
          rintro e w4 ⟨hG4, ⟨_, rfl⟩ | ⟨ht', _⟩ | ⟨ht', _⟩⟩
          · have htm := tcode_mem ht
            generalize tcode ys p Nm = t at htm ⊢
            clear ht
            have hGb := hGa.next hG4
            rcases htm with rfl | rfl | rfl
            all_goals
              go_wp2_with fail
              refine (ints_same [] _ _ 0 0 0 _ rfl (by omega) (fun h => by simp at h) (fun h => by simp at h)).mono ?_; rintro e w5 ⟨rfl, hG5⟩
              go_wp2
              go_ret
              exact ⟨rfl, ((hGw.next hGb).next hG5).below⟩
          · exact absurd ht' ht
          · exact absurd ht' ht
        · go_wp2_with fail
          refine (try_full ys _ q 12 Ao p co Nm Dl (fun _ => f) _ HYL.out (by omega) (by omega) (HI2.out.same hGa) (HOo.out.same hG3) (fun _ _ => by omega) (hS.same (hGw.next hGa))).mono ?_
          rintro e w4 ⟨hG4, ⟨ht', _⟩ | ⟨_, i2, hi2, hne2, hlt2, rfl⟩ | ⟨_, hall2, _⟩⟩
          · exact absurd ht ht'
          · have hGb := hGa.next hG4
            have hii : i2 = i1 := by
              rcases Nat.lt_trichotomy i2 i1 with h | h | h
              · exact absurd ((er_flags (fun _ => f) i2).1.1 (hlt1 i2 h)) hne2
              · exact h
              · exact absurd ((er_flags (fun _ => f) i1).1.2 (hlt2 i1 h)) hne1
            subst hii
            by_cases h1 : er Nm Dl Fl ys i2 = 1
            · have h2 := (er_flags (Fl := Fl) (fun _ => f) i2).2.1 h1
              rw [h1, h2]
              clear h1 h2 hne1 hne2 hlt1 hlt2 ht
              simp only [code]
              go_wp2_with fail
              refine (ints_same [] _ _ 0 0 0 _ rfl (by omega) (fun h => by simp at h) (fun h => by simp at h)).mono ?_; rintro e w5 ⟨rfl, hG5⟩
              go_wp2
              go_ret
              exact ⟨by first | rfl | simp, ((hGw.next hGb).next hG5).below⟩
            · have h2 : er Nm Dl (fun _ => f) ys i2 ≠ 1 := fun h => h1 ((er_flags (Fl := Fl) (fun _ => f) i2).2.2 h)
              have c1 := code_two hne1 h1
              have c2 := code_two hne2 h2
              generalize code (er Nm Dl Fl ys i2) = k1 at c1 ⊢
              generalize code (er Nm Dl (fun _ => f) ys i2) = k2 at c2 ⊢
              clear h1 h2 hne1 hne2 hlt1 hlt2 ht
              rcases c1 with rfl | rfl <;> rcases c2 with rfl | rfl
              all_goals
                go_wp2_with fail
                refine (ints_same [] _ _ 0 0 0 _ rfl (by omega) (fun h => by simp at h) (fun h => by simp at h)).mono ?_; rintro e w5 ⟨rfl, hG5⟩
                go_wp2
                go_ret
                exact ⟨by first | rfl | simp, ((hGw.next hGb).next hG5).below⟩
          · exact absurd ((er_flags (Fl := Fl) (fun _ => f) i1).1.2 (hall2 i1 hi1)) hne1
        · go_wp2_with fail
          refine (try_full ys _ q 12 Ao p co Nm Dl (fun _ => f) _ HYL.out (by omega) (by omega) (HI2.out.same hGa) (HOo.out.same hG3) (fun _ _ => by omega) (hS.same (hGw.next hGa))).mono ?_
          rintro e w4 ⟨hG4, ⟨ht', _⟩ | ⟨_, i2, hi2, hne2, hlt2, _⟩ | ⟨_, hall2, b2, hb2, rfl, hB2⟩⟩
          · exact absurd ht ht'
          · exact absurd ((er_flags (Fl := Fl) (fun _ => f) i2).1.1 (hall1 i2 hi2)) hne2
          · have hGb := hGa.next hG4
            rw [stp_flags (Fl := fun _ => f) (Gl := Fl)] at hB2
            have I1 := Lib.hid ((ints_blk hB1).same hG4)
            have I2 := Lib.hid (ints_blk hB2)
            rw [HYL.out]
            clear hall1 hall2 ht hB1 hB2
            go_wp2_with fail
            refine (ints_same (stp Nm Dl Fl ys p) _ _ q q q _ (by rw [stp_len, HYL.out]) (by omega) I1.out I2.out).mono ?_; rintro e w5 ⟨rfl, hG5⟩
            go_wp2
            go_ret
            exact ⟨by first | rfl | simp, ((hGw.next hGb).next hG5).below⟩
  · go_wp2
    all_goals first | (go_ret; exact ⟨rfl, hGw.below⟩) | (exfalso; omega)
end Go.Proofs
