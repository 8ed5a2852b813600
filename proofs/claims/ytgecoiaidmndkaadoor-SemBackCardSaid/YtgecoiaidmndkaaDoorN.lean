/- Semaphores: Try, whatever it is asked; SemAll. -/
import Derived.Test.YtgecoiaidmndkaaDoorM
set_option linter.unusedVariables false
set_option linter.unusedSimpArgs false
namespace Go.Proofs
open Go.RowKit Go.Shelf
attribute [local go_sem] Oper.semAt_some
variable {aR aA aW : Addr}

/-- Why operations are not tried at all: 0 if they are. -/
def tcode (xs : List Int) (m : Nat) (Nm : Nat → Int) : Int := if rightB xs = false ∨ m = 0 then 2 else if 8 < m then 130 else if (List.range m).all (fun i => inB xs.length (Nm i)) = true then 0 else 131
def TryFull (aR aA aW : Addr) (w : World) (m : Nat) (Nm Dl Fl : Nat → Int) (xs : List Int) (e : Ending) (w' : World) : Prop :=
  Same w w' ∧
  ((tcode xs m Nm ≠ 0 ∧ e = .returned (.tuple #[.slice none 0 0, .int .i64 0, .int .i64 (tcode xs m Nm)])) ∨
   (tcode xs m Nm = 0 ∧ ∃ i, i < m ∧ er Nm Dl Fl xs i ≠ 0 ∧ (∀ j, j < i → er Nm Dl Fl xs j = 0) ∧ e = .returned (.tuple #[.slice none 0 0, .int .i64 i, .int .i64 (code (er Nm Dl Fl xs i))])) ∨
   (tcode xs m Nm = 0 ∧ (∀ i, i < m → er Nm Dl Fl xs i = 0) ∧ ∃ b, w.heap.size ≤ b ∧ e = .returned (.tuple #[.slice (some ⟨b, 0, none⟩) xs.length xs.length, .int .i64 0, .int .i64 0]) ∧ Blk w' b 3 ((stp Nm Dl Fl xs m).map (Value.int .i64)).toArray))

theorem tcode_zero {xs : List Int} {m : Nat} {Nm : Nat → Int} (h : tcode xs m Nm = 0) : rightB xs = true ∧ 1 ≤ m ∧ m ≤ 8 ∧ ∀ i, i < m → inB xs.length (Nm i) = true := by
  unfold tcode at h
  split at h
  · cases h
  · rename_i h1
    split at h
    · cases h
    · rename_i h2
      split at h
      · rename_i h3
        rw [List.all_eq_true] at h3
        refine ⟨by cases hr : rightB xs <;> simp_all, by omega, by omega, fun i hi => h3 i (List.mem_range.2 hi)⟩
      · cases h
theorem tcode_mem {xs : List Int} {m : Nat} {Nm : Nat → Int} (h : tcode xs m Nm ≠ 0) : tcode xs m Nm = 2 ∨ tcode xs m Nm = 130 ∨ tcode xs m Nm = 131 := by
  unfold tcode at *
  split
  · exact .inl rfl
  · split
    · exact .inr (.inl rfl)
    · split
      · rename_i h1 h2 h3; simp [h1, h2, h3] at h
      · exact .inr (.inr rfl)
theorem right_parts {xs : List Int} (h : rightB xs = true) : 1 ≤ xs.length ∧ xs.length ≤ 8 ∧ areB xs = true := by
  unfold rightB at h; simp at h; exact ⟨h.1.1, h.1.2, h.2⟩

theorem try_full (xs : List Int) (A : Option Addr) (n c : Nat) (B : Option Addr) (m d : Nat) (Nm Dl Fl : Nat → Int) (w : World) (hn : xs.length = n) (hn8 : n ≤ 1000) (hm8 : m ≤ 1000) (hc : Ints w A xs) (ho : Ops w B m Nm Dl Fl)
    (hFl : ∀ i, i < m → -9223372036854775808 ≤ Fl i ∧ Fl i < 9223372036854775808) (hS : Sen w aR aA aW) :
    Calls Tryd.prog 13 #[.slice A n c, .slice B m d] w (TryFull aR aA aW w m Nm Dl Fl xs) := by
  subst hn
  by_cases h1 : rightB xs = false ∨ m = 0
  · refine (try_arg xs A _ c B m d w rfl (by unfold maxLen; omega) (by unfold maxLen; omega) hc h1).mono ?_
    rintro e w' ⟨rfl, rfl⟩
    have e1 : tcode xs m Nm = 2 := by unfold tcode; rw [if_pos h1]
    exact ⟨Gr.refl _ _, .inl ⟨by rw [e1]; decide, by rw [e1]⟩⟩
  · have hr : rightB xs = true := by cases hr : rightB xs <;> simp_all
    have hm1 : 1 ≤ m := by omega
    by_cases h2 : 8 < m
    · refine (try_big xs A _ c B m d w rfl (by unfold maxLen; omega) (by unfold maxLen; omega) hc hr h2).mono ?_
      rintro e w' ⟨rfl, rfl⟩
      have e1 : tcode xs m Nm = 130 := by unfold tcode; rw [if_neg h1, if_pos h2]
      exact ⟨Gr.refl _ _, .inl ⟨by rw [e1]; decide, by rw [e1]⟩⟩
    · refine (try_any xs A _ c B m d Nm Dl Fl w rfl hm1 (by omega) hc hr ho hFl hS).mono ?_
      rintro e w' ⟨hG, ⟨⟨i, hi, hb⟩, rfl⟩ | ⟨hall, h⟩ | ⟨hall, h⟩⟩
      · have e1 : tcode xs m Nm = 131 := by
          unfold tcode; rw [if_neg h1, if_neg h2, if_neg]
          intro h3
          rw [List.all_eq_true] at h3
          rw [h3 i (List.mem_range.2 hi)] at hb; cases hb
        exact ⟨hG, .inl ⟨by rw [e1]; decide, by rw [e1]⟩⟩
      · have e1 : tcode xs m Nm = 0 := by
          unfold tcode; rw [if_neg h1, if_neg h2, if_pos]
          rw [List.all_eq_true]; exact fun i hi => hall i (List.mem_range.1 hi)
        exact ⟨hG, .inr (.inl ⟨e1, h⟩)⟩
      · have e1 : tcode xs m Nm = 0 := by
          unfold tcode; rw [if_neg h1, if_neg h2, if_pos]
          rw [List.all_eq_true]; exact fun i hi => hall i (List.mem_range.1 hi)
        exact ⟨hG, .inr (.inr ⟨e1, h⟩)⟩

theorem code_mem {k : Nat} (h : k ≠ 0) : code k = 132 ∨ code k = 63 ∨ code k = 133 := by
  match k with
  | 0 => exact absurd rfl h
  | 1 => exact .inl rfl
  | 2 => exact .inr (.inl rfl)
  | n + 3 => exact .inr (.inr rfl)

theorem stp_get {Nm Dl Fl : Nat → Int} {xs : List Int} {k i : Nat} (he : er Nm Dl Fl xs k = 0) (hk : inB xs.length (Nm k) = true) (hi : i < xs.length) :
    (stp Nm Dl Fl xs (k + 1))[i]?.getD 0 = if Nm k = i then (stp Nm Dl Fl xs k)[i]?.getD 0 + Dl k else (stp Nm Dl Fl xs k)[i]?.getD 0 := by
  have hin : 0 ≤ Nm k ∧ Nm k < xs.length := by unfold inB at hk; simpa using hk
  rw [stp_ok he, List.getElem?_set]
  by_cases h : Nm k = i
  · have h1 : (Nm k).toNat = i := by omega
    rw [if_pos h, if_pos h1, if_pos (by rw [stp_len]; omega)]
    simp [at_, h1]
  · rw [if_neg h, if_neg (by omega)]

set_option maxRecDepth 100000 in
set_option maxHeartbeats 4000000 in
theorem semAll_walk (xs : List Int) (A : Option Addr) (n c : Nat) (B : Option Addr) (m d : Nat) (Nm Dl Fl : Nat → Int) (w : World) (hn : xs.length = n) (hnc : n ≤ c) (hc : c ≤ maxLen) (hA : Ints w A xs)
    (hmd : m ≤ d) (hd : d ≤ maxLen) (hO : Ops w B m Nm Dl Fl) (hFl : ∀ i, i < m → -9223372036854775808 ≤ Fl i ∧ Fl i < 9223372036854775808) (hS : Sen w aR aA aW) :
    Calls Tryd.prog 3 #[.slice A n c, .slice B m d] w fun e w' => e = .returned (.bool true) ∧ Below w.heap.size w w' := by
  have HN := Lib.hid hn
  have HA := Lib.hid hA
  have HO := Lib.hid hO
  have HFL := Lib.hid hFl
  clear hn hA hO hFl
  go_enter Tryd.func3, Tryd.ntmps3
  go_wp2_with fail
  refine (shown_any (aR := aR) (aA := aA) (aW := aW) _ hS).mono ?_; rintro e w1 ⟨rfl, hG1⟩
  go_wp2_with fail
  refine (cut_any xs A n c _ HN.out hnc hc (HA.out.same hG1)).mono ?_; rintro e w2 ⟨b0, hb0, rfl, hG2, hI2⟩
  go_wp2_with fail
  refine (few_any B m d _ hmd hd).mono ?_; rintro e w3 ⟨rfl, rfl⟩
  obtain ⟨ys, hys⟩ : ∃ ys, xs.take 12 = ys := ⟨_, rfl⟩
  obtain ⟨q, hq⟩ : ∃ q, min n 12 = q := ⟨_, rfl⟩
  obtain ⟨p, hp⟩ : ∃ p, min m 12 = p := ⟨_, rfl⟩
  have hyl : ys.length = q := by rw [← hys, List.length_take, HN.out]; omega
  rw [hys] at hI2
  rw [hq, hp]
  have hpm : p ≤ m := by omega
  have hp12 : p ≤ 12 := by omega
  have hq12 : q ≤ 12 := by omega
  have hOp : Ops w B p Nm Dl Fl := fun h => by
    obtain ⟨g, off, e, hg, ho⟩ := HO.out (by omega)
    exact ⟨g, off, e, hg, fun i hi => ho i (by omega)⟩
  have hGw := hG1.next hG2
  have HP := Lib.hid hp
  have HYL := Lib.hid hyl
  clear hys hq hp hyl hG1 hG2
  go_wp2_with fail
  refine (try_full ys _ q 12 B p d Nm Dl Fl _ HYL.out (by omega) (by omega) hI2 (hOp.same hGw) (fun i hi => HFL.out i (by omega)) (hS.same hGw)).mono ?_
  rintro e w3 ⟨hG3, ⟨ht, rfl⟩ | ⟨ht, i, hi, hne, hlt, rfl⟩ | ⟨ht, hall, b, hb, rfl, hB⟩⟩
  · have ht' : tcode ys p Nm ≠ 0 := ht
    generalize tcode ys p Nm = t at ht' ⊢
    clear ht
    have ht2 : ¬ t = 0 := ht'
    go_wp2
    all_goals (go_ret; exact ⟨by first | rfl | simp, (hGw.next hG3).below⟩)
  · obtain ⟨_, _, hp8, _⟩ := tcode_zero ht
    have hcm := code_mem hne
    generalize code (er Nm Dl Fl ys i) = t at hcm ⊢
    have ht2 : ¬ t = 0 := by omega
    clear ht hlt hne hcm
    go_wp2
    all_goals (go_ret; exact ⟨by first | rfl | (simp; omega), (hGw.next hG3).below⟩)
  · obtain ⟨hr, hp1, hp8, hin⟩ := tcode_zero ht
    obtain ⟨r1, r2, r3⟩ := right_parts hr
    have hI3 := ints_blk hB
    have hsr : rightB (stp Nm Dl Fl ys p) = true := by unfold rightB; rw [stp_len, stp_are r3]; simp; omega
    have HB := Lib.hid hI3
    have HALL := Lib.hid hall
    have HIN := Lib.hid hin
    rw [HYL.out] at r1 r2
    clear hI3 hall hin hr ht hB
    have hRt := right_any (stp Nm Dl Fl ys p) (some ⟨b, 0, none⟩) q q w3 (by rw [stp_len, HYL.out]) (by unfold maxLen; omega) HB.out
    rw [hsr] at hRt
    rw [HYL.out]
    go_wp2_with fail
    refine hRt.mono ?_; rintro e w4 ⟨rfl, rfl⟩
    clear hRt hsr
    have hG3w := hGw.next hG3
    go_wp2
    go_loop [9, 10, 11] (fun i _ _ => ∃ j : Nat, j ≤ q ∧ i = .int .i64 j) (fun i _ _ => q - (intOf i).toNat)
    case atStart => exact ⟨0, by omega, rfl⟩
    case round =>
      obtain ⟨j, hj, rfl⟩ := hrel
      by_cases hjq : j < q
      · obtain ⟨gb, ob, ebe, _, hcb⟩ := (hI2.same hG3) (by rw [HYL.out]; omega)
        have y0 := hcb j (by rw [HYL.out]; exact hjq)
        obtain ⟨gs, os, ese, _, hcs⟩ := HB.out (by rw [stp_len, HYL.out]; omega)
        have z0 := hcs j (by rw [stp_len, HYL.out]; exact hjq)
        cases ebe
        cases ese
        rw [show ys[j]?.getD 0 = (stp Nm Dl Fl ys 0)[j]?.getD 0 from rfl] at y0
        rw [Nat.zero_add] at y0 z0
        clear hcb hcs
        go_wp2
        go_loop [10, 11] (fun s k => ∃ t : Nat, t ≤ p ∧ k = .int .i64 t ∧ s = .int .i64 ((stp Nm Dl Fl ys t)[j]?.getD 0)) (fun _ k => p - (intOf k).toNat)
        case atStart => exact ⟨0, by omega, rfl, rfl⟩
        case round =>
          obtain ⟨t, ht, rfl, rfl⟩ := hrel
          by_cases htp : t < p
          · obtain ⟨g, off, rfl, hg, ho⟩ := (hOp.same hG3w) (by omega)
            obtain ⟨o0, o1, _⟩ := ho t htp
            have hst := stp_get (i := j) (HALL.out t htp) (HIN.out t htp) (by rw [HYL.out]; exact hjq)
            obtain ⟨v1, v2⟩ := areB_get (stp_are (Nm := Nm) (Dl := Dl) (Fl := Fl) r3 t) j
            obtain ⟨u1, u2⟩ := areB_get (stp_are (Nm := Nm) (Dl := Dl) (Fl := Fl) r3 (t + 1)) j
            rw [hst] at u1 u2
            have HST := Lib.hid hst
            clear ho hst
            generalize hv : (stp Nm Dl Fl ys t)[j]?.getD 0 = v at *
            have HV := Lib.hid hv
            clear hv
            by_cases hnj : Nm t = j
            · rw [if_pos hnj] at u1 u2
              have HS2 : Hid ((stp Nm Dl Fl ys (t + 1))[j]?.getD 0 = v + Dl t) := by have := HST.out; rw [if_pos hnj] at this; exact this
              rw [hnj] at o0
              clear HST hnj
              generalize Dl t = dd at *
              go_wp2_with fail
              refine (few_any _ m d _ hmd hd).mono ?_; rintro e w5 ⟨rfl, rfl⟩
              rw [HP.out]
              go_wp2
              go_round
              case rel => exact ⟨t + 1, by omega, by go_num, by rw [HS2.out]⟩
              case measure => simp [intOf]; omega
            · have HS2 : Hid ((stp Nm Dl Fl ys (t + 1))[j]?.getD 0 = v) := by have := HST.out; rw [if_neg hnj] at this; exact this
              clear HST u1 u2
              generalize Nm t = nn at *
              have hnj' : (nn == (j : Int)) = false := by simp [hnj]
              go_wp2_with fail
              refine (few_any _ m d _ hmd hd).mono ?_; rintro e w5 ⟨rfl, rfl⟩
              rw [HP.out]
              go_wp2
              go_round
              case rel => exact ⟨t + 1, by omega, by go_num, by rw [HS2.out]⟩
              case measure => simp [intOf]; omega
          · obtain rfl : t = p := by omega
            go_wp2_with fail
            refine (few_any _ m d _ hmd hd).mono ?_; rintro e w5 ⟨rfl, rfl⟩
            rw [HP.out]
            generalize (stp Nm Dl Fl ys t)[j]?.getD 0 = v at *
            go_wp2
            go_round
            case rel => exact ⟨j + 1, by omega, by go_num⟩
            case measure => simp [intOf]; omega
      · go_wp2
        go_ret
        exact ⟨rfl, hG3w.below⟩
end Go.Proofs
