/- Semaphores: the document's answers: New, Try. -/
import Derived.Test.YtgecoiaidmndkaaDoorJ
set_option linter.unusedVariables false
set_option linter.unusedSimpArgs false
namespace Go.Proofs
open Go.RowKit Go.Shelf
attribute [local go_sem] Oper.semAt_some
variable {aR aA aW : Addr}

theorem own_slice' {w : World} {base k : Nat} {v : Value} {xs : List Int} (h : w.ownsRow base 3 1 v k (xs.map (Value.int .i64))) : ∃ A c, v = .slice A k c ∧ Ints w A xs := by
  rcases h.2 with ⟨rfl, rfl⟩ | ⟨g, cap, _, rfl, _⟩
  · exact ⟨none, 0, rfl, fun hn => by have := h.1; rw [List.length_map] at this; omega⟩
  · exact ⟨_, cap, rfl, own_ints h⟩
theorem own_cell2 {w : World} {base g n cap : Nat} {xs : List Int} (h : w.ownsRow base 3 1 (.slice (some ⟨g, 0, none⟩) n cap) n (xs.map (Value.int .i64))) (j : Nat) (hj : j < n) :
    w.cell? ⟨g, j, none⟩ = some (.int .i64 (xs[j]?.getD 0)) ∧ w.frozen? ⟨g, j, none⟩ = false ∧ ∀ v : Int, Hid ((w.setCell ⟨g, j, none⟩ (.int .i64 v)).ownsRow base 3 1 (.slice (some ⟨g, 0, none⟩) n cap) n ((xs.set j v).map (Value.int .i64))) := by
  have hl : n = xs.length := by have := h.1; rw [List.length_map] at this; omega
  refine ⟨by rw [h.cellAt j (by omega), List.getElem?_map, List.getElem?_eq_getElem (by omega)]; rfl, h.frozenAt j, fun v => Lib.hid ?_⟩
  have h2 := (h.stored j (.int .i64 v)).1
  rwa [show (xs.map (Value.int .i64)).set j (.int .i64 v) = (xs.set j v).map (Value.int .i64) by rw [List.map_set]] at h2
theorem cell_one_new (w : World) (t : TypeId) (v : Value) : ∀ j u, [v][j]? = some u → (w.alloc (.cells #[v] t)).cell? ((⟨w.heap.size, 0, none⟩ : Addr).add j) = some u := fun j u hu => by
  rw [Go.WideShapes.add_plain, Blk.cell (Blk.new w t #[v] _ rfl)]
  simpa using hu

set_option maxHeartbeats 2000000 in
theorem ref_new (n : Nat) (w : World) (h0 : 1 ≤ n) (h1 : n ≤ 8) : Calls Tryd.prog 20 #[.int .i64 n] w fun e w' => Same w w' ∧ ∃ A1 c1, e = .returned (.tuple #[.slice A1 n c1, .int .i64 0]) ∧ Ints w' A1 (List.replicate n 0) := by
  obtain ⟨i0, hi0, hz0, hz1, hz2⟩ := info_parts info3'
  go_enter Tryd.func20, Tryd.ntmps20
  go_wp2
  go_loopw [4, 5] (fun o i wr => ∃ k : Nat, k ≤ n ∧ i = .int .i64 k ∧ Hid (wr.ownsRow w.heap.size 3 1 o k ((List.replicate k (0 : Int)).map (Value.int .i64))) ∧ Same w wr) (fun _ i _ => n - (intOf i).toNat)
  case atStart => exact ⟨0, by omega, rfl, Lib.hid (World.ownsRow_nil _ _ _ _), Gr.refl _ _⟩
  case round =>
    rename_i o i wr
    obtain ⟨k, hk, rfl, HR, hG⟩ := hrel
    by_cases hlt : k < n
    · have hrow := HR.out
      have hsz := hG.size
      clear HR
      go_wp2_with first
        | (at_builtin; refine wpList_append_lies _ rfl _ _ 22 rfl w.heap.size 3 i0 (.int .i64 0) 1 8 Tryd.underlying22 hi0 hz0 hz1 hz2 rfl (by decide) _ _ _ rfl (World.ownsRow.alloc hrow _) ⟨wr.heap.size, 0, none⟩ 1 1 [.int .i64 0] rfl rfl (cell_one_new _ _ _) (by simp [Value.oneCell']) (by omega) (by unfold maxLen; omega) (by omega) (by simp; omega) _ rfl ?_; intro g' cap' w' hown hgrow hg' hlt')
      go_roundw
      case rel =>
        refine ⟨k + 1, by omega, by go_num, Lib.hid (by rw [List.replicate_succ', List.map_append]; exact hown), (hG.alloc _).trans (Y := fun j => w.heap.size ≤ j) (Gr.of_grownBy hgrow (fun j hj => .inl ?_)) (fun j hj h => by omega)⟩
        exact (hrow.lt j hj).1
      case measure => simp [intOf]; omega
    · obtain rfl : k = n := by omega
      rcases own_slice' HR.out with ⟨A1, c1, rfl, hI⟩
      go_wp2
      go_ret2
      exact ⟨hG, A1, c1, rfl, hI⟩

/-- What the document's Try tells. -/
def RefFull (w : World) (m : Nat) (Nm Dl Fl : Nat → Int) (xs : List Int) (e : Ending) (w' : World) : Prop :=
  Same w w' ∧
  ((tcode xs m Nm ≠ 0 ∧ e = .returned (.tuple #[.slice none 0 0, .int .i64 0, .int .i64 (tcode xs m Nm)])) ∨
   (tcode xs m Nm = 0 ∧ ∃ i, i < m ∧ er Nm Dl Fl xs i ≠ 0 ∧ (∀ j, j < i → er Nm Dl Fl xs j = 0) ∧ e = .returned (.tuple #[.slice none 0 0, .int .i64 i, .int .i64 (code (er Nm Dl Fl xs i))])) ∨
   (tcode xs m Nm = 0 ∧ (∀ i, i < m → er Nm Dl Fl xs i = 0) ∧ ∃ A1 c1, e = .returned (.tuple #[.slice A1 xs.length c1, .int .i64 0, .int .i64 0]) ∧ Ints w' A1 (stp Nm Dl Fl xs m)))
theorem rem_two (fl : Int) : fl.tmod 2 = 0 ↔ fl % 2 = 0 := by rw [← Int.dvd_iff_tmod_eq_zero, ← Int.dvd_iff_emod_eq_zero]
/-- What is wrong with an operation, by cases. -/
theorem erk_cases (v d fl : Int) (h1 : v ≤ 32767) : (32767 - v < d ∧ erk v d fl = 1) ∨ (d ≤ 32767 - v ∧ ((d < 0 ∧ d < -v) ∨ (d = 0 ∧ v ≠ 0)) ∧ fl % 2 ≠ 0 ∧ erk v d fl = 2) ∨ (d ≤ 32767 - v ∧ ((d < 0 ∧ d < -v) ∨ (d = 0 ∧ v ≠ 0)) ∧ fl % 2 = 0 ∧ erk v d fl = 3) ∨ (d ≤ 32767 - v ∧ ((d < 0 ∧ -v ≤ d) ∨ (d = 0 ∧ v = 0) ∨ 0 < d) ∧ erk v d fl = 0) := by
  unfold erk
  by_cases c1 : 32767 - v < d
  · exact .inl ⟨c1, by rw [if_pos c1]⟩
  · rw [if_neg (by omega)]
    refine .inr ?_
    rcases mw_cases v d with ⟨k1, k2, hm⟩ | ⟨k1, k2, hm⟩ | ⟨k1, k2, hm⟩ | ⟨k1, k2, hm⟩ | ⟨k1, hm⟩
    all_goals rw [hm]
    · by_cases hf : fl % 2 ≠ 0
      · exact .inl ⟨by omega, .inl ⟨k1, k2⟩, hf, by simp [hf]⟩
      · exact .inr (.inl ⟨by omega, .inl ⟨k1, k2⟩, by omega, by simp at hf ⊢; omega⟩)
    · exact .inr (.inr ⟨by omega, .inl ⟨k1, k2⟩, rfl⟩)
    · by_cases hf : fl % 2 ≠ 0
      · exact .inl ⟨by omega, .inr ⟨k1, k2⟩, hf, by simp [hf]⟩
      · exact .inr (.inl ⟨by omega, .inr ⟨k1, k2⟩, by omega, by simp at hf ⊢; omega⟩)
    · exact .inr (.inr ⟨by omega, .inr (.inl ⟨k1, k2⟩), rfl⟩)
    · exact .inr (.inr ⟨by omega, .inr (.inr k1), rfl⟩)

set_option maxRecDepth 100000 in
set_option maxHeartbeats 8000000 in
theorem ref_try (xs : List Int) (A : Option Addr) (n c : Nat) (B : Option Addr) (m d : Nat) (Nm Dl Fl : Nat → Int) (w : World) (hn : xs.length = n) (hn8 : n ≤ 1000) (hm8 : m ≤ 1000) (hc : Ints w A xs) (ho : Ops w B m Nm Dl Fl)
    (hFl : ∀ i, i < m → -9223372036854775808 ≤ Fl i ∧ Fl i < 9223372036854775808) :
    Calls Tryd.prog 18 #[.slice A n c, .slice B m d] w (RefFull w m Nm Dl Fl xs) := by
  have HN := Lib.hid hn
  have HC := Lib.hid hc
  have HO := Lib.hid ho
  have HFL := Lib.hid hFl
  have HR : ∀ W : World, Same w W → Calls Tryd.prog 21 #[.slice A n c] W fun e w' => e = .returned (.bool (rightB xs)) ∧ Same W w' := fun W h => ref_right xs A n c W HN.out (by unfold maxLen; omega) (HC.out.same h)
  clear hn hc ho hFl
  unfold RefFull
  cases hr : rightB xs
  · have ht : tcode xs m Nm = 2 := by unfold tcode; rw [if_pos (.inl hr)]
    have HT := Lib.hid ht
    rw [hr] at HR
    clear hr ht
    go_enter Tryd.func18, Tryd.ntmps18
    go_wp2_with fail
    refine (HR _ (Gr.refl _ _)).mono ?_; rintro e w1 ⟨rfl, hG⟩
    go_wp2
    go_ret3
    exact ⟨hG, .inl ⟨by rw [HT.out]; decide, by rw [HT.out]; rfl⟩⟩
  · rw [hr] at HR
    obtain ⟨r1, r2, r3⟩ := right_parts hr
    rw [HN.out] at r1 r2
    by_cases hm0 : m = 0
    · have ht : tcode xs m Nm = 2 := by unfold tcode; rw [if_pos (.inr hm0)]
      have HT := Lib.hid ht
      subst hm0
      clear hr ht
      go_enter Tryd.func18, Tryd.ntmps18
      go_wp2_with fail
      refine (HR _ (Gr.refl _ _)).mono ?_; rintro e w1 ⟨rfl, hG⟩
      go_wp2
      go_ret3
      exact ⟨hG, .inl ⟨by rw [HT.out]; decide, by rw [HT.out]; rfl⟩⟩
    · have hm0' : ((m : Int) == 0) = false := by simp; omega
      by_cases hm9 : 8 < m
      · have ht : tcode xs m Nm = 130 := by unfold tcode; rw [if_neg (by rw [hr]; simp; omega), if_pos hm9]
        have HT := Lib.hid ht
        clear hr ht
        go_enter Tryd.func18, Tryd.ntmps18
        go_wp2_with fail
        refine (HR _ (Gr.refl _ _)).mono ?_; rintro e w1 ⟨rfl, hG⟩
        go_wp2
        go_ret3
        exact ⟨hG, .inl ⟨by rw [HT.out]; decide, by rw [HT.out]; rfl⟩⟩
      · have HTN : Hid (∀ i, i < m → inB n (Nm i) = false → tcode xs m Nm = 131) := Lib.hid (fun i hi hb => by
          unfold tcode; rw [if_neg (by rw [hr]; simp; omega), if_neg hm9, if_neg]
          intro h3
          rw [List.all_eq_true] at h3
          have := h3 i (List.mem_range.2 hi)
          rw [HN.out, hb] at this; cases this)
        have HTZ : Hid ((∀ i, i < m → inB n (Nm i) = true) → tcode xs m Nm = 0) := Lib.hid (fun hall => by
          unfold tcode; rw [if_neg (by rw [hr]; simp; omega), if_neg hm9, if_pos]
          rw [List.all_eq_true]; exact fun i hi => by rw [HN.out]; exact hall i (List.mem_range.1 hi))
        have HARE := Lib.hid r3
        obtain ⟨i0, hi0, hz0, hz1, hz2⟩ := info_parts info3'
        obtain ⟨a, oa, rfl, ha, hca⟩ := HC.out (by rw [HN.out]; omega)
        obtain ⟨g, off, rfl, hg, hoo⟩ := HO.out (by omega)
        have HOO := Lib.hid hoo
        clear hr hca hoo r3 HO
        go_enter Tryd.func18, Tryd.ntmps18
        go_wp2_with fail
        refine (HR _ (Gr.refl _ _)).mono ?_; rintro e w1 ⟨rfl, hG⟩
        clear HR
        go_wp2
        go_loopw [8] (fun i wr => ∃ k : Nat, k ≤ m ∧ i = .int .i64 k ∧ Hid (∀ j, j < k → inB n (Nm j) = true) ∧ Same w wr) (fun i _ => m - (intOf i).toNat)
        case atStart => exact ⟨0, by omega, rfl, Lib.hid (fun j hj => by omega), hG⟩
        case round =>
          rename_i i wr
          obtain ⟨k, hk, rfl, HK, hGr⟩ := hrel
          by_cases hlt : k < m
          · obtain ⟨o0, o1, o2⟩ := HOO.out.gr hGr (fun f => f) k hlt
            generalize h0 : Nm k = num at o0
            have H0 := Lib.hid h0
            clear h0 o1 o2
            rcases (show num < 0 ∨ (0 ≤ num ∧ (n : Int) ≤ num) ∨ (0 ≤ num ∧ num < (n : Int)) by omega) with hb | ⟨hb, hb'⟩ | ⟨hb, hb'⟩
            · have HT := Lib.hid (HTN.out k hlt (by rw [H0.out]; unfold inB; simp; omega))
              clear HTN HTZ HK H0 HOO HFL
              go_wp2
              go_ret3
              exact ⟨hGr, .inl ⟨by rw [HT.out]; decide, by rw [HT.out]; rfl⟩⟩
            · have HT := Lib.hid (HTN.out k hlt (by rw [H0.out]; unfold inB; simp; omega))
              clear HTN HTZ HK H0 HOO HFL
              go_wp2
              go_ret3
              exact ⟨hGr, .inl ⟨by rw [HT.out]; decide, by rw [HT.out]; rfl⟩⟩
            · have HK2 := Lib.hid (inb_succ HK.out (by rw [H0.out]; unfold inB; simp; omega))
              go_wp2
              go_roundw
              case rel => exact ⟨k + 1, by omega, by go_num, HK2, hGr⟩
              case measure => simp [intOf]; omega
          · obtain rfl : k = m := by omega
            have HT := Lib.hid (HTZ.out HK.out)
            clear HTN HTZ
            go_wp2_with first
              | (at_builtin; refine wpList_append_lies _ rfl _ _ 22 rfl w.heap.size 3 i0 (.int .i64 0) 1 8 Tryd.underlying22 hi0 hz0 hz1 hz2 rfl (by decide) _ _ _ rfl (World.ownsRow_nil _ _ _ _) ⟨a, oa, none⟩ n c (xs.map (Value.int .i64)) rfl (by rw [List.length_map, HN.out, Nat.mul_one]) (cells_ints (HC.out.same hGr)) (by simp [Value.oneCell']) r1 (by unfold maxLen; omega) (by omega) hGr.size _ rfl ?_; intro g' cap' w' hown hgrow hg' hlt')
            have hG2 := hGr.trans (Y := fun _ => False) (Gr.of_grownBy (show wr.grownBy w' none from hgrow) (fun k hk => by cases hk)) (fun j hj h => by simp at h)
            have hge : w.heap.size ≤ g' := own_ge' hown (by omega)
            have HOW : Hid (w'.ownsRow w.heap.size 3 1 (.slice (some ⟨g', 0, none⟩) n cap') n ((stp Nm Dl Fl xs 0).map (Value.int .i64))) := Lib.hid (by have := hown; rw [Nat.zero_add, List.nil_append] at this; exact this)
            clear hown hgrow hg'
            go_loopw [10] (fun i wr => ∃ l : Nat, l ≤ k ∧ i = .int .i64 l ∧ Hid (∀ j, j < l → er Nm Dl Fl xs j = 0) ∧ Hid (wr.ownsRow w.heap.size 3 1 (.slice (some ⟨g', 0, none⟩) n cap') n ((stp Nm Dl Fl xs l).map (Value.int .i64))) ∧ Same w wr) (fun i _ => k - (intOf i).toNat)
            case atStart => exact ⟨0, by omega, rfl, Lib.hid (fun j hj => by omega), HOW, hG2⟩
            case round =>
              rename_i i wr2
              clear HOW hG2 hlt' hGr
              obtain ⟨l, hl, rfl, HZ, HOW, hGr2⟩ := hrel
              by_cases hlt2 : l < k
              · obtain ⟨o0, o1, o2⟩ := HOO.out.gr hGr2 (fun f => f) l hlt2
                have hin : inB n (Nm l) = true := HK.out l hlt2
                have hin' : 0 ≤ Nm l ∧ Nm l < n := by unfold inB at hin; simpa using hin
                obtain ⟨f0, f1⟩ := HFL.out l hlt2
                obtain ⟨v0, v1⟩ := areB_get (stp_are (Nm := Nm) (Dl := Dl) (Fl := Fl) HARE.out l) (Nm l).toNat
                have her : Hid (er Nm Dl Fl xs l = erk ((stp Nm Dl Fl xs l)[(Nm l).toNat]?.getD 0) (Dl l) (Fl l)) := Lib.hid rfl
                have hst : Hid (er Nm Dl Fl xs l = 0 → stp Nm Dl Fl xs (l + 1) = (stp Nm Dl Fl xs l).set (Nm l).toNat ((stp Nm Dl Fl xs l)[(Nm l).toNat]?.getD 0 + Dl l)) := Lib.hid (fun h => stp_ok h)
                obtain ⟨x0, xf, xs'⟩ := own_cell2 HOW.out (Nm l).toNat (by omega)
                obtain ⟨j, hj⟩ : ∃ j : Nat, Nm l = j := ⟨(Nm l).toNat, by omega⟩
                rw [hj] at o0 hin'
                rw [hj, Int.toNat_natCast] at her hst v0 v1 x0 xf xs'
                have hjn : j < n := by omega
                clear hin hj
                generalize (stp Nm Dl Fl xs l)[j]?.getD 0 = v at x0 v0 v1 her hst
                generalize Dl l = dd at o1 her hst
                generalize Fl l = fl at o2 f0 f1 her
                have HX := xs'
                clear HOW xs'
                rcases erk_cases v dd fl v1 with ⟨c1, he⟩ | ⟨c1, c2, c3, he⟩ | ⟨c1, c2, c3, he⟩ | ⟨c1, c2, he⟩
                · have HE := Lib.hid (her.out.trans he)
                  clear her hst he HX
                  go_wp2
                  go_ret3
                  exact ⟨hGr2, .inr (.inl ⟨HT.out, l, hlt2, by rw [HE.out]; decide, HZ.out, by rw [HE.out]; rfl⟩)⟩
                · have HE := Lib.hid (her.out.trans he)
                  have hrem : (fl.tmod 2 != 0) = true := by have := rem_two fl; rw [bne_iff_ne]; omega
                  clear her hst he HX
                  rcases c2 with ⟨d1, d2⟩ | ⟨rfl, d2⟩
                  all_goals
                    go_wp2
                    go_ret3
                    exact ⟨hGr2, .inr (.inl ⟨HT.out, l, hlt2, by rw [HE.out]; decide, HZ.out, by rw [HE.out]; rfl⟩)⟩
                · have HE := Lib.hid (her.out.trans he)
                  have hrem : (fl.tmod 2 != 0) = false := by have := rem_two fl; rw [bne_eq_false_iff_eq]; omega
                  clear her hst he HX
                  rcases c2 with ⟨d1, d2⟩ | ⟨rfl, d2⟩
                  all_goals
                    go_wp2
                    go_ret3
                    exact ⟨hGr2, .inr (.inl ⟨HT.out, l, hlt2, by rw [HE.out]; decide, HZ.out, by rw [HE.out]; rfl⟩)⟩
                · have HE := Lib.hid (her.out.trans he)
                  have HZ2 : Hid (∀ j, j < l + 1 → er Nm Dl Fl xs j = 0) := Lib.hid (fun j hj => by
                    rcases Nat.lt_or_ge j l with h | h
                    · exact HZ.out j h
                    · obtain rfl : j = l := by omega
                      exact HE.out)
                  have HST := Lib.hid (hst.out HE.out)
                  clear her hst he HZ HE
                  rcases c2 with ⟨d1, d2⟩ | ⟨rfl, rfl⟩ | d1
                  all_goals
                    go_wp2
                    go_roundw
                    case rel => exact ⟨l + 1, by omega, by go_num, HZ2, by rw [HST.out]; exact HX _, Gr.setCell (p := ⟨g', j, none⟩) (X := fun _ => False) hGr2 (.inr hge) _⟩
                    case measure => simp [intOf]; omega
              · obtain rfl : l = k := by omega
                have hI := own_ints HOW.out
                go_wp2
                go_ret3
                exact ⟨hGr2, .inr (.inr ⟨HT.out, HZ.out, _, cap', by rw [HN.out]; rfl, hI⟩)⟩
end Go.Proofs
