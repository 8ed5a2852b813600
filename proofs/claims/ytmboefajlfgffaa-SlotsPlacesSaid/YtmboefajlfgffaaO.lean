/- SlotsPlaces. -/
import Derived.Test.YtmboefajlfgffaaM
set_option linter.unusedVariables false
set_option linter.unusedSimpArgs false
namespace Go.Proofs
open Go.RowKit Go.Shelf
attribute [local go_sem] Oper.semAt_some

theorem up1 (m : Nat) (h : m < 1000) : wrap64 ((m : Int) + 1) = ((m + 1 : Nat) : Int) := by unfold wrap64; omega

def frs (S : St) : List Nat := (List.range 8).filter fun i => S.hd i
theorem ids_frs (S : St) : S.ids = (frs S).map (idOf S) := rfl
theorem frs_mem {S : St} {p : Nat} : p ∈ frs S ↔ p < 8 ∧ S.hd p = true := by simp [frs]
theorem frs_has {S : St} {p : Nat} (hp : p < 8) : (frs S).contains p = S.hd p := by
  cases h : S.hd p
  · have : p ∉ frs S := fun m => by have := (frs_mem.1 m).2; simp [h] at this
    simpa using this
  · have : p ∈ frs S := frs_mem.2 ⟨hp, h⟩
    simpa using this
theorem frs_new {S : St} {j : Nat} (h : j < (frs S).length) : ((frs S).take j).contains (frs S)[j] = false := by
  have nd : (frs S).Nodup := List.Pairwise.filter _ List.nodup_range
  have : (frs S)[j] ∉ (frs S).take j := fun m => by
    obtain ⟨i, hi, he⟩ := List.mem_take_iff_getElem.1 m
    have := (List.getElem_inj (h₀ := by omega) (h₁ := h) nd).1 he
    omega
  simpa using this
theorem ids_get {S : St} {j : Nat} (h : j < (frs S).length) : S.ids[j]?.getD 0 = idOf S (frs S)[j] := by
  rw [ids_frs]; simp [List.getElem?_eq_getElem h]
theorem frs_len (S : St) : S.ids.length = (frs S).length := by rw [ids_frs]; simp
theorem frs_le (S : St) : (frs S).length ≤ 8 := by
  have := List.length_filter_le (fun i => S.hd i) (List.range 8)
  simpa [frs] using this

def Hb (l : List Nat) : Array Value := #[.bool (l.contains 0), .bool (l.contains 1), .bool (l.contains 2), .bool (l.contains 3), .bool (l.contains 4), .bool (l.contains 5), .bool (l.contains 6), .bool (l.contains 7)]
theorem hb_cell (l : List Nat) : ∀ i, i < 8 → (Hb l)[i]? = some (.bool (l.contains i)) := lt8 rfl rfl rfl rfl rfl rfl rfl rfl
theorem hb_set (l : List Nat) : ∀ i, i < 8 → (Hb l).setIfInBounds i (.bool true) = Hb (l ++ [i]) := by
  refine lt8 ?_ ?_ ?_ ?_ ?_ ?_ ?_ ?_ <;> simp [Hb]

set_option maxRecDepth 100000 in
set_option maxHeartbeats 4000000 in
theorem slotsPlaces_walk (A : Option Addr) (n cap : Nat) (D I : Nat → Int) (Pl : Nat → Bool) (V0 : Nat → Int) (w : World) (ha : Acts w A n D I Pl V0) (hn : n ≤ maxLen) :
    Calls Try.prog 5 #[.slice A n cap] w fun e w' => e = .returned (.bool true) ∧ Below w.heap.size w w' := by
  unfold maxLen at hn
  go_enter Try.func5, Try.ntmps5
  go_wp2_with fail
  refine (shown_s _).mono ?_
  rintro e w1 ⟨rfl, hG1⟩
  go_wp2_with fail
  refine (new_any _).mono ?_
  rintro e w2 ⟨rfl, hG2, hB0⟩
  have hz1 := hG1.size
  have hz2 := hG2.size
  have hlt1 := hB0.lt
  have hS0 : Same w w2 := hG1.next hG2
  clear hG1 hG2
  go_wp2
  go_loopw [5, 6, 7, 8, 9, 10, 11] (fun i _ _ _ _ _ _ wr => ∃ (k : Nat) (S : St), k ≤ n ∧ i = .int .i64 k ∧ S.ok ∧ SVals' S ∧ Sl 58 wr w1.heap.size S ∧ Same w wr) (fun i _ _ _ _ _ _ _ => n - (intOf i).toNat)
  case atStart => exact ⟨0, _, by omega, rfl, ok_zero _, all_zero ⟨_, rfl⟩, hB0, hS0⟩
  case round =>
    obtain ⟨k, S, hk, rfl, hO, hV, hB, hG⟩ := hrel
    by_cases hlt : k < n ∧ k < 150
    · obtain ⟨hlt, hlt2⟩ := hlt
      obtain ⟨g, off, rfl, hg, hc⟩ := ha (by omega)
      obtain ⟨d0, d1, d2, d3⟩ := hc k hlt
      have hzr := hG.size
      go_wp2_with fail
      refine (ids_s _ _ hO _ hB).mono ?_
      rintro e w4 ⟨A4, c4, rfl, hr4, hG4⟩
      have hB4 := hG4.blk hB (fun f => f)
      have hS4 := hG.next hG4
      have hz4 := hS4.size
      have hl4 := hB4.lt
      have x0 := (hS4.cell (p := ⟨g, off + k * 4, none⟩) hg (fun f => f)).trans d0
      have x1 := (hS4.cell (p := ⟨g, off + k * 4 + 1, none⟩) hg (fun f => f)).trans d1
      have x2 := (hS4.cell (p := ⟨g, off + k * 4 + 2, none⟩) hg (fun f => f)).trans d2
      have x3 := (hS4.cell (p := ⟨g, off + k * 4 + 3, none⟩) hg (fun f => f)).trans d3
      clear d0 d1 d2 d3 hc ha hB hG hG4
      rw [frs_len S]
      go_wp2
      go_loopw [8] (fun j wr' => ∃ m : Nat, m ≤ (frs S).length ∧ j = .int .i64 m ∧ Blk wr' w4.heap.size 33 (Hb ((frs S).take m)) ∧ Gr w4 wr' (fun k => k = w4.heap.size)) (fun j _ => (frs S).length - (intOf j).toNat)
      case atStart => exact ⟨0, by omega, rfl, by simpa [Hb] using Blk.new _ _ _ _ rfl, (Gr.refl _ _).alloc _⟩
      case round =>
        obtain ⟨m, hm, rfl, hH, hGm⟩ := hrel
        by_cases hmt : m < (frs S).length
        · obtain ⟨g4, off4, rfl, hg4, hc4⟩ := hr4 (by rw [frs_len]; omega)
          have c0 := hc4 m (by rw [frs_len]; omega)
          rw [ids_get hmt] at c0
          have c1 := (hGm.cell (p := ⟨g4, off4 + m, none⟩) hg4 (fun h => by dsimp only at h; omega)).trans c0
          have hf8 := (frs_mem.1 (List.getElem_mem hmt)).1
          have hnew := frs_new hmt
          have htk : (frs S).take (m + 1) = (frs S).take m ++ [(frs S)[m]] := List.take_succ_eq_append_getElem hmt
          generalize (frs S)[m] = f at *
          obtain ⟨q0, q1⟩ := hO f hf8
          have hi0 : 0 ≤ idOf S f := by unfold idOf; omega
          have e7 : bits .and .i64 (idOf S f) 7 = (f : Int) := by rw [bits_and7 _ hi0 (by unfold idOf; omega), id_mod hf8]
          have hcell := (Blk.cell hH f).trans (hb_cell _ f hf8)
          rw [hnew] at hcell
          have hfz := Blk.frozen hH f
          have HH := Lib.hid hH
          have HG := Lib.hid hGm
          have HT := Lib.hid htk
          have HM := Lib.hid hmt
          clear hH hGm htk hnew
          go_wp2
          go_roundw
          case rel => exact ⟨m + 1, by have := HM.out; omega, by rw [up1 m (by have := HM.out; have := frs_le S; omega)], by rw [HT.out, ← hb_set _ f hf8]; exact Blk.set_ HH.out f _, Gr.set1 HG.out f _⟩
          case measure => rw [up1 m (by have := HM.out; have := frs_le S; omega)]; have := HM.out; simp [intOf]; omega
        · obtain rfl : m = (frs S).length := by omega
          rw [List.take_length] at hH
          have hB5 := hGm.blk hB4 (fun h => by omega)
          have hS5 : Same w wr := hS4.trans hGm (fun j hj h => by omega)
          have x0' := (hGm.cell (p := ⟨g, off + k * 4, none⟩) (by dsimp only; omega) (fun h => by dsimp only at h; omega)).trans x0
          have x1' := (hGm.cell (p := ⟨g, off + k * 4 + 1, none⟩) (by dsimp only; omega) (fun h => by dsimp only at h; omega)).trans x1
          have x2' := (hGm.cell (p := ⟨g, off + k * 4 + 2, none⟩) (by dsimp only; omega) (fun h => by dsimp only at h; omega)).trans x2
          have x3' := (hGm.cell (p := ⟨g, off + k * 4 + 3, none⟩) (by dsimp only; omega) (fun h => by dsimp only at h; omega)).trans x3
          have hr5 : RdI wr w4.heap.size A4 S.ids := hr4.gr hGm (Nat.le_refl _) (fun j hj h => by omega)
          clear x0 x1 x2 x3 hr4 hB4 hS4
          have hdef : six (D k) = 0 ∨ six (D k) = 1 ∨ six (D k) = 2 ∨ six (D k) = 3 ∨ six (D k) = 4 ∨ six (D k) = 5 := six_cases (D k)
          rcases hdef with h6 | h6 | h6 | h6 | h6 | h6
          all_goals unfold six at h6
          · go_wp2_with fail
            go_loopw [9] (fun v9 wr' => ∃ m : Nat, m ≤ 8 ∧ v9 = .int .i64 m ∧ (∀ p, p < m → S.hd p = true) ∧ wr' = wr) (fun v9 _ => 8 - (intOf v9).toNat)
            case atStart => exact ⟨0, by omega, rfl, fun p hp => by omega, rfl⟩
            case round =>
              obtain ⟨q, hq, rfl, hall, rfl⟩ := hrel
              by_cases hq8 : q < 8
              · have hcell := (Blk.cell hH q).trans (hb_cell _ q hq8)
                rw [frs_has hq8] at hcell
                cases hd : S.hd q
                · rw [hd] at hcell
                  have hf := free_some hq8 hd hall
                  have hid : S.addId = idOf S q := by unfold St.addId; rw [hf]
                  have hE : S.addE = 0 := by unfold St.addE; rw [hf]
                  obtain ⟨q0, q1⟩ := hO q hq8
                  have hi0 : 0 ≤ idOf S q := by unfold idOf; omega
                  have e7 : bits .and .i64 (idOf S q) 7 = (q : Int) := by rw [bits_and7 _ hi0 (by unfold idOf; omega), id_mod hq8]
                  clear hall
                  go_wp2_with fail
                  refine (add_f _ S hO (V0 k) _ hB5).mono ?_
                  rintro e w8 ⟨rfl, hG8, hB8⟩
                  rw [hid, hE]
                  have hfin : Same w w8 := hS5.trans hG8 (fun j hj h => by omega)
                  clear hB5 hS5 hr5 x0' x1' x2' x3' hG8 hH hGm
                  go_wp2
                  go_roundw
                  case rel => exact ⟨k + 1, _, by omega, by go_num, ok_addS hO _, all_addS hV ⟨_, rfl⟩, hB8, hfin⟩
                  case measure => simp [intOf]; omega
                · rw [hd] at hcell
                  have hall' : ∀ p, p < q + 1 → S.hd p = true := fun p hp => by
                    by_cases e : p = q
                    · rw [e]; exact hd
                    · exact hall p (by omega)
                  go_wp2
                  go_roundw
                  case rel => exact ⟨q + 1, by omega, by go_num, hall', trivial⟩
                  case measure => simp [intOf]; omega
              · obtain rfl : q = 8 := by omega
                have hf := free_none hall
                have hid : S.addId = 0 := by unfold St.addId; rw [hf]
                have hE : S.addE = 101 := by unfold St.addE; rw [hf]
                clear hall
                go_wp2_with fail
                refine (add_f _ S hO (V0 k) _ hB5).mono ?_
                rintro e w8 ⟨rfl, hG8, hB8⟩
                rw [hid, hE]
                have hfin : Same w w8 := hS5.trans hG8 (fun j hj h => by omega)
                clear hB5 hS5 hr5 x0' x1' x2' x3' hG8 hH hGm
                go_wp2
                go_roundw
                case rel => exact ⟨k + 1, _, by omega, by go_num, ok_addS hO _, all_addS hV ⟨_, rfl⟩, hB8, hfin⟩
                case measure => simp [intOf]; omega
          · go_wp2_with fail
            go_loopw [9] (fun v9 wr' => ∃ m : Nat, m ≤ 8 ∧ v9 = .int .i64 m ∧ (∀ p, p < m → S.hd p = true) ∧ wr' = wr) (fun v9 _ => 8 - (intOf v9).toNat)
            case atStart => exact ⟨0, by omega, rfl, fun p hp => by omega, rfl⟩
            case round =>
              obtain ⟨q, hq, rfl, hall, rfl⟩ := hrel
              by_cases hq8 : q < 8
              · have hcell := (Blk.cell hH q).trans (hb_cell _ q hq8)
                rw [frs_has hq8] at hcell
                cases hd : S.hd q
                · rw [hd] at hcell
                  have hf := free_some hq8 hd hall
                  have hid : S.addId = idOf S q := by unfold St.addId; rw [hf]
                  have hE : S.addE = 0 := by unfold St.addE; rw [hf]
                  obtain ⟨q0, q1⟩ := hO q hq8
                  have hi0 : 0 ≤ idOf S q := by unfold idOf; omega
                  have e7 : bits .and .i64 (idOf S q) 7 = (q : Int) := by rw [bits_and7 _ hi0 (by unfold idOf; omega), id_mod hq8]
                  clear hall
                  go_wp2_with fail
                  refine (add_f _ S hO (V0 k) _ hB5).mono ?_
                  rintro e w8 ⟨rfl, hG8, hB8⟩
                  rw [hid, hE]
                  have hfin : Same w w8 := hS5.trans hG8 (fun j hj h => by omega)
                  clear hB5 hS5 hr5 x0' x1' x2' x3' hG8 hH hGm
                  go_wp2
                  go_roundw
                  case rel => exact ⟨k + 1, _, by omega, by go_num, ok_addS hO _, all_addS hV ⟨_, rfl⟩, hB8, hfin⟩
                  case measure => simp [intOf]; omega
                · rw [hd] at hcell
                  have hall' : ∀ p, p < q + 1 → S.hd p = true := fun p hp => by
                    by_cases e : p = q
                    · rw [e]; exact hd
                    · exact hall p (by omega)
                  go_wp2
                  go_roundw
                  case rel => exact ⟨q + 1, by omega, by go_num, hall', trivial⟩
                  case measure => simp [intOf]; omega
              · obtain rfl : q = 8 := by omega
                have hf := free_none hall
                have hid : S.addId = 0 := by unfold St.addId; rw [hf]
                have hE : S.addE = 101 := by unfold St.addE; rw [hf]
                clear hall
                go_wp2_with fail
                refine (add_f _ S hO (V0 k) _ hB5).mono ?_
                rintro e w8 ⟨rfl, hG8, hB8⟩
                rw [hid, hE]
                have hfin : Same w w8 := hS5.trans hG8 (fun j hj h => by omega)
                clear hB5 hS5 hr5 x0' x1' x2' x3' hG8 hH hGm
                go_wp2
                go_roundw
                case rel => exact ⟨k + 1, _, by omega, by go_num, ok_addS hO _, all_addS hV ⟨_, rfl⟩, hB8, hfin⟩
                case measure => simp [intOf]; omega
          · go_wp2_with fail
            go_loopw [9] (fun v9 wr' => ∃ m : Nat, m ≤ 8 ∧ v9 = .int .i64 m ∧ (∀ p, p < m → S.hd p = true) ∧ wr' = wr) (fun v9 _ => 8 - (intOf v9).toNat)
            case atStart => exact ⟨0, by omega, rfl, fun p hp => by omega, rfl⟩
            case round =>
              obtain ⟨q, hq, rfl, hall, rfl⟩ := hrel
              by_cases hq8 : q < 8
              · have hcell := (Blk.cell hH q).trans (hb_cell _ q hq8)
                rw [frs_has hq8] at hcell
                cases hd : S.hd q
                · rw [hd] at hcell
                  have hf := free_some hq8 hd hall
                  have hid : S.addId = idOf S q := by unfold St.addId; rw [hf]
                  have hE : S.addE = 0 := by unfold St.addE; rw [hf]
                  obtain ⟨q0, q1⟩ := hO q hq8
                  have hi0 : 0 ≤ idOf S q := by unfold idOf; omega
                  have e7 : bits .and .i64 (idOf S q) 7 = (q : Int) := by rw [bits_and7 _ hi0 (by unfold idOf; omega), id_mod hq8]
                  clear hall
                  go_wp2_with fail
                  refine (add_f _ S hO (V0 k) _ hB5).mono ?_
                  rintro e w8 ⟨rfl, hG8, hB8⟩
                  rw [hid, hE]
                  have hfin : Same w w8 := hS5.trans hG8 (fun j hj h => by omega)
                  clear hB5 hS5 hr5 x0' x1' x2' x3' hG8 hH hGm
                  go_wp2
                  go_roundw
                  case rel => exact ⟨k + 1, _, by omega, by go_num, ok_addS hO _, all_addS hV ⟨_, rfl⟩, hB8, hfin⟩
                  case measure => simp [intOf]; omega
                · rw [hd] at hcell
                  have hall' : ∀ p, p < q + 1 → S.hd p = true := fun p hp => by
                    by_cases e : p = q
                    · rw [e]; exact hd
                    · exact hall p (by omega)
                  go_wp2
                  go_roundw
                  case rel => exact ⟨q + 1, by omega, by go_num, hall', trivial⟩
                  case measure => simp [intOf]; omega
              · obtain rfl : q = 8 := by omega
                have hf := free_none hall
                have hid : S.addId = 0 := by unfold St.addId; rw [hf]
                have hE : S.addE = 101 := by unfold St.addE; rw [hf]
                clear hall
                go_wp2_with fail
                refine (add_f _ S hO (V0 k) _ hB5).mono ?_
                rintro e w8 ⟨rfl, hG8, hB8⟩
                rw [hid, hE]
                have hfin : Same w w8 := hS5.trans hG8 (fun j hj h => by omega)
                clear hB5 hS5 hr5 x0' x1' x2' x3' hG8 hH hGm
                go_wp2
                go_roundw
                case rel => exact ⟨k + 1, _, by omega, by go_num, ok_addS hO _, all_addS hV ⟨_, rfl⟩, hB8, hfin⟩
                case measure => simp [intOf]; omega
          · go_wp2_with fail
            rw [← frs_len S]
            refine (number_any _ _ _ _ _ _ _ _ _ hr5 (by rw [frs_len]; have := frs_le S; omega)).mono ?_
            rintro e w7 ⟨rfl, hG7⟩
            have hB7 := hG7.blk hB5 (fun f => f)
            have hS7 := hS5.next hG7
            clear hB5 hS5 hr5 x0' x1' x2' x3' hG7 hH hGm
            go_wp2_with fail
            refine (remove_f _ S hO hV _ _ hB7).mono ?_
            rintro e w8 ⟨rfl, hG8, hB8⟩
            have hfin : Same w w8 := hS7.trans hG8 (fun j hj h => by omega)
            clear hB7 hS7 hG8
            go_wp2
            go_roundw
            case rel => exact ⟨k + 1, _, by omega, by go_num, ok_rmS hO _ _, all_rmS hV _ ⟨_, rfl⟩, hB8, hfin⟩
            case measure => simp [intOf]; omega
          · go_wp2_with fail
            rw [← frs_len S]
            refine (number_any _ _ _ _ _ _ _ _ _ hr5 (by rw [frs_len]; have := frs_le S; omega)).mono ?_
            rintro e w7 ⟨rfl, hG7⟩
            have hB7 := hG7.blk hB5 (fun f => f)
            have hS7 := hS5.next hG7
            clear hB5 hS5 hr5 x0' x1' x2' x3' hG7 hH hGm
            go_wp2_with fail
            refine (remove_f _ S hO hV _ _ hB7).mono ?_
            rintro e w8 ⟨rfl, hG8, hB8⟩
            have hfin : Same w w8 := hS7.trans hG8 (fun j hj h => by omega)
            clear hB7 hS7 hG8
            go_wp2
            go_roundw
            case rel => exact ⟨k + 1, _, by omega, by go_num, ok_rmS hO _ _, all_rmS hV _ ⟨_, rfl⟩, hB8, hfin⟩
            case measure => simp [intOf]; omega
          · go_wp2_with fail
            rw [← frs_len S]
            refine (number_any _ _ _ _ _ _ _ _ _ hr5 (by rw [frs_len]; have := frs_le S; omega)).mono ?_
            rintro e w7 ⟨rfl, hG7⟩
            have hB7 := hG7.blk hB5 (fun f => f)
            have hS7 := hS5.next hG7
            clear hB5 hS5 hr5 x0' x1' x2' x3' hG7 hH hGm
            go_wp2_with fail
            refine (remove_f _ S hO hV _ _ hB7).mono ?_
            rintro e w8 ⟨rfl, hG8, hB8⟩
            have hfin : Same w w8 := hS7.trans hG8 (fun j hj h => by omega)
            clear hB7 hS7 hG8
            go_wp2
            go_roundw
            case rel => exact ⟨k + 1, _, by omega, by go_num, ok_rmS hO _ _, all_rmS hV _ ⟨_, rfl⟩, hB8, hfin⟩
            case measure => simp [intOf]; omega
    · go_wp2
      all_goals (go_ret; exact ⟨rfl, hG.below⟩)
end Go.Proofs
