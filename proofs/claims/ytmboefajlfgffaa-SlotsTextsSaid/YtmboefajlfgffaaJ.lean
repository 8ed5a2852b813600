/- SlotsGone, SlotsFull: the walks. -/
import Derived.Test.YtmboefajlfgffaaI
set_option linter.unusedVariables false
set_option linter.unusedSimpArgs false
namespace Go.Proofs
open Go.RowKit Go.Shelf

theorem ids_f (b : Nat) (S : St) (hS : S.ok) (w : World) (hb : Sl 58 w b S) :
    Calls Try.prog 14 #[.pointer (some ⟨b, 0, none⟩)] w fun e w' => ∃ A c, e = .returned (.slice A S.ids.length c) ∧ w'.ownsRow w.heap.size 3 1 (.slice A S.ids.length c) S.ids.length (Ints S.ids) ∧ Same w w' := by
  refine (ids_any b S hS w hb).mono ?_
  rintro e w' ⟨v, rfl, hr, hG⟩
  rcases hr.2 with ⟨h1, h2⟩ | ⟨g, cap, _, h1, _⟩
  · exact ⟨none, 0, by rw [h1, h2], by rw [h1] at hr; rw [h2] at hr ⊢; exact hr, hG⟩
  · exact ⟨some ⟨g, 0, none⟩, cap, by rw [h1], by rw [← h1]; exact hr, hG⟩

theorem rnd_none (k : Nat) (v : Value) (h0 : 0 < (k : Int) % 4096) : ((rnd k).addS v).place 0 = none := by
  refine place_none (fun j hj hd e => ?_)
  rw [rnd_add] at hd e
  have hj0 : j = 0 := by
    by_cases h : j = 0
    · exact h
    · simp [St.setH, St.setV, rnd, h] at hd
  subst hj0
  have : idOf (rnd k) 0 = 0 := e
  rw [rnd_id] at this
  omega
theorem rnd_ids (k : Nat) : (rnd k).ids.length = 0 := by simp [St.ids, idsOf, rnd]
theorem getI_of {S : St} {id : Int} {n : Int} (h : S.getV id (.int .i64 0) = .int .i64 n) : getI S id = n := by unfold getI; rw [h]; rfl

set_option maxRecDepth 100000 in
set_option maxHeartbeats 2000000 in
theorem slotsGone_walk (n v : Int) (w : World) : Calls Try.prog 4 #[.int .i64 n, .int .i64 v] w fun e w' => e = .returned (.bool true) ∧ Below w.heap.size w w' := by
  by_cases h0 : n < 0
  · go_enter Try.func4, Try.ntmps4
    go_wp2_with fail
    refine (shown_s _).mono ?_
    rintro e w1 ⟨rfl, hG1⟩
    go_wp2
    go_ret
    exact ⟨rfl, hG1.below⟩
  by_cases h1 : 300 < n
  · go_enter Try.func4, Try.ntmps4
    go_wp2_with fail
    refine (shown_s _).mono ?_
    rintro e w1 ⟨rfl, hG1⟩
    go_wp2
    go_ret
    exact ⟨rfl, hG1.below⟩
  obtain ⟨N, rfl⟩ := Int.eq_ofNat_of_zero_le (show 0 ≤ n by omega)
  have e1 := rnd_addId 0
  have e2 := rnd_addE 0
  have e3 := rnd_getE 0 (.int .i64 v)
  simp at e1 e3
  go_enter Try.func4, Try.ntmps4
  go_wp2_with fail
  refine (shown_s _).mono ?_
  rintro e w1 ⟨rfl, hG1⟩
  go_wp2_with fail
  refine (new_any _).mono ?_
  rintro e w2 ⟨rfl, hG2, hB2⟩
  have hz1 := hG1.size
  have hz2 := hG2.size
  have hB0 : Sl 58 w2 w1.heap.size (rnd 0) := by rw [rnd_zero]; exact hB2
  have hS0 : Same w w2 := hG1.next hG2
  clear hB2 hG1 hG2
  go_wp2_with fail
  refine (add_f _ _ (rnd_ok 0) v _ hB0).mono ?_
  rintro e w3 ⟨rfl, hG3, hB3⟩
  go_wp2_with fail
  refine (remove_f _ _ (ok_addS (rnd_ok 0) _) (vals_add (rnd_vals 0) v) 0 _ hB3).mono ?_
  rintro e w4 ⟨rfl, hG4, hB4⟩
  have hB5 : Sl 58 w4 w1.heap.size (rnd 1) := by
    have := rnd_step 0 (.int .i64 v)
    simp at this
    rw [show (Value.int .i64 0) = ZI from rfl, this] at hB4
    exact hB4
  have hS1 : Same w w4 := ((hS0.mono (fun _ _ f => f.elim)).trans (X := fun j => j = w1.heap.size) (hG3.trans hG4 (fun _ _ h => h)) (fun _ _ h => h)).mono (fun j hj h => by omega)
  clear hB4 hB3 hG3 hG4 e3
  go_wp2
  go_loopw [11] (fun i wr => ∃ k : Nat, k ≤ N ∧ i = .int .i64 k ∧ Sl 58 wr w1.heap.size (rnd (k + 1)) ∧ Same w wr) (fun i _ => N - (intOf i).toNat)
  case atStart => exact ⟨0, by omega, rfl, hB5, hS1⟩
  case round =>
    obtain ⟨k, hk, rfl, hB, hS⟩ := hrel
    clear e1 e2
    by_cases hlt : k < N
    · have hm : ((k + 1 : Nat) : Int) % 4096 = k + 1 := by omega
      obtain ⟨x, hx⟩ : ∃ x, x = wrap64 (v + k) := ⟨_, rfl⟩
      have e1 := rnd_addId (k + 1)
      have e2 := rnd_addE (k + 1)
      have e3 := rnd_getE (k + 1) (.int .i64 x)
      have e4 : getI ((rnd (k + 1)).addS (.int .i64 x)) (8 * (((k + 1 : Nat) : Int) % 4096)) = x := getI_of (rnd_getV _ _ _)
      have e5 := rnd_step (k + 1) (.int .i64 x)
      have e6 : ((rnd (k + 1)).addS (.int .i64 x)).getE 0 = 100 := by simp [St.getE, rnd_none (k + 1) (.int .i64 x) (by omega)]
      rw [hm] at e1 e3 e4 e5
      obtain ⟨y, hy⟩ : ∃ y : Int, y = 8 * ((k : Int) + 1) := ⟨_, rfl⟩
      rw [← hy] at e1 e3 e4 e5
      have y0 : (y == 0) = false := by simp; omega
      have y1 : 0 ≤ y := by omega
      have y2 : y ≤ 100000 := by omega
      have y3 : y % 8 = 0 := by omega
      have E5 := Lib.hid e5
      have HY := Lib.hid hy
      have HX := Lib.hid hx
      clear hm e5 hy hx
      go_wp2_with fail
      rw [← HX.out]
      refine (add_f _ _ (rnd_ok _) x _ hB).mono ?_
      rintro e w5 ⟨rfl, hG5, hB5⟩
      go_wp2_with fail
      refine (get_f _ _ (ok_addS (rnd_ok _) _) (vals_add (rnd_vals _) x) y _ hB5).mono ?_
      rintro e w6 ⟨rfl, hG6⟩
      have hB6 : Sl 58 w6 w1.heap.size ((rnd (k + 1)).addS (.int .i64 x)) := hG6.blk hB5 (fun f => f)
      go_wp2_with fail
      refine (get_f _ _ (ok_addS (rnd_ok _) _) (vals_add (rnd_vals _) x) 0 _ hB6).mono ?_
      rintro e w7 ⟨rfl, hG7⟩
      have hB7 : Sl 58 w7 w1.heap.size ((rnd (k + 1)).addS (.int .i64 x)) := hG7.blk hB6 (fun f => f)
      go_wp2_with fail
      refine (remove_f _ _ (ok_addS (rnd_ok _) _) (vals_add (rnd_vals _) x) y _ hB7).mono ?_
      rintro e w8 ⟨rfl, hG8, hB8⟩
      rw [show (Value.int .i64 0) = ZI from rfl, E5.out] at hB8
      go_wp2
      go_roundw
      case rel => exact ⟨k + 1, by omega, by go_num, hB8, (((((hS.mono (fun _ _ f => f.elim)).trans (X := fun j => j = w1.heap.size) hG5 (fun _ _ h => h)).trans (Y := fun _ => False) hG6 (fun _ _ f => f.elim)).trans (Y := fun _ => False) hG7 (fun _ _ f => f.elim)).trans hG8 (fun _ _ h => h)).mono (fun j hj h => by omega)⟩
      case measure => simp [intOf]; omega
    · obtain rfl : k = N := by omega
      have e1 := rnd_ids (k + 1)
      go_wp2_with fail
      refine (ids_f _ _ (rnd_ok _) _ hB).mono ?_
      rintro e w5 ⟨A, c, rfl, _, hG5⟩
      go_wp2
      go_ret
      exact ⟨rfl, (hS.next hG5).below⟩

/-! ### SlotsFull -/
/-- the first k slots hold 0, 1, .. -/
def fil (k : Nat) : St := { sq := fun _ => 0, vv := fun j => if j < k then .int .i64 j else ZI, hd := fun j => decide (j < k) }
theorem fil_zero : fil 0 = St.zero ZI := by simp [fil, St.zero]
theorem fil_ok (k : Nat) : (fil k).ok := fun i _ => by simp [fil]
theorem fil_vals (k : Nat) : SVals' (fil k) := fun i _ => by
  show Val1 (if i < k then .int .i64 i else ZI)
  split
  · exact ⟨_, rfl⟩
  · exact ⟨0, rfl⟩
theorem fil_free {k : Nat} (h : k < 8) : (fil k).free = some k := free_some h (by simp [fil]) (fun j hj => by simp [fil, hj])
theorem fil_full {k : Nat} (h : 8 ≤ k) : (fil k).free = none := free_none (fun j hj => by simp [fil]; omega)
theorem fil_addId {k : Nat} (h : k < 8) : (fil k).addId = k := by unfold St.addId; rw [fil_free h]; simp [idOf, fil]
theorem fil_addE {k : Nat} (h : k < 8) : (fil k).addE = 0 := by simp [St.addE, fil_free h]
theorem fil_addE' {k : Nat} (h : 8 ≤ k) : (fil k).addE = 101 := by simp [St.addE, fil_full h]
theorem fil_add {k : Nat} (h : k < 8) : (fil k).addS (.int .i64 k) = fil (k + 1) := by
  unfold St.addS
  rw [fil_free h]
  simp only [St.setV, St.setH, fil]
  congr
  · funext j
    by_cases h1 : j = k
    · simp [h1]
    · by_cases h2 : j < k
      · simp [h1, h2, show j < k + 1 from by omega]
      · simp [h1, h2, show ¬ j < k + 1 from by omega]
  · funext j
    by_cases h1 : j = k
    · simp [h1]
    · by_cases h2 : j < k
      · simp [h1, h2, show j < k + 1 from by omega]
      · simp [h1, h2, show ¬ j < k + 1 from by omega]
theorem fil_add' {k : Nat} (h : 8 ≤ k) (v : Value) : (fil k).addS v = fil k := by simp [St.addS, fil_full h]
theorem fil_ids : ∀ k, k ≤ 8 → (fil k).ids.length = k := by decide +kernel
/-- after so many were added -/
def upto8 (k : Nat) : Nat := if k < 8 then k else 8

set_option maxRecDepth 100000 in
set_option maxHeartbeats 2000000 in
theorem slotsFull_walk (n : Int) (w : World) : Calls Try.prog 8 #[.int .i64 n] w fun e w' => e = .returned (.bool true) ∧ Below w.heap.size w w' := by
  by_cases h0 : n < 0
  · go_enter Try.func8, Try.ntmps8
    go_wp2_with fail
    refine (shown_s _).mono ?_
    rintro e w1 ⟨rfl, hG1⟩
    go_wp2
    go_ret
    exact ⟨rfl, hG1.below⟩
  by_cases h1 : 12 < n
  · go_enter Try.func8, Try.ntmps8
    go_wp2_with fail
    refine (shown_s _).mono ?_
    rintro e w1 ⟨rfl, hG1⟩
    go_wp2
    go_ret
    exact ⟨rfl, hG1.below⟩
  obtain ⟨N, rfl⟩ := Int.eq_ofNat_of_zero_le (show 0 ≤ n by omega)
  go_enter Try.func8, Try.ntmps8
  go_wp2_with fail
  refine (shown_s _).mono ?_
  rintro e w1 ⟨rfl, hG1⟩
  go_wp2_with fail
  refine (new_any _).mono ?_
  rintro e w2 ⟨rfl, hG2, hB2⟩
  have hz1 := hG1.size
  have hz2 := hG2.size
  have hB0 : Sl 58 w2 w1.heap.size (fil (upto8 0)) := by rw [show fil (upto8 0) = St.zero ZI from fil_zero]; exact hB2
  have hS0 : Same w w2 := hG1.next hG2
  clear hB2 hG1 hG2
  go_wp2
  go_loopw [5] (fun i wr => ∃ k : Nat, k ≤ N ∧ i = .int .i64 k ∧ Sl 58 wr w1.heap.size (fil (upto8 k)) ∧ Same w wr) (fun i _ => N - (intOf i).toNat)
  case atStart => exact ⟨0, by omega, rfl, hB0, hS0⟩
  case round =>
    obtain ⟨k, hk, rfl, hB, hS⟩ := hrel
    by_cases hlt : k < N
    · by_cases h8 : k < 8
      · have hu : upto8 k = k := by simp [upto8, h8]
        rw [hu] at hB
        have hu1 : fil (upto8 (k + 1)) = fil (k + 1) := by
          unfold upto8
          split
          · rfl
          · rw [show k + 1 = 8 from by omega]
        have e1 := fil_addId h8
        have e2 := fil_addE h8
        have E3 := Lib.hid (fil_add h8)
        have HU := Lib.hid hu1
        clear hu hu1
        go_wp2_with fail
        refine (add_f _ _ (fil_ok k) k _ hB).mono ?_
        rintro e w3 ⟨rfl, hG3, hB3⟩
        rw [E3.out] at hB3
        go_wp2
        go_roundw
        case rel => exact ⟨k + 1, by omega, by go_num, by rw [HU.out]; exact hB3, ((hS.mono (fun _ _ f => f.elim)).trans (X := fun j => j = w1.heap.size) hG3 (fun _ _ h => h)).mono (fun j hj h => by omega)⟩
        case measure => simp [intOf]; omega
      · have hu : upto8 k = 8 := by simp [upto8, h8]
        have HU : Hid (upto8 (k + 1) = 8) := by simp [Hid, upto8, show ¬ k + 1 < 8 from by omega]
        rw [hu] at hB
        have e2 := fil_addE' (Nat.le_refl 8)
        have E3 := Lib.hid (fil_add' (Nat.le_refl 8) (.int .i64 k))
        clear hu
        go_wp2_with fail
        refine (add_f _ _ (fil_ok 8) k _ hB).mono ?_
        rintro e w3 ⟨rfl, hG3, hB3⟩
        rw [E3.out] at hB3
        go_wp2
        go_roundw
        case rel => exact ⟨k + 1, by omega, by go_num, by rw [HU.out]; exact hB3, ((hS.mono (fun _ _ f => f.elim)).trans (X := fun j => j = w1.heap.size) hG3 (fun _ _ h => h)).mono (fun j hj h => by omega)⟩
        case measure => simp [intOf]; omega
    · obtain rfl : k = N := by omega
      go_wp2_with fail
      refine (add_nil _ _).mono ?_
      rintro e w3 ⟨rfl, hG3⟩
      go_wp2_with fail
      refine (get_nil _ _).mono ?_
      rintro e w4 ⟨rfl, hG4⟩
      go_wp2_with fail
      refine (remove_nil _ _).mono ?_
      rintro e w5 ⟨rfl, hG5⟩
      have hG35 : Same wr w5 := (hG3.next hG4).next hG5
      have hB5 : Sl 58 w5 w1.heap.size (fil (upto8 k)) := hG35.blk hB (fun f => f)
      go_wp2_with fail
      refine (ids_f _ _ (fil_ok _) _ hB5).mono ?_
      rintro e w6 ⟨A, c, rfl, _, hG6⟩
      by_cases h8 : k < 8
      · have e1 : ((fil (upto8 k)).ids.length : Int) = (k : Int) := by
          rw [fil_ids _ (by unfold upto8; split <;> omega)]
          simp [upto8, h8]
        go_wp2_with first
          | (go_at_call 19; refine (set_nil _ _ _).mono ?_; rintro e w7 ⟨rfl, hG7⟩)
          | (go_at_call 14; refine (ids_nil _).mono ?_; rintro e w8 ⟨rfl, hG8⟩)
        go_ret
        exact ⟨rfl, ((((hS.next hG35).next hG6).next hG7).next hG8).below⟩
      · have e1 : ((fil (upto8 k)).ids.length : Int) = 8 := by
          rw [fil_ids _ (by unfold upto8; split <;> omega)]
          simp [upto8, h8]
        go_wp2_with first
          | (go_at_call 19; refine (set_nil _ _ _).mono ?_; rintro e w7 ⟨rfl, hG7⟩)
          | (go_at_call 14; refine (ids_nil _).mono ?_; rintro e w8 ⟨rfl, hG8⟩)
        all_goals
          go_ret
          exact ⟨rfl, ((((hS.next hG35).next hG6).next hG7).next hG8).below⟩
end Go.Proofs
