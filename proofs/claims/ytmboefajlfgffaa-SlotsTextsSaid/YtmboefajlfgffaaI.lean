/- SlotsRound, SlotsGone, SlotsFull: the walks. -/
import Derived.Test.YtmboefajlfgffaaH
set_option linter.unusedVariables false
set_option linter.unusedSimpArgs false
namespace Go.Proofs
open Go.RowKit Go.Shelf

def ZI : Value := .int .i64 0
/-- behind k rounds of Add and Remove in the first slot -/
def rnd (k : Nat) : St := { sq := fun j => if j = 0 then (k : Int) % 4096 else 0, vv := fun _ => ZI, hd := fun _ => false }
theorem rnd_zero : rnd 0 = St.zero ZI := by
  unfold rnd St.zero
  congr
  funext j
  split <;> rfl
theorem rnd_free (k : Nat) : (rnd k).free = some 0 := free_some (by omega) rfl (fun j hj => by omega)
theorem rnd_id (k : Nat) : idOf (rnd k) 0 = 8 * ((k : Int) % 4096) := by simp [idOf, rnd]
theorem rnd_addId (k : Nat) : (rnd k).addId = 8 * ((k : Int) % 4096) := by simp [St.addId, rnd_free, rnd_id]
theorem rnd_addE (k : Nat) : (rnd k).addE = 0 := by simp [St.addE, rnd_free]
theorem rnd_add (k : Nat) (v : Value) : (rnd k).addS v = ((rnd k).setV 0 v).setH 0 true := by simp [St.addS, rnd_free]
theorem rnd_place (k : Nat) (v : Value) : ((rnd k).addS v).place (8 * ((k : Int) % 4096)) = some 0 := by
  rw [rnd_add]
  exact place_some (by omega) rfl (rnd_id k)
theorem rnd_getE (k : Nat) (v : Value) : ((rnd k).addS v).getE (8 * ((k : Int) % 4096)) = 0 := by simp [St.getE, rnd_place]
theorem rnd_getV (k : Nat) (v z : Value) : ((rnd k).addS v).getV (8 * ((k : Int) % 4096)) z = v := by
  simp only [St.getV, rnd_place]
  rw [rnd_add]; rfl
theorem rnd_step (k : Nat) (v : Value) : ((rnd k).addS v).rmS (8 * ((k : Int) % 4096)) ZI = rnd (k + 1) := by
  unfold St.rmS
  rw [rnd_place, rnd_add]
  simp only [St.rm, St.setV, St.setH, St.setS, rnd]
  congr
  · funext j
    by_cases h : j = 0
    · simp [h]
    · simp [h]
  · funext j; by_cases h : j = 0 <;> simp [h]
  · funext j; by_cases h : j = 0 <;> simp [h]
theorem rnd_ok (k : Nat) : (rnd k).ok := fun i _ => by
  show 0 ≤ (if i = 0 then (k : Int) % 4096 else 0) ∧ (if i = 0 then (k : Int) % 4096 else 0) ≤ 4095
  split <;> omega
theorem rnd_vals (k : Nat) : SVals' (rnd k) := fun _ _ => ⟨0, rfl⟩
theorem vals_add {S : St} (h : SVals' S) (v : Int) : SVals' (S.addS (.int .i64 v)) := all_addS h ⟨v, rfl⟩

set_option maxRecDepth 100000 in
set_option maxHeartbeats 1000000 in
theorem slotsRound_walk (v : Int) (w : World) : Calls Try.prog 3 #[.int .i64 v] w fun e w' => e = .returned (.bool true) ∧ Below w.heap.size w w' := by
  go_enter Try.func3, Try.ntmps3
  go_wp2_with fail
  refine (shown_s _).mono ?_
  rintro e w1 ⟨rfl, hG1⟩
  go_wp2_with fail
  refine (new_any _).mono ?_
  rintro e w2 ⟨rfl, hG2, hB2⟩
  have hz1 := hG1.size
  have hz2 := hG2.size
  have hB0 : Sl 58 w2 w1.heap.size (rnd 0) := by rw [rnd_zero]; exact hB2
  have hS0 : Same w w2 := hG1.next hG2
  clear hB2 hG1 hG2
  go_wp2
  go_loopw [5, 6, 7, 8, 9] (fun i _ _ _ _ wr => ∃ k : Nat, k ≤ 4096 ∧ i = .int .i64 k ∧ Sl 58 wr w1.heap.size (rnd k) ∧ Same w wr) (fun i _ _ _ _ _ => 4096 - (intOf i).toNat)
  case atStart => exact ⟨0, by omega, rfl, hB0, hS0⟩
  case round =>
    obtain ⟨k, hk, rfl, hB, hS⟩ := hrel
    by_cases hlt : k < 4096
    · have hm : (k : Int) % 4096 = k := by omega
      have e1 := rnd_addId k
      have e2 := rnd_addE k
      have e3 := rnd_getE k (.int .i64 v)
      have e5 := rnd_step k (.int .i64 v)
      rw [hm] at e1 e3 e5
      have E5 := Lib.hid e5
      clear hm e5
      go_wp2_with fail
      refine (add_f _ _ (rnd_ok k) v _ hB).mono ?_
      rintro e w3 ⟨rfl, hG3, hB3⟩
      go_wp2_with fail
      refine (remove_f _ _ (ok_addS (rnd_ok k) _) (vals_add (rnd_vals k) v) (8 * (k : Int)) _ hB3).mono ?_
      rintro e w4 ⟨rfl, hG4, hB4⟩
      rw [show (Value.int .i64 0) = ZI from rfl, E5.out] at hB4
      go_wp2
      go_roundw
      case rel => exact ⟨k + 1, by omega, by go_num, hB4, ((hS.mono (fun _ _ f => f.elim)).trans (X := fun j => j = w1.heap.size) (hG3.trans hG4 (fun _ _ h => h)) (fun _ _ h => h)).mono (fun j hj h => by omega)⟩
      case measure => simp [intOf]; omega
    · have e1 : (rnd k).addId = 0 := by rw [rnd_addId]; omega
      have e2 := rnd_addE k
      go_wp2_with fail
      refine (add_f _ _ (rnd_ok k) v _ hB).mono ?_
      rintro e w3 ⟨rfl, hG3, hB3⟩
      go_wp2
      go_ret
      exact ⟨rfl, Gr.below (((hS.mono (fun _ _ f => f.elim)).trans (X := fun j => j = w1.heap.size) hG3 (fun _ _ h => h)).mono (fun j hj h => by omega))⟩
end Go.Proofs
