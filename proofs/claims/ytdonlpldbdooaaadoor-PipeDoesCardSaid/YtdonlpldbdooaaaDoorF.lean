/- The small functions of a ring: New, Len, Room; a text's first bytes; the document's Put and Get. -/
import Derived.Test.YtdonlpldbdooaaaDoorE
import Derived.Deep.QuietTactic
import Derived.BigQuiet
set_option linter.unusedVariables false
set_option linter.unusedSimpArgs false
namespace Go.Proofs
open Go.RowKit Go.Shelf
attribute [local go_sem] Oper.semAt_some

/-- A ring of size sz lies in block b, and holds L. -/
def Ring (w : World) (b sz : Nat) (L : List UInt8) : Prop := ∃ hs f, RInv hs sz f L ∧ Rg w b hs sz f L.length
theorem Ring.gr {w w' : World} {b sz : Nat} {L : List UInt8} {X : Nat → Prop} (h : Ring w b sz L) (hG : Gr w w' X) (hX : ¬ X b) : Ring w' b sz L :=
  let ⟨hs, f, h1, h2⟩ := h; ⟨hs, f, h1, hG.blk h2 hX⟩
theorem Ring.lt {w : World} {b sz : Nat} {L : List UInt8} (h : Ring w b sz L) : b < w.heap.size := let ⟨_, _, _, h2⟩ := h; Blk.lt h2
theorem Ring.le {w : World} {b sz : Nat} {L : List UInt8} (h : Ring w b sz L) : L.length ≤ sz ∧ 1 ≤ sz ∧ sz ≤ 64 := let ⟨_, _, h1, _⟩ := h; ⟨h1.hn, h1.s1, h1.s2⟩

def inB (n : Int) : Bool := decide (1 ≤ n) && decide (n ≤ 64)
theorem inB_false {n : Int} (h : n < 1 ∨ 64 < n) : inB n = false := by unfold inB; simp; omega
theorem inB_true {n : Int} (h : 1 ≤ n) (h' : n ≤ 64) : inB n = true := by unfold inB; simp; omega

set_option maxHeartbeats 400000 in
theorem within_one (n : Int) (b : Nat) (w : World) (hc : w.cell? ⟨b, 0, none⟩ = some (.int .i64 n)) :
    Calls Tryd.prog 33 #[.int .i64 1, .int .i64 64, .slice (some ⟨b, 0, none⟩) 1 1] w fun e w' => e = .returned (.bool (inB n)) ∧ w = w' := by
  go_enter Tryd.func33, Tryd.ntmps33
  go_wp2
  go_loop [6, 8, 11] (fun r v i => r = .bool false ∧ ∃ k : Nat, k ≤ 1 ∧ i = .int .i64 k ∧ (k = 1 → 1 ≤ n ∧ n ≤ 64)) (fun _ _ i => 1 - (intOf i).toNat)
  case atStart => exact ⟨rfl, 0, by omega, rfl, by omega⟩
  case round =>
    obtain ⟨rfl, k, hk, rfl, hall⟩ := hrel
    rcases (show k = 0 ∨ k = 1 by omega) with rfl | rfl
    · clear hall
      go_wp2
      · go_ret
        rw [inB_false (by omega)]
        exact ⟨rfl, rfl⟩
      · go_round
        case rel => exact ⟨rfl, 1, by omega, by go_num, fun _ => by omega⟩
        case measure => simp [intOf]
      · go_ret
        rw [inB_false (by omega)]
        exact ⟨rfl, rfl⟩
    · obtain ⟨h1, h2⟩ := hall rfl
      go_wp2
      go_ret
      rw [inB_true h1 h2]
      exact ⟨rfl, rfl⟩

theorem len_any (b : Nat) {sz : Nat} {L : List UInt8} (w : World) (h : Ring w b sz L) : Calls Tryd.prog 31 #[.pointer (some ⟨b, 0, none⟩)] w fun e w' => e = .returned (.int .i64 L.length) ∧ w = w' := by
  obtain ⟨hs, f, h1, hb⟩ := h
  have c66 := (Blk.cell hb 66).trans (rc_n h1.len)
  go_enter Tryd.func31, Tryd.ntmps31
  go_wp2
  go_ret
  exact ⟨rfl, rfl⟩
theorem len_nil (w : World) : Calls Tryd.prog 31 #[.pointer none] w fun e w' => e = .returned (.int .i64 0) ∧ w = w' := by
  go_enter Tryd.func31, Tryd.ntmps31
  go_wp2
  go_ret
  exact ⟨rfl, rfl⟩
theorem room_nil (w : World) : Calls Tryd.prog 32 #[.pointer none] w fun e w' => e = .returned (.int .i64 0) ∧ w = w' := by
  go_enter Tryd.func32, Tryd.ntmps32
  go_wp2
  go_ret
  exact ⟨rfl, rfl⟩
theorem room_any (b : Nat) {sz : Nat} {L : List UInt8} (w : World) (h : Ring w b sz L) : Calls Tryd.prog 32 #[.pointer (some ⟨b, 0, none⟩)] w fun e w' => e = .returned (.int .i64 ((sz - L.length : Nat) : Int)) ∧ Same w w' := by
  obtain ⟨hs, f, h1, hb⟩ := h
  have c64 := (Blk.cell hb 64).trans (rc_sz h1.len)
  have c66 := (Blk.cell hb 66).trans (rc_n h1.len)
  have hn := h1.hn
  have s2 := h1.s2
  have e1 : ((sz - L.length : Nat) : Int) = (sz : Int) - L.length := by omega
  rw [e1]
  clear e1
  go_enter Tryd.func32, Tryd.ntmps32
  go_wp2
  go_quiet (fail)
  go_wp2
  go_ret
  exact ⟨rfl, (Gr.refl _ _).drewN _⟩

def z64 : List UInt8 := List.replicate 64 0
theorem zero51 (w : World) : (zeroValue 67).run Tryd.prog w = .ok (.agg (rc z64 0 0 0)) w := by kernel_rfl
theorem rc_put (sz : Nat) : (rc z64 0 0 0).setIfInBounds 64 (.int .i64 sz) = rc z64 sz 0 0 := rfl
theorem rc_size : (rc z64 0 0 0).size = 67 := rfl
theorem new_ok (sz : Nat) (h1 : 1 ≤ sz) (h2 : sz ≤ 64) (w : World) : Calls Tryd.prog 25 #[.int .i64 sz] w fun e w' => e = .returned (.tuple #[.pointer (some ⟨w.heap.size + 1, 0, none⟩), .int .i64 0]) ∧ Same w w' ∧ Ring w' (w.heap.size + 1) sz [] := by
  have hi : inB (sz : Int) = true := inB_true (by omega) (by omega)
  have zv := zero51
  have rp := rc_put sz
  have rs := rc_size
  generalize rc z64 0 0 0 = R0 at zv rp rs
  go_enter Tryd.func25, Tryd.ntmps25
  go_wp2_with (go_at_call 33; refine (within_one (sz : Int) _ _ (by simp [Blk.cell (Blk.new _ _ _ _ rfl)])).mono ?_; rw [hi]; rintro e w' ⟨rfl, rfl⟩)
  go_ret2
  exact ⟨rfl, Gr.a2 _ _ _, z64, 0, RInv.new h1 h2 rfl, Blk.new _ _ _ _ (by simp)⟩
theorem new_bad (sz : Int) (h : sz < 1 ∨ 64 < sz) (w : World) : Calls Tryd.prog 25 #[.int .i64 sz] w fun e w' => e = .returned (.tuple #[.pointer none, .int .i64 2]) ∧ Same w w' := by
  have hi : inB (sz : Int) = false := inB_false h
  go_enter Tryd.func25, Tryd.ntmps25
  go_wp2_with (go_at_call 33; refine (within_one (sz : Int) _ _ (by simp [Blk.cell (Blk.new _ _ _ _ rfl)])).mono ?_; rw [hi]; rintro e w' ⟨rfl, rfl⟩)
  go_ret2
  exact ⟨rfl, Gr.a1 _ _⟩

theorem bax {a b : ByteArray} (h : a.data.toList = b.data.toList) : a = b := by
  rw [ByteArray.ext_iff]; exact Array.ext' h
theorem ret_str {a b : ByteArray} (h : a = b) : Ending.returned (.string a) = .returned (.string b) := by rw [h]
theorem ret_si {a b : ByteArray} {k : IntKind} {m n : Int} (h : a = b) (h' : m = n) : Ending.returned (.tuple #[.string a, .int k m]) = .returned (.tuple #[.string b, .int k n]) := by rw [h, h']
theorem ret_ssi {a b a' b' : ByteArray} {k : IntKind} {n : Int} (h : a = b) (h' : a' = b') : Ending.returned (.tuple #[.string a, .string a', .int k n]) = .returned (.tuple #[.string b, .string b', .int k n]) := by rw [h, h']
theorem ba_append (a b : ByteArray) : (a ++ b).data.toList = a.data.toList ++ b.data.toList := by simp
end Go.Proofs
