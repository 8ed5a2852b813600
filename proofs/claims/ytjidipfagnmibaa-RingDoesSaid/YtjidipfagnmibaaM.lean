/- The three acts that each statement begins with. -/
import Derived.Test.YtjidipfagnmibaaH
set_option linter.unusedVariables false
set_option linter.unusedSimpArgs false
namespace Go.Proofs
open Go.RowKit Go.Shelf

theorem put_at (b : Nat) {sz : Nat} {L : List UInt8} (s : ByteArray) (m : Nat) (L' : List UInt8) (w : World) (h : Ring w b sz L) (hs : s.size ≤ maxLen) (hm : min s.size (sz - L.length) = m) (hL : L ++ s.data.toList.take m = L') :
    Calls Try.prog 11 #[.pointer (some ⟨b, 0, none⟩), .string s] w fun e w' => e = .returned (.tuple #[.int .i64 m, .int .i64 0]) ∧ Ring w' b sz L' ∧ Gr w w' (fun k => k = b) := by
  subst hm hL
  exact put_any b s hs w h
theorem get_at (b : Nat) {sz : Nat} {L : List UInt8} (n : Int) (o L' : List UInt8) (w : World) (h : Ring w b sz L) (hn : 0 ≤ n) (ho : L.take n.toNat = o) (hL : L.drop n.toNat = L') :
    Calls Try.prog 12 #[.pointer (some ⟨b, 0, none⟩), .int .i64 n] w fun e w' => e = .returned (.tuple #[.string ⟨o.toArray⟩, .int .i64 0]) ∧ Ring w' b sz L' ∧ Gr w w' (fun k => k = b) := by
  subst ho hL
  exact get_any b n hn w h

set_option maxHeartbeats 1000000 in
theorem shown_any (w : World) : Calls Try.prog 9 #[] w fun e w' => e = .returned (.bool true) ∧ Same w w' := by
  go_enter Try.func9, Try.ntmps9
  go_wp2_with fail
  refine (new_ok 4 (by omega) (by omega) _).mono ?_; rintro e w1 ⟨rfl, hG1, hR1⟩
  go_wp2_with fail
  refine (put_at _ _ 4 [97, 98, 99, 100] _ hR1 (by decide) (by decide) (by decide)).mono ?_; rintro e w2 ⟨rfl, hR2, hG2⟩
  go_wp2_with fail
  refine (get_at _ 2 [97, 98] [99, 100] _ hR2 (by decide) (by decide) (by decide)).mono ?_; rintro e w3 ⟨rfl, hR3, hG3⟩
  go_wp2_with fail
  refine (put_at _ _ 2 [99, 100, 103, 104] _ hR3 (by decide) (by decide) (by decide)).mono ?_; rintro e w4 ⟨rfl, hR4, hG4⟩
  go_wp2_with fail
  refine (new_bad 0 (by omega) _).mono ?_; rintro e w5 ⟨rfl, hG5⟩
  have hR5 := hR4.gr hG5 (fun f => f)
  go_wp2_with fail
  refine (bytes_ring _ _ hR5).mono ?_; rintro e w6 ⟨rfl, hG6⟩
  go_wp2
  go_ret
  refine ⟨rfl, ?_⟩
  have hz := hG1.size
  exact Gr.mono (((((hG1.no.trans hG2 (fun _ _ h => h)).trans hG3 (fun _ _ h => h)).trans hG4 (fun _ _ h => h)).trans hG5.no (fun _ _ h => h)).trans hG6.no (fun _ _ h => h)) (fun j hj e => by omega)
end Go.Proofs
