/- CredDoes. -/
import Derived.Test.YtlkbmmcbhfhalaaP
import Derived.Deep.RegionHeld3
set_option linter.unusedVariables false
set_option linter.unusedSimpArgs false
namespace Go.Proofs
open Go.RowKit Go.Shelf

theorem setr_ok (u g pu pg pcu pcg m uid gid mode : Int) (w : World) (hr : areB [u, g] = true) (hp : permB pu pg pcu pcg m = true) (hq : permB uid gid pcu pcg mode = true) (ho : ownsB u g pu pg pcu pcg m = true) : Calls Try.prog 16 #[.agg #[.int .i64 u, .int .i64 g], .agg #[.int .i64 pu, .int .i64 pg, .int .i64 pcu, .int .i64 pcg, .int .i64 m], .int .i64 uid, .int .i64 gid, .int .i64 mode] w fun e w' => e = .returned (.tuple #[.agg #[.int .i64 uid, .int .i64 gid, .int .i64 pcu, .int .i64 pcg, .int .i64 mode], .int .i64 0]) ∧ Same w w' :=
  (set_r u g pu pg pcu pcg m uid gid mode w).mono fun e w' hh => ⟨by rw [hh.1, setV, if_pos ⟨hr, hp, hq⟩, if_pos ho], hh.2⟩
theorem setr_denied (u g pu pg pcu pcg m uid gid mode : Int) (w : World) (hr : areB [u, g] = true) (hp : permB pu pg pcu pcg m = true) (hq : permB uid gid pcu pcg mode = true) (ho : ownsB u g pu pg pcu pcg m = false) : Calls Try.prog 16 #[.agg #[.int .i64 u, .int .i64 g], .agg #[.int .i64 pu, .int .i64 pg, .int .i64 pcu, .int .i64 pcg, .int .i64 m], .int .i64 uid, .int .i64 gid, .int .i64 mode] w fun e w' => e = .returned (.tuple #[.agg #[.int .i64 0, .int .i64 0, .int .i64 0, .int .i64 0, .int .i64 0], .int .i64 51]) ∧ Same w w' :=
  (set_r u g pu pg pcu pcg m uid gid mode w).mono fun e w' hh => ⟨by rw [hh.1, setV, if_pos ⟨hr, hp, hq⟩, if_neg (by simp [ho])], hh.2⟩
theorem setr_wrong (u g pu pg pcu pcg m uid gid mode : Int) (w : World) (hn : ¬ (areB [u, g] = true ∧ permB pu pg pcu pcg m = true ∧ permB uid gid pcu pcg mode = true)) : Calls Try.prog 16 #[.agg #[.int .i64 u, .int .i64 g], .agg #[.int .i64 pu, .int .i64 pg, .int .i64 pcu, .int .i64 pcg, .int .i64 m], .int .i64 uid, .int .i64 gid, .int .i64 mode] w fun e w' => e = .returned (.tuple #[.agg #[.int .i64 0, .int .i64 0, .int .i64 0, .int .i64 0, .int .i64 0], .int .i64 50]) ∧ Same w w' :=
  (set_r u g pu pg pcu pcg m uid gid mode w).mono fun e w' hh => ⟨by rw [hh.1, setV, if_neg hn], hh.2⟩
theorem maker_yes (u g m : Int) (w : World) (h : permB u g u g m = true) : Calls Try.prog 14 #[.agg #[.int .i64 u, .int .i64 g], .int .i64 m] w fun e w' => e = .returned (.tuple #[.agg #[.int .i64 u, .int .i64 g, .int .i64 u, .int .i64 g, .int .i64 m], .int .i64 0]) ∧ Same w w' :=
  (make_r u g m w).mono fun e w' hh => ⟨by rw [hh.1, makeV, if_pos h], hh.2⟩
theorem maker_no (u g m : Int) (w : World) (h : permB u g u g m = false) : Calls Try.prog 14 #[.agg #[.int .i64 u, .int .i64 g], .int .i64 m] w fun e w' => e = .returned (.tuple #[.agg #[.int .i64 0, .int .i64 0, .int .i64 0, .int .i64 0, .int .i64 0], .int .i64 50]) ∧ Same w w' :=
  (make_r u g m w).mono fun e w' hh => ⟨by rw [hh.1, makeV, if_neg (by simp [h])], hh.2⟩
end Go.Proofs
