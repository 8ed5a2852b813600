/- Pipes: read. -/
import Derived.Test.YtdonlpldbdooaaaDoorV
set_option linter.unusedVariables false
set_option linter.unusedSimpArgs false
namespace Go.Proofs
open Go.RowKit Go.Shelf
attribute [local go_sem] Oper.semAt_some
variable {aW aB : Addr}

theorem read_nil (n : Int) (w : World) : Calls Tryd.prog 12 #[.pointer none, .int .i64 n] w fun e w' => e = .returned (.tuple #[.string ⟨#[]⟩, .int .i64 1]) ∧ w = w' := by
  go_enter Tryd.func12, Tryd.ntmps12
  go_wp2
  go_ret2
  exact ⟨rfl, rfl⟩
/-- What is told of a read. -/
def ReadPost (w : World) (b rb : Nat) (L : List UInt8) (R W n : Int) (e : Ending) (w' : World) : Prop :=
  (n < 0 ∧ e = .returned (.tuple #[.string ⟨#[]⟩, .int .i64 2]) ∧ w = w') ∨
  (0 < n ∧ canR L W = false ∧ e = .returned (.tuple #[.string ⟨#[]⟩, .int .i64 63]) ∧ w = w') ∨
  (0 ≤ n ∧ (n = 0 ∨ canR L W = true) ∧ e = .returned (.tuple #[.string ⟨(L.take n.toNat).toArray⟩, .int .i64 0]) ∧ Pip w' b rb (L.drop n.toNat) R W ∧ Gr w w' (fun j => j = rb))
theorem read_any (b rb : Nat) (L : List UInt8) (R W n : Int) (w : World) (h : Pip w b rb L R W) (hS : Sen w aW aB) : Calls Tryd.prog 12 #[.pointer (some ⟨b, 0, none⟩), .int .i64 n] w (ReadPost w b rb L R W n) := by
  have c0 := h.pb.c0
  have g0 := hS.g0
  have hc := canR_any b rb L R W w h
  have hget : 0 ≤ n → Calls Tryd.prog 27 #[.pointer (some ⟨rb, 0, none⟩), .int .i64 n] w fun e w' => e = .returned (.tuple #[.string ⟨(L.take n.toNat).toArray⟩, .int .i64 0]) ∧ Pip w' b rb (L.drop n.toNat) R W ∧ Gr w w' (fun j => j = rb) := fun hn =>
    (get_any rb n hn w h.rg).mono fun e w' ⟨he, hr, hG⟩ => ⟨he, ⟨h.ne, hG.blk h.pb (fun e => h.ne e.symm), hr, h.hr, h.hw⟩, hG⟩
  rcases (show n < 0 ∨ n = 0 ∨ 0 < n by omega) with hn | rfl | hn
  · clear hc hget
    go_enter Tryd.func12, Tryd.ntmps12
    go_wp2_with fail
    refine (get_neg ⟨rb, 0, none⟩ n hn _).mono ?_; rintro e w1 ⟨rfl, rfl⟩
    go_wp2
    go_ret2
    exact Or.inl ⟨hn, rfl, rfl⟩
  · have hg := hget (by omega)
    clear hc hget
    go_enter Tryd.func12, Tryd.ntmps12
    go_wp2_with fail
    refine hg.mono ?_; rintro e w1 ⟨rfl, hP, hG⟩
    go_wp2
    go_ret2
    exact Or.inr (Or.inr ⟨by omega, .inl rfl, rfl, hP, hG⟩)
  · have hg := hget (by omega)
    clear hget
    cases hcr : canR L W
    · rw [hcr] at hc
      clear hg
      go_enter Tryd.func12, Tryd.ntmps12
      go_wp2_with fail
      refine hc.mono ?_; rintro e w1 ⟨rfl, rfl⟩
      go_wp2_with fail
      refine (told_wait _ hS).mono ?_; rintro e w1 ⟨rfl, rfl⟩
      go_wp2
      go_ret2
      exact Or.inr (Or.inl ⟨hn, hcr, rfl, rfl⟩)
    · rw [hcr] at hc
      go_enter Tryd.func12, Tryd.ntmps12
      go_wp2_with fail
      refine hc.mono ?_; rintro e w1 ⟨rfl, rfl⟩
      go_wp2_with fail
      refine hg.mono ?_; rintro e w1 ⟨rfl, hP, hG⟩
      go_wp2
      go_ret2
      exact Or.inr (Or.inr ⟨by omega, .inr hcr, rfl, hP, hG⟩)
end Go.Proofs
