/- Get. -/
import Derived.Test.YtdonlpldbdooaaaDoorF
import Derived.BigRegion
import Derived.ScopeJumps
set_option linter.unusedVariables false
set_option linter.unusedSimpArgs false
namespace Go.Proofs
open Go.RowKit Go.Shelf
attribute [local go_sem] Oper.semAt_some

theorem rc_set65 {hs : List UInt8} {sz f n : Nat} (h : hs.length = 64) (f' : Nat) : (rc hs sz f n).setIfInBounds 65 (.int .i64 f') = rc hs sz f' n := by
  unfold rc
  simp only [List.setIfInBounds_toArray]
  rw [List.set_append_right _ _ (by rw [bc_len]; omega), bc_len, h]
  rfl
theorem rc_set66 {hs : List UInt8} {sz f n : Nat} (h : hs.length = 64) (n' : Nat) : (rc hs sz f n).setIfInBounds 66 (.int .i64 n') = rc hs sz f n' := by
  unfold rc
  simp only [List.setIfInBounds_toArray]
  rw [List.set_append_right _ _ (by rw [bc_len]; omega), bc_len, h]
  rfl
theorem Ring.ends {w w1 : World} {b sz f f' : Nat} {hs L L' : List UInt8} {x y : Int} (h1 : RInv hs sz f L) (hb : Blk w1 b 67 (rc hs sz f L.length)) (hG : Same w w1) (h2 : RInv hs sz f' L') (hx : x = f') (hy : y = L'.length) :
    Ring ((w1.setCell ⟨b, 65, none⟩ (.int .i64 x)).setCell ⟨b, 66, none⟩ (.int .i64 y)).drew b sz L' ∧ Gr w ((w1.setCell ⟨b, 65, none⟩ (.int .i64 x)).setCell ⟨b, 66, none⟩ (.int .i64 y)).drew (fun k => k = b) := by
  subst hx hy
  refine ⟨⟨hs, f', h2, ?_⟩, ((hG.no.set1 _ _).set1 _ _).drew⟩
  have := ((hb.set_ 65 (.int .i64 f')).set_ 66 (.int .i64 L'.length)).drew
  rwa [rc_set65 h1.len, rc_set66 h1.len] at this

theorem bytes_ring (b : Nat) {sz : Nat} {L : List UInt8} (w : World) (h : Ring w b sz L) : Calls Tryd.prog 35 #[.pointer (some ⟨b, 0, none⟩)] w fun e w' => e = .returned (.string ⟨L.toArray⟩) ∧ Same w w' :=
  let ⟨_, _, h1, h2⟩ := h; bytes_any b h1 w h2
theorem bytes_nil (w : World) : Calls Tryd.prog 35 #[.pointer none] w fun e w' => e = .returned (.string ⟨#[]⟩) ∧ Same w w' := by
  go_enter Tryd.func35, Tryd.ntmps35
  go_wp2
  go_quiet (fail)
  go_wp2
  go_ret
  exact ⟨rfl, (Gr.a1 _ _).drewN _⟩

theorem get_nil (n : Int) (w : World) : Calls Tryd.prog 27 #[.pointer none, .int .i64 n] w fun e w' => e = .returned (.tuple #[.string ⟨#[]⟩, .int .i64 1]) ∧ w = w' := by
  go_enter Tryd.func27, Tryd.ntmps27
  go_wp2
  go_step3
  go_wp2
  rw [Exit.noGoto_ret]
  go_ret2
  exact ⟨rfl, rfl⟩
set_option maxRecDepth 100000 in
theorem get_neg (a : Addr) (n : Int) (hn : n < 0) (w : World) : Calls Tryd.prog 27 #[.pointer (some a), .int .i64 n] w fun e w' => e = .returned (.tuple #[.string ⟨#[]⟩, .int .i64 2]) ∧ w = w' := by
  go_enter Tryd.func27, Tryd.ntmps27
  go_wp2
  refine wp_scope_jumps 0 (fun a' w' => w = w' ∧ a' = { tmps := #[.pointer (some a), .int .i64 n, undef, undef, .string ⟨#[]⟩, .int .i64 0, .string ⟨#[]⟩, .pointer (some a), .bool false, .int .i64 n, .bool true, undef, undef, undef, undef, undef, undef, undef, undef, undef, undef, undef, undef, undef, undef, undef, undef, undef, undef, undef, undef, undef, undef, undef, undef, undef, undef, undef, undef, undef, undef, undef, undef, undef, undef, undef], defers := [] }) (fun _ _ => 0) rfl ?_ ?_
  · go_wp2
    go_step3
    exact ⟨rfl, rfl, rfl⟩
  · rintro a' w' ⟨rfl, rfl⟩
    go_wp2
    simp only [Exit.jump]
    go_ret2
    exact ⟨rfl, rfl⟩
set_option maxHeartbeats 800000 in
theorem get_any (b : Nat) {sz : Nat} {L : List UInt8} (n : Int) (hn : 0 ≤ n) (w : World) (h : Ring w b sz L) : Calls Tryd.prog 27 #[.pointer (some ⟨b, 0, none⟩), .int .i64 n] w fun e w' =>
    e = .returned (.tuple #[.string ⟨(L.take n.toNat).toArray⟩, .int .i64 0]) ∧ Ring w' b sz (L.drop n.toNat) ∧ Gr w w' (fun k => k = b) := by
  obtain ⟨hs, f, h1, hb⟩ := id h
  have c66 := (Blk.cell hb 66).trans (rc_n h1.len)
  have hle := h1.hn
  have s2 := h1.s2
  rcases (show (L.length : Int) < n ∨ n ≤ L.length by omega) with hl | hl
  · go_enter Tryd.func27, Tryd.ntmps27
    go_wp2
    go_step3
    go_wp2_with (go_at_call 35; refine (bytes_ring _ _ h).mono ?_; rintro e w1 ⟨rfl, hG⟩)
    have hb1 := hG.blk (show Blk w b 67 (rc hs sz f L.length) from hb) (fun f => f)
    have k64 := (Blk.cell hb1 64).trans (rc_sz h1.len)
    have k65 := (Blk.cell hb1 65).trans (rc_f h1.len)
    have k66 := (Blk.cell hb1 66).trans (rc_n h1.len)
    have z65 := hb1.frozen 65
    have z66 := hb1.frozen 66
    have hf := h1.hf
    have hsz0 : (sz : Int) ≠ 0 := by omega
    clear c66 hb h
    go_region
    go_wp2
    rw [Exit.noGoto_ret]
    go_ret2
    refine ⟨ret_si (bax (by simp [Lib.extract_data, List.take_of_length_le (show L.length ≤ n.toNat by omega)])) rfl, ?_⟩
    rw [show L.drop n.toNat = [] from List.drop_eq_nil_of_le (by omega)]
    have h2 := h1.get L.length (Nat.le_refl _)
    rw [List.drop_eq_nil_of_le (Nat.le_refl _)] at h2
    exact Ring.ends h1 hb1 hG h2 (by simp) rfl
  · go_enter Tryd.func27, Tryd.ntmps27
    go_wp2
    go_step3
    go_wp2_with (go_at_call 35; refine (bytes_ring _ _ h).mono ?_; rintro e w1 ⟨rfl, hG⟩)
    have hb1 := hG.blk (show Blk w b 67 (rc hs sz f L.length) from hb) (fun f => f)
    have k64 := (Blk.cell hb1 64).trans (rc_sz h1.len)
    have k65 := (Blk.cell hb1 65).trans (rc_f h1.len)
    have k66 := (Blk.cell hb1 66).trans (rc_n h1.len)
    have z65 := hb1.frozen 65
    have z66 := hb1.frozen 66
    have hf := h1.hf
    have hsz0 : (sz : Int) ≠ 0 := by omega
    clear c66 hb h
    go_region
    go_wp2
    rw [Exit.noGoto_ret]
    go_ret2
    refine ⟨ret_si (bax (by simp [Lib.extract_data])) rfl, ?_⟩
    obtain ⟨m, rfl⟩ : ∃ m : Nat, n = m := ⟨n.toNat, by omega⟩
    have h2 := h1.get m (by omega)
    exact Ring.ends h1 hb1 hG h2 (by simp) (by simp; omega)
end Go.Proofs
