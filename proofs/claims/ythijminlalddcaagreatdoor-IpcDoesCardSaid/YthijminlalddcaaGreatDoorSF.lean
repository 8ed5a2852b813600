/- Lists of numbers: read, compared. -/
import Derived.Test.YthijminlalddcaaGreatDoorSB
import Derived.Deep.QuietTactic
import Derived.BigQuiet
set_option linter.unusedVariables false
set_option linter.unusedSimpArgs false
namespace Go.Proofs
open Go.RowKit Go.Shelf
attribute [local go_sem] Oper.semAt_some

/-- A slice value reads as the ints xs; its block lies from lo on. -/
def RdB (w : World) (lo : Nat) (A : Option Addr) (xs : List Int) : Prop := 0 < xs.length → ∃ g off cur, A = some ⟨g, off, none⟩ ∧ lo ≤ g ∧ Blk w g 3 cur ∧ ∀ j, j < xs.length → cur[off + j]? = some (.int .i64 (xs[j]?.getD 0))
theorem RdB.kept {w w' : World} {lo : Nat} {A : Option Addr} {xs : List Int} {X : Nat → Prop} (h : RdB w lo A xs) (hk : KeptX X w w') (hX : ∀ k, X k → k < lo) : RdB w' lo A xs := fun hn => by
  obtain ⟨g, off, cur, e, hg, hb, hc⟩ := h hn
  exact ⟨g, off, cur, e, hg, hk.blk hb (fun hx => by have := hX g hx; omega), hc⟩
theorem RdB.gr {w w' : World} {lo : Nat} {A : Option Addr} {xs : List Int} {X : Nat → Prop} (h : RdB w lo A xs) (hG : Gr w w' X) (hX : ∀ k, X k → k < lo) : RdB w' lo A xs := h.kept (KeptX.of_gr hG) hX
theorem RdB.same {w w' : World} {lo : Nat} {A : Option Addr} {xs : List Int} (h : RdB w lo A xs) (hG : Same w w') : RdB w' lo A xs := h.gr hG (fun _ f => f.elim)
theorem own_slice {w : World} {base : Nat} {v : Value} {xs : List Int} (h : w.ownsRow base 3 1 v xs.length (Ints xs)) : ∃ A c, v = .slice A xs.length c ∧ RdB w base A xs := by
  rcases h.2 with ⟨h1, h2⟩ | ⟨g, cap, cur, h1, hg, hb, _, _, _, ht⟩
  · exact ⟨none, 0, by rw [h1, h2], fun hn => by omega⟩
  · refine ⟨some ⟨g, 0, none⟩, cap, h1, fun _ => ⟨g, 0, cur, rfl, hg, hb, fun j hj => ?_⟩⟩
    rw [Nat.zero_add]
    have h2 : (Ints xs)[j]? = some (.int .i64 (xs[j]?.getD 0)) := by simp [Ints, List.getElem?_eq_getElem hj]
    rw [← ht, List.getElem?_take_of_lt (by omega)] at h2
    simpa using h2
theorem Gr.grownBy {w w' : World} (h : Same w w') : w.grownBy w' none := ⟨h.1, h.2.1, h.2.2.1, h.size, fun k hk _ => h.2.2.2.2 k hk (fun f => f)⟩
/-- the slots that are held, in order -/
def hl {α : Type} (S : St α) : List Nat := (List.range 8).filter fun i => S.hd i
theorem hl_le {α : Type} (S : St α) : (hl S).length ≤ 8 := by unfold hl; have := List.length_filter_le (fun i => S.hd i) (List.range 8); simpa using this
theorem hl_mem {α : Type} {S : St α} {x : Nat} (h : x ∈ hl S) : x < 8 ∧ S.hd x = true := by unfold hl at h; rw [List.mem_filter] at h; exact ⟨List.mem_range.1 h.1, h.2⟩
theorem ids_hl {α : Type} (S : St α) : S.ids = (hl S).map (idOf S) := rfl

set_option maxHeartbeats 1000000 in
theorem ints_any (A B : Option Addr) (c d : Nat) (xs ys : List Int) (N M : Nat) (w : World) (hx : RdB w N A xs) (hy : RdB w M B ys) (h63 : xs.length ≤ 1000000) (h64 : ys.length ≤ 1000000) :
    Calls Tryz.prog 8 #[.slice A xs.length c, .slice B ys.length d] w fun e w' => e = .returned (.bool (decide (xs = ys))) ∧ Same w w' := by
  by_cases hl : xs.length = ys.length
  · generalize hn : xs.length = n at *
    have hl' : ys.length = n := hl.symm
    rw [hl']
    have HX := Lib.hid hn
    have HY := Lib.hid hl'
    clear hn hl hl'
    go_enter Tryz.func8, Tryz.ntmps8
    go_wp2
    go_loopw [5] (fun i wr => ∃ k : Nat, k ≤ n ∧ i = .int .i64 k ∧ xs.take k = ys.take k ∧ ∃ q, wr = w.drewN q) (fun i _ => n - (intOf i).toNat)
    case atStart => exact ⟨0, by omega, rfl, rfl, 0, rfl⟩
    case round =>
      obtain ⟨k, hk, rfl, ht, q, rfl⟩ := hrel
      have HT := Lib.hid ht
      clear ht
      by_cases hlt : k < n
      · obtain ⟨g, off, cx, rfl, _, hbx, hcx⟩ := hx (by rw [HX.out]; omega)
        obtain ⟨g', off', cy, rfl, _, hby, hcy⟩ := hy (by rw [HY.out]; omega)
        have c1 := (hbx.cell (off + k)).trans (hcx k (by rw [HX.out]; exact hlt))
        have c2 := (hby.cell (off' + k)).trans (hcy k (by rw [HY.out]; exact hlt))
        clear hcx hcy hx hy hbx hby
        generalize hx1 : xs[k]?.getD 0 = x at *
        generalize hy1 : ys[k]?.getD 0 = y at *
        have HX1 := Lib.hid hx1
        have HY1 := Lib.hid hy1
        clear hx1 hy1
        have hk0 : (0 : Int) ≤ (k : Int) := by omega
        have hk1 : (k : Int) < (n : Int) := by omega
        go_wp2
        go_quiet (fail)
        go_wp2
        · have hxy : x ≠ y := by
            have : (x != y) = true := by assumption
            simpa using this
          have hne : xs ≠ ys := fun e => hxy (by rw [← HX1.out, ← HY1.out, e])
          go_ret
          exact ⟨by rw [decide_eq_false hne]; rfl, (Gr.refl _ _).drewN _⟩
        · have hxy : x = y := by
            have : (x != y) = false := by assumption
            simpa using this
          go_roundw
          case rel =>
            refine ⟨k + 1, by omega, by go_num, ?_, _, rfl⟩
            rw [List.take_succ_eq_append_getElem (by rw [HX.out]; exact hlt), List.take_succ_eq_append_getElem (by rw [HY.out]; exact hlt), HT.out]
            have e1 := HX1.out
            have e2 := HY1.out
            rw [List.getElem?_eq_getElem (by rw [HX.out]; exact hlt)] at e1
            rw [List.getElem?_eq_getElem (by rw [HY.out]; exact hlt)] at e2
            simp only [Option.getD_some] at e1 e2
            rw [e1, e2, hxy]
          case measure => simp [intOf]; omega
      · obtain rfl : k = n := by omega
        have h1 : xs = ys := by
          have := HT.out
          rwa [List.take_of_length_le (by rw [HX.out]; omega), List.take_of_length_le (by rw [HY.out]; omega)] at this
        go_wp2
        go_ret
        exact ⟨by rw [decide_eq_true h1]; rfl, (Gr.refl _ _).drewN _⟩
  · have hne : xs ≠ ys := fun e => hl (by rw [e])
    have hl1 : ((xs.length : Int) != (ys.length : Int)) = true := by simp; omega
    rw [decide_eq_false hne]
    have H1 := Lib.hid hne
    clear hne hl hx hy
    go_enter Tryz.func8, Tryz.ntmps8
    go_wp2
    go_ret
    exact ⟨rfl, Gr.refl _ _⟩
end Go.Proofs
