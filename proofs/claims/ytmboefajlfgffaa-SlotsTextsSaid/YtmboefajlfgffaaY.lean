/- The reference's Ids; Ints; number. -/
import Derived.Test.YtmboefajlfgffaaX
import Derived.Deep.QuietTactic
import Derived.BigQuiet
set_option linter.unusedVariables false
set_option linter.unusedSimpArgs false
namespace Go.Proofs
open Go.RowKit Go.Shelf

/-- A slice value reads as the ints xs. -/
def RdI (w : World) (B : Nat) (A : Option Addr) (xs : List Int) : Prop := 0 < xs.length → ∃ g off, A = some ⟨g, off, none⟩ ∧ g < B ∧ ∀ j, j < xs.length → w.cell? ⟨g, off + j, none⟩ = some (.int .i64 (xs[j]?.getD 0))
theorem RdI.gr {w w' : World} {B : Nat} {A : Option Addr} {xs : List Int} {X : Nat → Prop} (h : RdI w B A xs) (hG : Gr w w' X) (hB : B ≤ w.heap.size) (hX : ∀ k, k < B → ¬ X k) : RdI w' B A xs := fun hn => by
  obtain ⟨g, off, e, hg, hc⟩ := h hn
  exact ⟨g, off, e, hg, fun j hj => (hG.cell (p := ⟨g, off + j, none⟩) (by dsimp only; omega) (hX g hg)).trans (hc j hj)⟩
theorem rdI_own {w : World} {base : Nat} {A : Option Addr} {c : Nat} {xs : List Int} (h : w.ownsRow base 3 1 (.slice A xs.length c) xs.length (Ints xs)) : RdI w w.heap.size A xs := fun hn => by
  rcases h.2 with ⟨h1, h2⟩ | ⟨g, cap, cur, hv, hg, hb, hs, hcell⟩
  · omega
  · injection hv with h1 h2 h3
    have hlt : g < w.heap.size := (Array.getElem?_eq_some_iff.1 hb).1
    refine ⟨g, 0, h1, hlt, fun j hj => ?_⟩
    have hh := h.cells (g := g) (by rw [h1, h3]; rfl)
    have := hh j (.int .i64 (xs[j]?.getD 0)) (by simp [Ints, List.getElem?_eq_getElem hj])
    rw [show (⟨g, 0, none⟩ : Addr).add j = ⟨g, 0 + j, none⟩ from by unfold Addr.add; split <;> simp_all] at this
    exact this

set_option maxHeartbeats 1000000 in
theorem ints_any (A B : Option Addr) (c d : Nat) (xs ys : List Int) (N M : Nat) (w : World) (hx : RdI w N A xs) (hy : RdI w M B ys) (h63 : xs.length ≤ 1000000) (h64 : ys.length ≤ 1000000) :
    Calls Try.prog 22 #[.slice A xs.length c, .slice B ys.length d] w fun e w' => e = .returned (.bool (decide (xs = ys))) ∧ Same w w' := by
  by_cases hl : xs.length = ys.length
  · generalize hn : xs.length = n at *
    have hl' : ys.length = n := hl.symm
    rw [hl']
    have HX := Lib.hid hn
    have HY := Lib.hid hl'
    clear hn hl hl'
    go_enter Try.func22, Try.ntmps22
    go_wp2
    go_loopw [5] (fun i wr => ∃ k : Nat, k ≤ n ∧ i = .int .i64 k ∧ xs.take k = ys.take k ∧ ∃ q, wr = w.drewN q) (fun i _ => n - (intOf i).toNat)
    case atStart => exact ⟨0, by omega, rfl, rfl, 0, rfl⟩
    case round =>
      obtain ⟨k, hk, rfl, ht, q, rfl⟩ := hrel
      have HT := Lib.hid ht
      clear ht
      by_cases hlt : k < n
      · obtain ⟨g, off, rfl, _, hcx⟩ := hx (by rw [HX.out]; omega)
        obtain ⟨g', off', rfl, _, hcy⟩ := hy (by rw [HY.out]; omega)
        have c1 := hcx k (by rw [HX.out]; exact hlt)
        have c2 := hcy k (by rw [HY.out]; exact hlt)
        clear hcx hcy hx hy
        generalize hx1 : xs[k]?.getD 0 = x at *
        generalize hy1 : ys[k]?.getD 0 = y at *
        have HX1 := Lib.hid hx1
        have HY1 := Lib.hid hy1
        clear hx1 hy1
        have hk0 : (0 : Int) ≤ (k : Int) := by omega
        have hk1 : (k : Int) < (n : Int) := by omega
        go_wp2
        go_quiet (fail)
        go_wp2
        · have hxy : x ≠ y := by
            have : (x != y) = true := by assumption
            simpa using this
          have hne : xs ≠ ys := fun e => hxy (by rw [← HX1.out, ← HY1.out, e])
          go_ret
          exact ⟨by rw [decide_eq_false hne]; rfl, (Gr.refl _ _).drewN _⟩
        · have hxy : x = y := by
            have : (x != y) = false := by assumption
            simpa using this
          go_roundw
          case rel =>
            refine ⟨k + 1, by omega, by go_num, ?_, _, rfl⟩
            rw [List.take_succ_eq_append_getElem (by rw [HX.out]; exact hlt), List.take_succ_eq_append_getElem (by rw [HY.out]; exact hlt), HT.out]
            have e1 := HX1.out
            have e2 := HY1.out
            rw [List.getElem?_eq_getElem (by rw [HX.out]; exact hlt)] at e1
            rw [List.getElem?_eq_getElem (by rw [HY.out]; exact hlt)] at e2
            simp only [Option.getD_some] at e1 e2
            rw [e1, e2, hxy]
          case measure => simp [intOf]; omega
      · obtain rfl : k = n := by omega
        have h1 : xs = ys := by
          have := HT.out
          rwa [List.take_of_length_le (by rw [HX.out]; omega), List.take_of_length_le (by rw [HY.out]; omega)] at this
        go_wp2
        go_ret
        exact ⟨by rw [decide_eq_true h1]; rfl, (Gr.refl _ _).drewN _⟩
  · have hne : xs ≠ ys := fun e => hl (by rw [e])
    have hl1 : ((xs.length : Int) != (ys.length : Int)) = true := by simp; omega
    rw [decide_eq_false hne]
    have H1 := Lib.hid hne
    clear hne hl hx hy
    go_enter Try.func22, Try.ntmps22
    go_wp2
    go_ret
    exact ⟨rfl, Gr.refl _ _⟩

theorem own_ge {w : World} {base : Nat} {e : TypeId} {size n : Nat} {v : Value} {xs : List Value} (h : w.ownsRow base e size v n xs) {j : Nat} (ej : v.ownBlock = some j) : base ≤ j := by
  rcases h.2 with ⟨rfl, _⟩ | ⟨g, cap, cur, rfl, hb, _⟩
  · simp [Value.ownBlock] at ej
  · obtain rfl : g = j := by simpa [Value.ownBlock] using ej
    exact hb

set_option maxRecDepth 100000 in
set_option maxHeartbeats 2000000 in
theorem rids (b : Nat) (S : St) (V : Nat → Int) (hS : S.ok) (w : World) (hb : Rf w b S V) :
    Calls Try.prog 16 #[.pointer (some ⟨b, 0, none⟩)] w fun e w' => ∃ v, e = .returned v ∧ w'.ownsRow w.heap.size 3 1 v S.ids.length (Ints S.ids) ∧ Same w w' := by
  have hlt := Blk.lt hb
  obtain ⟨i0, hi, hz0, hz1, hz2⟩ := info_parts info3
  have HB := Lib.hid hb
  clear hb
  go_enter Try.func16, Try.ntmps16
  go_wp2
  go_loopw [3, 4] (fun v i wr => ∃ k : Nat, k ≤ 8 ∧ i = .int .i64 k ∧ wr.ownsRow w.heap.size 3 1 v (idsOf S (List.range k)).length (Ints (idsOf S (List.range k))) ∧ Same w wr) (fun _ i _ => 8 - (intOf i).toNat)
  case atStart => exact ⟨0, by omega, rfl, World.ownsRow_nil _ _ _ _, Gr.refl _ _⟩
  case round =>
    obtain ⟨k, hk, rfl, hrow, hG⟩ := hrel
    by_cases hlt8 : k < 8
    · have hB := hG.blk HB.out (fun f => f)
      have c := (Blk.cell hB k).trans (rc_hd S V k hlt8)
      have hle := ids_le S (List.range k)
      simp at hle
      have hzW := hG.size
      cases hd : S.hd k
      · rw [hd] at c
        have HE : Hid (idsOf S (List.range (k + 1)) = idsOf S (List.range k)) := by rw [List.range_succ]; exact ids_miss _ _ _ hd
        clear hd
        go_wp2
        go_roundw
        case rel => exact ⟨k + 1, by omega, by go_num, by rw [HE.out]; exact hrow, hG⟩
        case measure => simp [intOf]; omega
      · rw [hd] at c
        have HE : Hid (idsOf S (List.range (k + 1)) = idsOf S (List.range k) ++ [idOf S k]) := by rw [List.range_succ]; exact ids_hit _ _ _ hd
        clear hd
        go_wp2_with first
          | (go_at_call 34; refine (rid b k S V hS hlt8 _ hB).mono ?_; rintro e w' ⟨rfl, rfl⟩)
          | (at_builtin; refine wpList_append_own _ rfl _ _ 29 rfl w.heap.size 3 i0 (.int .i64 0) 1 8 Try.underlying29 hi hz0 hz1 hz2 rfl (by decide) _ _ _ rfl (hrow.alloc _) ⟨wr.heap.size, 0, none⟩ 1 1 [.int .i64 (idOf S k)] rfl rfl (cell_one_new _ _ _) (by simp [Value.oneCell']) (by unfold maxLen; omega) (by omega) (by simp; omega) ?_; intro v' w2 hown' hgrow _)
        go_roundw
        case rel => exact ⟨k + 1, by omega, by go_num, by rw [HE.out]; simpa [Ints] using hown', (hG.alloc _).trans (Gr.of_grownBy (X := fun j => w.heap.size ≤ j) hgrow (fun j ej => .inl (own_ge hrow ej))) (fun j hj h => by omega)⟩
        case measure => simp [intOf]; omega
    · obtain rfl : k = 8 := by omega
      go_wp2
      go_ret
      exact ⟨_, rfl, hrow, hG⟩

theorem own_slice {w : World} {base : Nat} {v : Value} {xs : List Int} (h : w.ownsRow base 3 1 v xs.length (Ints xs)) : ∃ A c, v = .slice A xs.length c ∧ RdI w w.heap.size A xs := by
  rcases h.2 with ⟨h1, h2⟩ | ⟨g, cap, _, h1, _⟩
  · exact ⟨none, 0, by rw [h1, h2], fun hn => by omega⟩
  · refine ⟨some ⟨g, 0, none⟩, cap, h1, ?_⟩
    rw [h1] at h
    exact rdI_own h

def numAt (n : Nat) (id : Int) : Int := wrap64 ((IntKind.u64.wrap id).tmod (n : Int))
def numI (xs : List Int) (id : Int) (pl : Bool) : Int :=
  if pl = true ∧ 0 < xs.length then xs[(numAt xs.length id).toNat]?.getD 0 else id

theorem numAt_in (n : Nat) (id : Int) (h0 : 0 < n) (h1 : n ≤ 1000000) : 0 ≤ numAt n id ∧ numAt n id < (n : Int) := by
  have e : IntKind.u64.wrap id = id % 18446744073709551616 := by go_num
  have p : (0 : Int) ≤ id % 18446744073709551616 := by omega
  have a := Int.tmod_lt_of_pos (id % 18446744073709551616) (b := (n : Int)) (by omega)
  have b := Int.tmod_nonneg (n : Int) p
  unfold numAt
  rw [e]
  generalize (id % 18446744073709551616).tmod (n : Int) = m at *
  unfold wrap64
  omega

set_option maxHeartbeats 1000000 in
theorem number_any (A : Option Addr) (c : Nat) (xs : List Int) (N : Nat) (d id v : Int) (pl : Bool) (w : World) (hx : RdI w N A xs) (h63 : xs.length ≤ 1000000) :
    Calls Try.prog 15 #[.slice A xs.length c, .agg #[.int .i64 d, .int .i64 id, .bool pl, .int .i64 v]] w fun e w' => e = .returned (.int .i64 (numI xs id pl)) ∧ Same w w' := by
  unfold numI
  cases pl
  · rw [if_neg (by simp)]
    go_enter Try.func15, Try.ntmps15
    go_wp2
    go_ret
    exact ⟨rfl, Gr.a1 _ _⟩
  · by_cases h0 : 0 < xs.length
    · rw [if_pos ⟨rfl, h0⟩]
      obtain ⟨g, off, rfl, _, hc⟩ := hx h0
      have hb := numAt_in xs.length id h0 h63
      have hc' := hc (numAt xs.length id).toNat (by omega)
      have hl := World.block_lt_of_cell? _ _ hc'
      dsimp only at hl
      unfold numAt at hb hc' ⊢
      generalize xs[(wrap64 ((IntKind.u64.wrap id).tmod (xs.length : Int))).toNat]?.getD 0 = r at *
      generalize hn : xs.length = n at *
      clear hc hx
      go_enter Try.func15, Try.ntmps15
      have hc2 := (World.cell?_alloc_lt w (.cells #[Value.int IntKind.i64 d, Value.int IntKind.i64 id, Value.bool true, Value.int IntKind.i64 v] 36) (a := ⟨g, off + (wrap64 ((IntKind.u64.wrap id).tmod (n : Int))).toNat, none⟩) hl).trans hc'
      go_wp2
      all_goals first | (rename_i hbad; exact absurd hb hbad) | skip
      go_ret
      exact ⟨rfl, Gr.a1 _ _⟩
    · rw [if_neg (by omega)]
      have h1 : xs.length = 0 := by omega
      rw [h1]
      clear hx h0 h1
      go_enter Try.func15, Try.ntmps15
      go_wp2
      go_ret
      exact ⟨rfl, Gr.a1 _ _⟩
end Go.Proofs
