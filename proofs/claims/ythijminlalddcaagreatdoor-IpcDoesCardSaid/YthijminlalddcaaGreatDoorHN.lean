/- Acts; number. -/
import Derived.Test.YthijminlalddcaaGreatDoorSF
set_option linter.unusedVariables false
set_option linter.unusedSimpArgs false
namespace Go.Proofs
open Go.RowKit Go.Shelf
attribute [local go_sem] Oper.semAt_some

/-- An act. -/
structure AcT where
  d : Int
  cu : Int
  cg : Int
  key : Int
  pl : Bool
  fl : Int
  v : Int
  p0 : Int
  p1 : Int
  p2 : Int
  p3 : Int
  p4 : Int
/-- A list of acts. -/
def Acts (w : World) (A : Option Addr) (n : Nat) (q : Nat → AcT) : Prop :=
  0 < n → ∃ g off, A = some ⟨g, off, none⟩ ∧ g < w.heap.size ∧ ∀ i, i < n → w.cell? ⟨g, off + i * 12, none⟩ = some (.int .i64 (q i).d) ∧ w.cell? ⟨g, off + i * 12 + 1, none⟩ = some (.int .i64 (q i).cu) ∧ w.cell? ⟨g, off + i * 12 + 2, none⟩ = some (.int .i64 (q i).cg) ∧
    w.cell? ⟨g, off + i * 12 + 3, none⟩ = some (.int .i64 (q i).key) ∧ w.cell? ⟨g, off + i * 12 + 4, none⟩ = some (.bool (q i).pl) ∧ w.cell? ⟨g, off + i * 12 + 5, none⟩ = some (.int .i64 (q i).fl) ∧ w.cell? ⟨g, off + i * 12 + 6, none⟩ = some (.int .i64 (q i).v) ∧
    w.cell? ⟨g, off + i * 12 + 7, none⟩ = some (.int .i64 (q i).p0) ∧ w.cell? ⟨g, off + i * 12 + 8, none⟩ = some (.int .i64 (q i).p1) ∧ w.cell? ⟨g, off + i * 12 + 9, none⟩ = some (.int .i64 (q i).p2) ∧ w.cell? ⟨g, off + i * 12 + 10, none⟩ = some (.int .i64 (q i).p3) ∧ w.cell? ⟨g, off + i * 12 + 11, none⟩ = some (.int .i64 (q i).p4)

def numAt (n : Nat) (id : Int) : Int := wrap64 ((IntKind.u64.wrap id).tmod (n : Int))
def numI (xs : List Int) (id : Int) (pl : Bool) : Int :=
  if pl = true ∧ 0 < xs.length then xs[(numAt xs.length id).toNat]?.getD 0 else id
theorem numAt_in (n : Nat) (id : Int) (h0 : 0 < n) (h1 : n ≤ 1000000) : 0 ≤ numAt n id ∧ numAt n id < (n : Int) := by
  have e : IntKind.u64.wrap id = id % 18446744073709551616 := by go_num
  have p : (0 : Int) ≤ id % 18446744073709551616 := by omega
  have a := Int.tmod_lt_of_pos (id % 18446744073709551616) (b := (n : Int)) (by omega)
  have b := Int.tmod_nonneg (n : Int) p
  unfold numAt
  rw [e]
  generalize (id % 18446744073709551616).tmod (n : Int) = m at *
  unfold wrap64
  omega
set_option maxHeartbeats 1000000 in
theorem number_any (A : Option Addr) (c len : Nat) (xs : List Int) (hlen : xs.length = len) (N : Nat) (x : AcT) (w : World) (hx : RdB w N A xs) (h63 : xs.length ≤ 1000000) :
    Calls Tryz.prog 19 #[.slice A len c, .agg #[.int .i64 x.d, .int .i64 x.cu, .int .i64 x.cg, .int .i64 x.key, .bool x.pl, .int .i64 x.fl, .int .i64 x.v, .int .i64 x.p0, .int .i64 x.p1, .int .i64 x.p2, .int .i64 x.p3, .int .i64 x.p4]] w fun e w' => e = .returned (.int .i64 (numI xs x.key x.pl)) ∧ Same w w' := by
  unfold numI
  rw [hlen] at h63 ⊢
  obtain ⟨d, cu, cg, id, pl, fl, v, p0, p1, p2, p3, p4⟩ := x
  dsimp only
  cases pl
  · rw [if_neg (by simp)]
    clear hlen
    go_enter Tryz.func19, Tryz.ntmps19
    go_wp2
    go_ret
    exact ⟨rfl, Gr.a1 _ _⟩
  · by_cases h0 : 0 < len
    · rw [if_pos ⟨rfl, h0⟩]
      obtain ⟨g, off, cur, rfl, _, hbl, hc⟩ := hx (by omega)
      have hb := numAt_in len id h0 h63
      have hc' := (hbl.cell (off + (numAt len id).toNat)).trans (hc (numAt len id).toNat (by omega))
      have hl := World.block_lt_of_cell? _ _ hc'
      dsimp only at hl
      unfold numAt at hb hc' ⊢
      generalize xs[(wrap64 ((IntKind.u64.wrap id).tmod (len : Int))).toNat]?.getD 0 = r at *
      clear hc hx hbl hlen
      have hc2 := (World.cell?_alloc_lt w (.cells #[.int .i64 d, .int .i64 cu, .int .i64 cg, .int .i64 id, .bool true, .int .i64 fl, .int .i64 v, .int .i64 p0, .int .i64 p1, .int .i64 p2, .int .i64 p3, .int .i64 p4] 41) (a := ⟨g, off + (wrap64 ((IntKind.u64.wrap id).tmod (len : Int))).toNat, none⟩) hl).trans hc'
      go_enter Tryz.func19, Tryz.ntmps19
      go_wp2
      all_goals first | (rename_i hbad; exact absurd hb hbad) | skip
      go_ret
      exact ⟨rfl, Gr.a1 _ _⟩
    · rw [if_neg (by omega)]
      have h1 : len = 0 := by omega
      subst h1
      clear hx h0 hlen
      go_enter Tryz.func19, Tryz.ntmps19
      go_wp2
      go_ret
      exact ⟨rfl, Gr.a1 _ _⟩

end Go.Proofs
