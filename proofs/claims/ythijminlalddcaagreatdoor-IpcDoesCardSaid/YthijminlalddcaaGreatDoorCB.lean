/- digits, Bits. -/
import Derived.Test.YthijminlalddcaaGreatDoorCA
set_option linter.unusedVariables false
set_option linter.unusedSimpArgs false
namespace Go.Proofs
open Go.RowKit Go.Shelf
attribute [local go_sem] Oper.semAt_some

def dig (m : Int) : Nat → Int | 0 => bits .and .i64 (m / 64) 7 | 1 => bits .and .i64 (m / 8) 7 | _ => bits .and .i64 m 7
def th (a b : Bool) : Nat → Bool | 0 => a | 1 => b | _ => true

set_option maxRecDepth 100000 in
set_option maxHeartbeats 4000000 in
theorem digits1_in (n l bc bp : Nat) (hn : 1 ≤ n) (u g pu pg pcu pcg m : Int) (h0 : 0 ≤ m) (h1 : m ≤ 511) (a b : Bool) (ha : a = (u == pu || u == pcu)) (hb : b = (g == pg || g == pcg))
    (X : Nat → Prop) (J Jx : List Nat → World → Prop) (W : World) (hX : ∀ k, X k → k < W.heap.size) (hJ : ∀ s W o, J s W → J s (W.alloc o))
    (hY : ∀ pre x W, J pre W → pre.length < 3 → YieldAt Fence.wide (n - 1) Tryz.prog l #[.int .i64 (dig m x), .bool (th a b x)] W fun e W' =>
      (e = .returned (.bool true) ∧ J (pre ++ [x]) W' ∧ KeptX X W W') ∨ (e = .returned (.bool false) ∧ Jx (pre ++ [x]) W'))
    (hbc : Blk W bc 37 #[.int .i64 u, .int .i64 g]) (hbp : Blk W bp 39 #[.int .i64 pu, .int .i64 pg, .int .i64 pcu, .int .i64 pcg, .int .i64 m])
    (hc0 : ¬ X bc) (hp0 : ¬ X bp) (hJ0 : J [] W) :
    CallsIn Fence.wide n Tryz.prog 86 #[.func (.yield l) #[] #[], .pointer (some ⟨bc, 0, none⟩), .pointer (some ⟨bp, 0, none⟩)] W fun e W' => (∃ v, e = .returned v) ∧
      (J [0, 1, 2] W' ∨ (∃ i, i < 3 ∧ Jx (List.range (i + 1)) W')) := by
  have c0 := hbc.cell 0
  have c1 := hbc.cell 1
  have p0 := hbp.cell 0
  have p1 := hbp.cell 1
  have p2 := hbp.cell 2
  have p3 := hbp.cell 3
  simp at c0 c1 p0 p1 p2 p3
  have HA := Lib.hid ha
  have HB := Lib.hid hb
  have HJ := Lib.hid hJ
  have HP := Lib.hid hbp
  clear ha hb hbc hbp hJ
  refine callsIn_of_wp Tryz.func86 rfl trivial ?_ rfl
  simp only [Tryz.ntmps86, List.size_toArray, List.length_cons, List.length_nil, Nat.reduceAdd, Nat.reduceSub, Array.replicate_succ, Array.replicate_zero, List.push_toArray, List.append_toArray, List.nil_append, List.cons_append]
  gi_wp2
  all_goals
    clear c0 c1 p0 p1 p2 p3
    gi_loopw [32] (fun i wr => ∃ k : Nat, k ≤ 3 ∧ i = .int .i64 k ∧ J (List.range k) wr ∧ Blk wr W.heap.size 4 #[.bool a, .bool b, .bool true] ∧ Blk wr bp 39 #[.int .i64 pu, .int .i64 pg, .int .i64 pcu, .int .i64 pcg, .int .i64 m]) (fun i _ => 3 - (intOf i).toNat)
    case atStart =>
      refine ⟨0, by omega, rfl, HJ.out _ _ _ hJ0, ?_, HP.out.alloc _⟩
      rw [HA.out, HB.out]
      first
        | rw [show (u == pu || u == pcu) = true from by rw [beq_iff_eq.2 (by assumption)]; rfl]
        | rw [show (u == pu || u == pcu) = (u == pcu) from by rw [beq_eq_false_iff_ne.2 (by assumption)]; rfl]
      first
        | rw [show (g == pg || g == pcg) = true from by rw [beq_iff_eq.2 (by assumption)]; rfl]
        | rw [show (g == pg || g == pcg) = (g == pcg) from by rw [beq_eq_false_iff_ne.2 (by assumption)]; rfl]
      exact Blk.new _ _ _ _ rfl
    case round =>
      obtain ⟨k, hk, rfl, hJs, hs, hp⟩ := hrel
      have s0 := hs.cell 0
      have s1 := hs.cell 1
      have s2 := hs.cell 2
      have p4 := hp.cell 4
      simp at s0 s1 s2 p4
      have HS := Lib.hid hs
      have HP2 := Lib.hid hp
      clear hs hp
      have hk4 : k = 0 ∨ k = 1 ∨ k = 2 ∨ k = 3 := by omega
      rcases hk4 with rfl | rfl | rfl | rfl
      · obtain ⟨fn, tmps, assign, body, hy, hR⟩ := hY [] 0 wr hJs (by simp)
        dsimp only [dig, th] at hy
        gi_wp2
        refine hR.mono ?_
        rintro e W3 (⟨rfl, hJ3, hk3⟩ | ⟨rfl, hJx3⟩)
        · gi_wp2
          go_roundw
          case rel => exact ⟨1, by omega, by simp, hJ3, hk3.blk HS.out (fun h => by have := hX _ h; omega), hk3.blk HP2.out hp0⟩
          case measure => simp [intOf]
        · gi_wp2
          refine bodyPost_ret (results_none rfl _ _ _) rfl ?_
          exact ⟨⟨_, rfl⟩, .inr ⟨0, by omega, hJx3⟩⟩
      · obtain ⟨fn, tmps, assign, body, hy, hR⟩ := hY [0] 1 wr hJs (by simp)
        dsimp only [dig, th] at hy
        gi_wp2
        refine hR.mono ?_
        rintro e W3 (⟨rfl, hJ3, hk3⟩ | ⟨rfl, hJx3⟩)
        · gi_wp2
          go_roundw
          case rel => exact ⟨2, by omega, by simp, hJ3, hk3.blk HS.out (fun h => by have := hX _ h; omega), hk3.blk HP2.out hp0⟩
          case measure => simp [intOf]
        · gi_wp2
          refine bodyPost_ret (results_none rfl _ _ _) rfl ?_
          exact ⟨⟨_, rfl⟩, .inr ⟨1, by omega, hJx3⟩⟩
      · obtain ⟨fn, tmps, assign, body, hy, hR⟩ := hY [0, 1] 2 wr hJs (by simp)
        dsimp only [dig, th] at hy
        gi_wp2
        refine hR.mono ?_
        rintro e W3 (⟨rfl, hJ3, hk3⟩ | ⟨rfl, hJx3⟩)
        · gi_wp2
          go_roundw
          case rel => exact ⟨3, by omega, by simp, hJ3, hk3.blk HS.out (fun h => by have := hX _ h; omega), hk3.blk HP2.out hp0⟩
          case measure => simp [intOf]
        · gi_wp2
          refine bodyPost_ret (results_none rfl _ _ _) rfl ?_
          exact ⟨⟨_, rfl⟩, .inr ⟨2, by omega, hJx3⟩⟩
      · gi_wp2
        go_end0
        exact ⟨⟨_, rfl⟩, .inl hJs⟩


theorem digits_any (u g pu pg pcu pcg m : Int) (w : World) :
    Calls Tryz.prog 67 #[.agg #[.int .i64 u, .int .i64 g], .agg #[.int .i64 pu, .int .i64 pg, .int .i64 pcu, .int .i64 pcg, .int .i64 m]] w fun e w' =>
      e = .returned (.func (.func 86) #[] #[.pointer (some ⟨w.heap.size, 0, none⟩), .pointer (some ⟨w.heap.size + 1, 0, none⟩)]) ∧
      Same w w' ∧ Blk w' w.heap.size 37 #[.int .i64 u, .int .i64 g] ∧ Blk w' (w.heap.size + 1) 39 #[.int .i64 pu, .int .i64 pg, .int .i64 pcu, .int .i64 pcg, .int .i64 m] := by
  go_enter Tryz.func67, Tryz.ntmps67
  go_wp2
  go_ret
  exact ⟨rfl, ((Gr.refl _ _).alloc _).alloc _, (Blk.new _ _ _ _ rfl).alloc _, Blk.new _ _ _ _ (by simp)⟩

theorem digits_stops (n bc bp : Nat) (hn : 1 ≤ n) (u g pu pg pcu pcg m : Int) (h0 : 0 ≤ m) (h1 : m ≤ 511) (a b : Bool) (ha : a = (u == pu || u == pcu)) (hb : b = (g == pg || g == pcg))
    (X : Nat → Prop) (w : World) (hX : ∀ k, X k → k < w.heap.size) (hbc : Blk w bc 37 #[.int .i64 u, .int .i64 g]) (hbp : Blk w bp 39 #[.int .i64 pu, .int .i64 pg, .int .i64 pcu, .int .i64 pcg, .int .i64 m])
    (hc0 : ¬ X bc) (hp0 : ¬ X bp) :
    SeqStopsK Fence.wide n Tryz.prog 86 #[.pointer (some ⟨bc, 0, none⟩), .pointer (some ⟨bp, 0, none⟩)] (fun x : Nat => #[.int .i64 (dig m x), .bool (th a b x)]) (KeptX X) (fun xs => xs = [0, 1, 2]) (fun pre => ∃ i, i < 3 ∧ pre = List.range (i + 1)) 3 w :=
  fun l J Jx W hW hJ _ hY hJ0 =>
  (digits1_in n l bc bp hn u g pu pg pcu pcg m h0 h1 a b ha hb X J Jx W (fun k hk => Nat.lt_of_lt_of_le (hX k hk) hW.size) (fun s W1 o hs => hJ s W1 _ none hs (World.grownBy_alloc W1 o none) (fun _ e => by cases e)) hY
    (hbc.below hW hbc.lt) (hbp.below hW hbp.lt) hc0 hp0 hJ0).mono fun e W' ⟨he, h⟩ => ⟨he, h.imp (fun h => ⟨_, rfl, h⟩) (fun ⟨i, hi, h⟩ => ⟨_, ⟨i, hi, rfl⟩, h⟩)⟩

def bitsOf (u g pu pg pcu pcg m : Int) : Int :=
  if areB [u, g] = true ∧ permB pu pg pcu pcg m = true then
    (if u = 0 then 7 else if u = pu ∨ u = pcu then m / 64 else if g = pg ∨ g = pcg then m / 8 % 8 else m % 8)
  else 0

end Go.Proofs
