/- Pipes: the iterator over the counts of ends. -/
import Derived.Test.YtdonlpldbdooaaaDoorU
import Derived.Test.YtdonlpldbdooaaaDoorB
set_option linter.unusedVariables false
set_option linter.unusedSimpArgs false
namespace Go.Proofs
open Go.RowKit Go.Shelf
attribute [local go_sem] Oper.semAt_some

/-- How many ends there are of a kind. -/
def ev (R W : Int) : Nat → Int | 0 => 0 | 1 => R | _ => W

set_option maxRecDepth 100000 in
set_option maxHeartbeats 1000000 in
theorem counts1_in (n l b bs rb : Nat) (hn : 1 ≤ n) (R Wt : Int)
    (X : Nat → Prop) (J Jx : List (Fin 3) → World → Prop) (W : World)
    (hY : ∀ pre x W, J pre W → pre.length < 3 → YieldAt Fence.wide (n - 1) Tryd.prog l #[.int .i64 (ev R Wt x.1)] W fun e W' =>
      (e = .returned (.bool true) ∧ J (pre ++ [x]) W' ∧ KeptX X W W') ∨ (e = .returned (.bool false) ∧ Jx (pre ++ [x]) W'))
    (hb : PB W b rb R Wt) (hbs : Blk W bs 24 #[.pointer (some ⟨b, 0, none⟩)])
    (hb0 : ¬ X b) (hs0 : ¬ X bs) (hJ0 : J [] W) :
    CallsIn Fence.wide n Tryd.prog 38 #[.func (.yield l) #[] #[], .pointer (some ⟨bs, 0, none⟩)] W fun e W' => (∃ v, e = .returned v) ∧
      ((∃ xs : List (Fin 3), xs.map Fin.val = List.range 3 ∧ J xs W') ∨ (∃ (i : Nat) (xs : List (Fin 3)), i < 3 ∧ xs.map Fin.val = List.range (i + 1) ∧ Jx xs W')) := by
  have i0 : ∀ w, (Instr.index 52 (.agg #[.int .i64 0, .int .i64 R, .int .i64 Wt]) (.int .i64 0)).run Tryd.prog w = .ok (.int .i64 0) w := fun _ => by kernel_rfl
  have i1 : ∀ w, (Instr.index 52 (.agg #[.int .i64 0, .int .i64 R, .int .i64 Wt]) (.int .i64 1)).run Tryd.prog w = .ok (.int .i64 R) w := fun _ => by kernel_rfl
  have i2 : ∀ w, (Instr.index 52 (.agg #[.int .i64 0, .int .i64 R, .int .i64 Wt]) (.int .i64 2)).run Tryd.prog w = .ok (.int .i64 Wt) w := fun _ => by kernel_rfl
  have p0 := hbs.cell 0
  have c1 := Blk.cell hb 1
  have c2 := PB.c2 hb
  have c3 := PB.c3 hb
  simp at p0 c1
  refine callsIn_of_wp Tryd.func38 rfl trivial ?_ rfl
  simp only [Tryd.ntmps38, List.size_toArray, List.length_cons, List.length_nil, Nat.reduceAdd, Nat.reduceSub, Array.replicate_succ, Array.replicate_zero, List.push_toArray, List.append_toArray, List.nil_append, List.cons_append]
  gi_wp2
  clear p0 c1 c2 c3 hb hbs
  gi_loopw [9] (fun i wr => ∃ (k : Nat) (xs : List (Fin 3)), k ≤ 3 ∧ i = .int .i64 k ∧ xs.map Fin.val = List.range k ∧ J xs wr) (fun i _ => 3 - (intOf i).toNat)
  case atStart => exact ⟨0, [], by omega, rfl, rfl, hJ0⟩
  case round =>
    obtain ⟨k, xs, hk, rfl, hxs, hJs⟩ := hrel
    have HX := Lib.hid hxs
    have hlen : xs.length = k := by have := congrArg List.length hxs; simpa using this
    have HL := Lib.hid hlen
    clear hxs hlen
    by_cases hlt : k < 3
    · obtain ⟨fn, tmps, assign, body, hy, hR⟩ := hY xs ⟨k, hlt⟩ _ hJs (by rw [HL.out]; exact hlt)
      rcases (show k = 0 ∨ k = 1 ∨ k = 2 by omega) with rfl | rfl | rfl
      all_goals
        dsimp only [ev] at hy
        gi_wp2
        refine hR.mono ?_
        rintro e W3 (⟨rfl, hJ3, hk3⟩ | ⟨rfl, hJx3⟩)
        · gi_wp2
          go_roundw
          case rel => first | exact ⟨1, xs ++ [⟨0, hlt⟩], by omega, by go_num, by rw [List.range_succ, List.map_append, HX.out]; rfl, hJ3⟩ | exact ⟨2, xs ++ [⟨1, hlt⟩], by omega, by go_num, by rw [List.range_succ, List.map_append, HX.out]; rfl, hJ3⟩ | exact ⟨3, xs ++ [⟨2, hlt⟩], by omega, by go_num, by rw [List.range_succ, List.map_append, HX.out]; rfl, hJ3⟩
          case measure => simp [intOf]
        · gi_wp2
          refine bodyPost_ret (results_none rfl _ _ _) rfl ?_
          first | exact ⟨⟨_, rfl⟩, .inr ⟨0, xs ++ [⟨0, hlt⟩], hlt, by rw [List.range_succ, List.map_append, HX.out]; rfl, hJx3⟩⟩ | exact ⟨⟨_, rfl⟩, .inr ⟨1, xs ++ [⟨1, hlt⟩], hlt, by rw [List.range_succ, List.map_append, HX.out]; rfl, hJx3⟩⟩ | exact ⟨⟨_, rfl⟩, .inr ⟨2, xs ++ [⟨2, hlt⟩], hlt, by rw [List.range_succ, List.map_append, HX.out]; rfl, hJx3⟩⟩
    · obtain rfl : k = 3 := by omega
      gi_wp2
      go_end0
      exact ⟨⟨_, rfl⟩, .inl ⟨xs, HX.out, hJs⟩⟩

theorem counts_any (b : Nat) (w : World) :
    Calls Tryd.prog 30 #[.pointer (some ⟨b, 0, none⟩)] w fun e w' =>
      e = .returned (.func (.func 38) #[] #[.pointer (some ⟨w.heap.size, 0, none⟩)]) ∧ Same w w' ∧ Blk w' w.heap.size 24 #[.pointer (some ⟨b, 0, none⟩)] := by
  go_enter Tryd.func30, Tryd.ntmps30
  go_wp2
  go_ret
  exact ⟨rfl, Gr.a1 _ _, Blk.new _ _ _ _ rfl⟩
end Go.Proofs
