/- Slots in memory; the iterator over them. -/
import Derived.Test.YtmboefajlfgffaaC
set_option linter.unusedVariables false
set_option linter.unusedSimpArgs false
namespace Go.Proofs
open Go.RowKit Go.Shelf
attribute [local go_sem] Oper.semAt_some

/-- Eight slots: how often each was removed from, what lies there, whether something does. -/
structure St where
  sq : Nat → Int
  vv : Nat → Value
  hd : Nat → Bool

def cellsOf (S : St) : Array Value := #[.int .i64 (S.sq 0), S.vv 0, .bool (S.hd 0), .int .i64 (S.sq 1), S.vv 1, .bool (S.hd 1), .int .i64 (S.sq 2), S.vv 2, .bool (S.hd 2),
  .int .i64 (S.sq 3), S.vv 3, .bool (S.hd 3), .int .i64 (S.sq 4), S.vv 4, .bool (S.hd 4), .int .i64 (S.sq 5), S.vv 5, .bool (S.hd 5), .int .i64 (S.sq 6), S.vv 6, .bool (S.hd 6), .int .i64 (S.sq 7), S.vv 7, .bool (S.hd 7)]

theorem lt8 {P : Nat → Prop} (h0 : P 0) (h1 : P 1) (h2 : P 2) (h3 : P 3) (h4 : P 4) (h5 : P 5) (h6 : P 6) (h7 : P 7) (i : Nat) (hi : i < 8) : P i := by
  match i, hi with
  | 0, _ => exact h0
  | 1, _ => exact h1
  | 2, _ => exact h2
  | 3, _ => exact h3
  | 4, _ => exact h4
  | 5, _ => exact h5
  | 6, _ => exact h6
  | 7, _ => exact h7

theorem cells_sq (S : St) : ∀ i, i < 8 → (cellsOf S)[i * 3]? = some (.int .i64 (S.sq i)) := lt8 rfl rfl rfl rfl rfl rfl rfl rfl
theorem cells_vv (S : St) : ∀ i, i < 8 → (cellsOf S)[i * 3 + 1]? = some (S.vv i) := lt8 rfl rfl rfl rfl rfl rfl rfl rfl
theorem cells_hd (S : St) : ∀ i, i < 8 → (cellsOf S)[i * 3 + 2]? = some (.bool (S.hd i)) := lt8 rfl rfl rfl rfl rfl rfl rfl rfl

def St.setV (S : St) (i : Nat) (v : Value) : St := { S with vv := fun j => if j = i then v else S.vv j }
def St.setH (S : St) (i : Nat) (b : Bool) : St := { S with hd := fun j => if j = i then b else S.hd j }
def St.setS (S : St) (i : Nat) (n : Int) : St := { S with sq := fun j => if j = i then n else S.sq j }
theorem cells_setV (S : St) (v : Value) : ∀ i, i < 8 → (cellsOf S).setIfInBounds (i * 3 + 1) v = cellsOf (S.setV i v) := lt8 rfl rfl rfl rfl rfl rfl rfl rfl
theorem cells_setH (S : St) (b : Bool) : ∀ i, i < 8 → (cellsOf S).setIfInBounds (i * 3 + 2) (.bool b) = cellsOf (S.setH i b) := lt8 rfl rfl rfl rfl rfl rfl rfl rfl
theorem cells_setS (S : St) (n : Int) : ∀ i, i < 8 → (cellsOf S).setIfInBounds (i * 3) (.int .i64 n) = cellsOf (S.setS i n) := lt8 rfl rfl rfl rfl rfl rfl rfl rfl

/-- Block b holds the slots S; their counts are right. -/
def Sl (T : TypeId) (w : World) (b : Nat) (S : St) : Prop := Blk w b T (cellsOf S)
def St.ok (S : St) : Prop := ∀ i, i < 8 → 0 ≤ S.sq i ∧ S.sq i ≤ 4095
def idOf (S : St) (i : Nat) : Int := 8 * S.sq i + i

def slotEnc (b : Nat) (S : St) (i : Nat) : Array Value := #[.int .i64 (idOf S i), .pointer (some ⟨b, i * 3, none⟩)]

set_option maxRecDepth 100000 in
set_option maxHeartbeats 1000000 in
theorem all1_in (n l b bs : Nat) (hn : 1 ≤ n) (S : St) (hS : S.ok)
    (X : Nat → Prop) (J Jx : List (Fin 8) → World → Prop) (W : World)
    (hY : ∀ pre x W, J pre W → pre.length < 8 → YieldAt Fence.wide (n - 1) Try.prog l (slotEnc b S x.1) W fun e W' =>
      (e = .returned (.bool true) ∧ J (pre ++ [x]) W' ∧ KeptX X W W') ∨ (e = .returned (.bool false) ∧ Jx (pre ++ [x]) W'))
    (hb : Sl 58 W b S) (hbs : Blk W bs 23 #[.pointer (some ⟨b, 0, none⟩)])
    (hb0 : ¬ X b) (hs0 : ¬ X bs) (hJ0 : J [] W) :
    CallsIn Fence.wide n Try.prog 42 #[.func (.yield l) #[] #[], .pointer (some ⟨bs, 0, none⟩)] W fun e W' => (∃ v, e = .returned v) ∧
      ((∃ xs : List (Fin 8), xs.map Fin.val = List.range 8 ∧ J xs W') ∨ (∃ (i : Nat) (xs : List (Fin 8)), i < 8 ∧ xs.map Fin.val = List.range (i + 1) ∧ Jx xs W')) := by
  refine callsIn_of_wp Try.func42 rfl trivial ?_ rfl
  simp only [Try.ntmps42, List.size_toArray, List.length_cons, List.length_nil, Nat.reduceAdd, Nat.reduceSub, Array.replicate_succ, Array.replicate_zero, List.push_toArray, List.append_toArray, List.nil_append, List.cons_append]
  gi_wp2
  gi_loopw [5] (fun i wr => ∃ (k : Nat) (xs : List (Fin 8)), k ≤ 8 ∧ i = .int .i64 k ∧ xs.map Fin.val = List.range k ∧ J xs wr ∧ Sl 58 wr b S ∧ Blk wr bs 23 #[.pointer (some ⟨b, 0, none⟩)]) (fun i _ => 8 - (intOf i).toNat)
  case atStart => exact ⟨0, [], by omega, rfl, rfl, hJ0, hb, hbs⟩
  case round =>
    obtain ⟨k, xs, hk, rfl, hxs, hJs, hs, hp⟩ := hrel
    have HX := Lib.hid hxs
    have hlen : xs.length = k := by have := congrArg List.length hxs; simpa using this
    have HL := Lib.hid hlen
    clear hxs hlen
    by_cases hlt : k < 8
    · have c0 := (Blk.cell hs (k * 3)).trans (cells_sq S k hlt)
      have p0 := hp.cell 0
      simp at p0
      obtain ⟨q0, q1⟩ := hS k hlt
      obtain ⟨fn, tmps, assign, body, hy, hR⟩ := hY xs ⟨k, hlt⟩ wr hJs (by rw [HL.out]; exact hlt)
      dsimp only [slotEnc, idOf] at hy
      have HS := Lib.hid hs
      have HP := Lib.hid hp
      clear hs hp hb hbs
      generalize hq : S.sq k = q at *
      have HQ := Lib.hid hq
      clear hq
      gi_wp2
      refine hR.mono ?_
      rintro e W3 (⟨rfl, hJ3, hk3⟩ | ⟨rfl, hJx3⟩)
      · gi_wp2
        go_roundw
        case rel => exact ⟨k + 1, xs ++ [⟨k, hlt⟩], by omega, by go_num, by rw [List.range_succ, List.map_append, HX.out]; rfl, hJ3, hk3.blk HS.out hb0, hk3.blk HP.out hs0⟩
        case measure => simp [intOf]; omega
      · gi_wp2
        refine bodyPost_ret (results_none rfl _ _ _) rfl ?_
        exact ⟨⟨_, rfl⟩, .inr ⟨k, xs ++ [⟨k, hlt⟩], hlt, by rw [List.range_succ, List.map_append, HX.out]; rfl, hJx3⟩⟩
    · obtain rfl : k = 8 := by omega
      gi_wp2
      go_end0
      exact ⟨⟨_, rfl⟩, .inl ⟨xs, HX.out, hJs⟩⟩

theorem all_any (b : Nat) (w : World) :
    Calls Try.prog 29 #[.pointer (some ⟨b, 0, none⟩)] w fun e w' =>
      e = .returned (.func (.func 42) #[] #[.pointer (some ⟨w.heap.size, 0, none⟩)]) ∧ Same w w' ∧ Blk w' w.heap.size 23 #[.pointer (some ⟨b, 0, none⟩)] := by
  go_enter Try.func29, Try.ntmps29
  go_wp2
  go_ret
  exact ⟨rfl, Gr.a1 _ _, Blk.new _ _ _ _ rfl⟩

theorem all_stops (n b bs : Nat) (hn : 1 ≤ n) (S : St) (hS : S.ok) (X : Nat → Prop) (w : World) (hb : Sl 58 w b S) (hbs : Blk w bs 23 #[.pointer (some ⟨b, 0, none⟩)]) (hb0 : ¬ X b) (hs0 : ¬ X bs) :
    SeqStopsK Fence.wide n Try.prog 42 #[.pointer (some ⟨bs, 0, none⟩)] (fun x : Fin 8 => #[.int .i64 (idOf S x.1), .pointer (some ⟨b, x.1 * 3, none⟩)]) (KeptX X) (fun xs => xs.map Fin.val = List.range 8) (fun pre => ∃ i, i < 8 ∧ pre.map Fin.val = List.range (i + 1)) 8 w :=
  fun l J Jx W hW hJ _ hY hJ0 =>
  (all1_in n l b bs hn S hS X J Jx W hY (Blk.below hb hW (Blk.lt hb)) (hbs.below hW hbs.lt) hb0 hs0 hJ0).mono fun e W' ⟨he, h⟩ => ⟨he, h.imp (fun h => h) (fun ⟨i, xs, hi, hx, h⟩ => ⟨xs, ⟨i, hi, hx⟩, h⟩)⟩

/-- isOf(id, n): one number. -/
theorem isOf_one (a c : Int) (b : Nat) (w : World) (hb : Blk w b 3 #[.int .i64 c]) :
    Calls Try.prog 43 #[.int .i64 a, .slice (some ⟨b, 0, none⟩) 1 1] w fun e w' => e = .returned (.bool (c == a)) ∧ w = w' := by
  have c0 := hb.cell 0
  simp at c0
  clear hb
  cases hca : (c == a)
  · go_enter Try.func43, Try.ntmps43
    go_wp2
    go_loop [4, 9] (fun r i => r = .bool false ∧ (i = .int .i64 0 ∨ i = .int .i64 1)) (fun _ i => 1 - (intOf i).toNat)
    case atStart => exact ⟨rfl, .inl rfl⟩
    case round =>
      obtain ⟨rfl, rfl | rfl⟩ := hrel
      · go_wp2
        go_round
        case rel => exact ⟨rfl, .inr rfl⟩
        case measure => simp [intOf]
      · go_wp2
        go_ret
        exact ⟨rfl, rfl⟩
  · go_enter Try.func43, Try.ntmps43
    go_wp2
    go_loop [4, 9] (fun r i => r = .bool false ∧ i = .int .i64 0) (fun _ i => 1 - (intOf i).toNat)
    case atStart => exact ⟨rfl, rfl⟩
    case round =>
      obtain ⟨rfl, rfl⟩ := hrel
      go_wp2
      go_ret
      exact ⟨rfl, rfl⟩
end Go.Proofs
