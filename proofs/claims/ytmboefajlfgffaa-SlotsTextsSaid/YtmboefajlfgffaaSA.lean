/- The iterator over slots of texts. -/
import Derived.Test.YtmboefajlfgffaaG
set_option linter.unusedVariables false
set_option linter.unusedSimpArgs false
namespace Go.Proofs.Str
open Go.RowKit Go.Shelf
attribute [local go_sem] Oper.semAt_some

set_option maxRecDepth 100000 in
set_option maxHeartbeats 1000000 in
theorem all1_in (n l b bs : Nat) (hn : 1 ≤ n) (S : St) (hS : S.ok)
    (X : Nat → Prop) (J Jx : List (Fin 8) → World → Prop) (W : World)
    (hY : ∀ pre x W, J pre W → pre.length < 8 → YieldAt Fence.wide (n - 1) Try.prog l (slotEnc b S x.1) W fun e W' =>
      (e = .returned (.bool true) ∧ J (pre ++ [x]) W' ∧ KeptX X W W') ∨ (e = .returned (.bool false) ∧ Jx (pre ++ [x]) W'))
    (hb : Sl 70 W b S) (hbs : Blk W bs 46 #[.pointer (some ⟨b, 0, none⟩)])
    (hb0 : ¬ X b) (hs0 : ¬ X bs) (hJ0 : J [] W) :
    CallsIn Fence.wide n Try.prog 44 #[.func (.yield l) #[] #[], .pointer (some ⟨bs, 0, none⟩)] W fun e W' => (∃ v, e = .returned v) ∧
      ((∃ xs : List (Fin 8), xs.map Fin.val = List.range 8 ∧ J xs W') ∨ (∃ (i : Nat) (xs : List (Fin 8)), i < 8 ∧ xs.map Fin.val = List.range (i + 1) ∧ Jx xs W')) := by
  refine callsIn_of_wp Try.func44 rfl trivial ?_ rfl
  simp only [Try.ntmps44, List.size_toArray, List.length_cons, List.length_nil, Nat.reduceAdd, Nat.reduceSub, Array.replicate_succ, Array.replicate_zero, List.push_toArray, List.append_toArray, List.nil_append, List.cons_append]
  gi_wp2
  gi_loopw [5] (fun i wr => ∃ (k : Nat) (xs : List (Fin 8)), k ≤ 8 ∧ i = .int .i64 k ∧ xs.map Fin.val = List.range k ∧ J xs wr ∧ Sl 70 wr b S ∧ Blk wr bs 46 #[.pointer (some ⟨b, 0, none⟩)]) (fun i _ => 8 - (intOf i).toNat)
  case atStart => exact ⟨0, [], by omega, rfl, rfl, hJ0, hb, hbs⟩
  case round =>
    obtain ⟨k, xs, hk, rfl, hxs, hJs, hs, hp⟩ := hrel
    have HX := Lib.hid hxs
    have hlen : xs.length = k := by have := congrArg List.length hxs; simpa using this
    have HL := Lib.hid hlen
    clear hxs hlen
    by_cases hlt : k < 8
    · have c0 := (Blk.cell hs (k * 3)).trans (cells_sq S k hlt)
      have p0 := hp.cell 0
      simp at p0
      obtain ⟨q0, q1⟩ := hS k hlt
      obtain ⟨fn, tmps, assign, body, hy, hR⟩ := hY xs ⟨k, hlt⟩ wr hJs (by rw [HL.out]; exact hlt)
      dsimp only [slotEnc, idOf] at hy
      have HS := Lib.hid hs
      have HP := Lib.hid hp
      clear hs hp hb hbs
      generalize hq : S.sq k = q at *
      have HQ := Lib.hid hq
      clear hq
      gi_wp2
      refine hR.mono ?_
      rintro e W3 (⟨rfl, hJ3, hk3⟩ | ⟨rfl, hJx3⟩)
      · gi_wp2
        go_roundw
        case rel => exact ⟨k + 1, xs ++ [⟨k, hlt⟩], by omega, by go_num, by rw [List.range_succ, List.map_append, HX.out]; rfl, hJ3, hk3.blk HS.out hb0, hk3.blk HP.out hs0⟩
        case measure => simp [intOf]; omega
      · gi_wp2
        refine bodyPost_ret (results_none rfl _ _ _) rfl ?_
        exact ⟨⟨_, rfl⟩, .inr ⟨k, xs ++ [⟨k, hlt⟩], hlt, by rw [List.range_succ, List.map_append, HX.out]; rfl, hJx3⟩⟩
    · obtain rfl : k = 8 := by omega
      gi_wp2
      go_end0
      exact ⟨⟨_, rfl⟩, .inl ⟨xs, HX.out, hJs⟩⟩

theorem all_any (b : Nat) (w : World) :
    Calls Try.prog 37 #[.pointer (some ⟨b, 0, none⟩)] w fun e w' =>
      e = .returned (.func (.func 44) #[] #[.pointer (some ⟨w.heap.size, 0, none⟩)]) ∧ Same w w' ∧ Blk w' w.heap.size 46 #[.pointer (some ⟨b, 0, none⟩)] := by
  go_enter Try.func37, Try.ntmps37
  go_wp2
  go_ret
  exact ⟨rfl, Gr.a1 _ _, Blk.new _ _ _ _ rfl⟩

theorem all_stops (n b bs : Nat) (hn : 1 ≤ n) (S : St) (hS : S.ok) (X : Nat → Prop) (w : World) (hb : Sl 70 w b S) (hbs : Blk w bs 46 #[.pointer (some ⟨b, 0, none⟩)]) (hb0 : ¬ X b) (hs0 : ¬ X bs) :
    SeqStopsK Fence.wide n Try.prog 44 #[.pointer (some ⟨bs, 0, none⟩)] (fun x : Fin 8 => #[.int .i64 (idOf S x.1), .pointer (some ⟨b, x.1 * 3, none⟩)]) (KeptX X) (fun xs => xs.map Fin.val = List.range 8) (fun pre => ∃ i, i < 8 ∧ pre.map Fin.val = List.range (i + 1)) 8 w :=
  fun l J Jx W hW hJ _ hY hJ0 =>
  (all1_in n l b bs hn S hS X J Jx W hY (Blk.below hb hW (Blk.lt hb)) (hbs.below hW hbs.lt) hb0 hs0 hJ0).mono fun e W' ⟨he, h⟩ => ⟨he, h.imp (fun h => h) (fun ⟨i, xs, hi, hx, h⟩ => ⟨xs, ⟨i, hi, hx⟩, h⟩)⟩

end Go.Proofs.Str
