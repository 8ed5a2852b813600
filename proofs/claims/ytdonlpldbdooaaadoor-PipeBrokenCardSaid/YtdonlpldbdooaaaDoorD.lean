/- The iterator's contract, for every body. -/
import Derived.Test.YtdonlpldbdooaaaDoorB
set_option linter.unusedVariables false
set_option linter.unusedSimpArgs false
namespace Go.Proofs
open Go.RowKit Go.Shelf
attribute [local go_sem] Oper.semAt_some

theorem parts_any (b : Nat) (at0 n : Int) (w : World) : Calls Tryd.prog 36 #[.pointer (some ⟨b, 0, none⟩), .int .i64 at0, .int .i64 n] w fun e w' =>
    e = .returned (.func (.func 41) #[] #[.pointer (some ⟨w.heap.size + 1, 0, none⟩), .pointer (some ⟨w.heap.size, 0, none⟩), .pointer (some ⟨w.heap.size + 2, 0, none⟩)]) ∧ Same w w' ∧
    Blk w' w.heap.size 49 #[.pointer (some ⟨b, 0, none⟩)] ∧ Blk w' (w.heap.size + 1) 3 #[.int .i64 at0] ∧ Blk w' (w.heap.size + 2) 3 #[.int .i64 n] := by
  go_enter Tryd.func36, Tryd.ntmps36
  go_wp2
  go_ret
  exact ⟨rfl, Gr.a3 _ _ _ _, ((Blk.new _ _ _ _ rfl).alloc _).alloc _, (Blk.new _ _ _ _ (by simp)).alloc _, Blk.new _ _ _ _ (by simp)⟩

theorem parts_seq (nn b ba br bn : Nat) (hn : 1 ≤ nn) (at0 sz n : Nat) (h1 : 1 ≤ sz) (h2 : sz ≤ 64) (ha : at0 < 1000) (hns : n ≤ sz) (X : Nat → Prop) (w : World)
    (hz : Rat w b sz) (hA : Blk w ba 3 #[.int .i64 at0]) (hR : Blk w br 49 #[.pointer (some ⟨b, 0, none⟩)]) (hN : Blk w bn 3 #[.int .i64 n])
    (hb0 : b ≠ ba) (hr0 : ¬ X br) (hnn : ¬ X bn) (hra : br ≠ ba) (ha0 : ¬ X ba) (hna : bn ≠ ba) :
    SeqBox Fence.wide nn Tryd.prog 41 #[.pointer (some ⟨ba, 0, none⟩), .pointer (some ⟨br, 0, none⟩), .pointer (some ⟨bn, 0, none⟩)]
      (fun x : Fin 2 => partEnc b (at0 % sz) (min n (sz - at0 % sz)) n x.1) Fin.val (KeptX X) (fun xs => xs.map Fin.val = (if min n (sz - at0 % sz) < n then [0, 1] else [0])) 2 ba w :=
  fun l J Jx W hW hJB hJd hY hJ0 =>
    parts1_in nn l b ba br bn hn at0 sz n h1 h2 ha hns X J Jx W hY
      ((World.cell?_of_block (hW.block b (World.block_lt_of_cell? _ _ hz))).trans hz) (hA.below hW hA.lt) (hR.below hW hR.lt) (hN.below hW hN.lt)
      hb0 hr0 hnn hra ha0 hna (fun W' hG => hJB W' hG hJ0) hJd
end Go.Proofs
