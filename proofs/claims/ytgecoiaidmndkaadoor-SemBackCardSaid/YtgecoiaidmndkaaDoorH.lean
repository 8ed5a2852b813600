/- Semaphores: what the statements use: Ints, cut, few. -/
import Derived.Test.YtgecoiaidmndkaaDoorG
import Derived.ArgAppend
import Derived.Deep.RegionLaw
set_option linter.unusedVariables false
set_option linter.unusedSimpArgs false
namespace Go.Proofs
open Go.RowKit Go.Shelf
attribute [local go_sem] Oper.semAt_some

set_option maxHeartbeats 1000000 in
theorem ints_same (xs : List Int) (A B : Option Addr) (n c d : Nat) (w : World) (hn : xs.length = n) (hm : n ≤ 1000) (hA : Ints w A xs) (hB : Ints w B xs) :
    Calls Tryd.prog 16 #[.slice A n c, .slice B n d] w fun e w' => e = .returned (.bool true) ∧ Same w w' := by
  have HA := Lib.hid hA
  have HB := Lib.hid hB
  have HN := Lib.hid hn
  clear hA hB hn
  go_enter Tryd.func16, Tryd.ntmps16
  go_wp2
  go_loopw [5] (fun i wr => ∃ k : Nat, k ≤ n ∧ i = .int .i64 k ∧ Same w wr) (fun i _ => n - (intOf i).toNat)
  case atStart => exact ⟨0, by omega, rfl, Gr.refl _ _⟩
  case round =>
    obtain ⟨k, hk, rfl, hG⟩ := hrel
    by_cases hlt : k < n
    · obtain ⟨a, oa, rfl, _, ca⟩ := (HA.out.same hG) (by rw [HN.out]; omega)
      obtain ⟨b, ob, rfl, _, cb⟩ := (HB.out.same hG) (by rw [HN.out]; omega)
      have x0 := ca k (by rw [HN.out]; exact hlt)
      have y0 := cb k (by rw [HN.out]; exact hlt)
      generalize xs[k]?.getD 0 = v at x0 y0
      clear ca cb
      go_wp2
      go_quiet (fail)
      go_wp2
      go_roundw
      case rel => exact ⟨k + 1, by omega, by go_num, hG.drewN _⟩
      case measure => simp [intOf]; omega
    · go_wp2
      go_ret
      exact ⟨rfl, hG⟩

theorem few_any (B : Option Addr) (m d : Nat) (w : World) (hmd : m ≤ d) (hm : d ≤ maxLen) : Calls Tryd.prog 14 #[.slice B m d] w fun e w' => e = .returned (.slice B (min m 12) d) ∧ w = w' := by
  unfold maxLen at hm
  rcases (show (12 : Int) < m ∨ (m : Int) ≤ 12 by omega) with h | h
  · rw [show min m 12 = 12 by omega]
    go_enter Tryd.func14, Tryd.ntmps14
    go_wp2
    go_ret
    exact ⟨rfl, rfl⟩
  · rw [show min m 12 = m by omega]
    go_enter Tryd.func14, Tryd.ntmps14
    go_wp2
    go_ret
    exact ⟨rfl, rfl⟩

theorem mk12 (W : World) : (Instr.makeSlice 22 (.int .i64 0) (.int .i64 12)).run Tryd.prog W = .ok (.slice (some ⟨W.heap.size, 0, none⟩) 0 12) (W.alloc (.cells ((List.replicate 12 (0 : Int)).map (Value.int .i64)).toArray 3)) := by kernel_rfl
theorem Gr.setCells {a : World} {X : Nat → Prop} (b : Nat) (hb : X b ∨ a.heap.size ≤ b) : ∀ (vs : List Value) (o : Nat) (w : World), Gr a w X → Gr a (w.setCells b o vs) X
  | [], _, _, h => h
  | v :: vs, o, w, h => Gr.setCells b hb vs (o + 1) _ (h.setCell (p := ⟨b, o, none⟩) (X := X) hb v)
theorem run_append0 (w : World) (ty : TypeId) (A : Option Addr) (b c : Nat) : (Builtin.append_ #[22, 22] ty #[.slice (some ⟨b, 0, none⟩) 0 12, .slice A 0 c]).run Tryd.prog w = .ok (.slice (some ⟨b, 0, none⟩) 0 12) w := by
  obtain ⟨i, hi, _⟩ := info_parts info3
  cases A with
  | none => simp [Builtin.append_, run_underlying Tryd.underlying22, sizeOf, typeInfo, hi, Builtin.lenOf, Builtin.firstCells, storeCells]
  | some a =>
    have hl := run_loadCells_list (P := Tryd.prog) w a [] (by simp)
    simp at hl
    simp [Builtin.append_, run_underlying Tryd.underlying22, sizeOf, typeInfo, hi, Builtin.lenOf, Builtin.firstCells, storeCells, hl, Result.andThen]
theorem step_append_run {P : Program} {ops : Array Oper} {o : Oper} {a : Act} {w w' : World} {K : Act → World → Prop} {Q : Exit → Act → World → Prop} {E : Prop}
    (hg : o.guard = none) (s x : Operand) (t : TypeId) (hop : o.op = Op.call { callee := Callee.builtin Builtin.append, args := #[s, x], argTypes := #[t, t] }) {sv xv v : Value}
    (hs : a.eval s = sv) (hx : a.eval x = xv) (hrun : (Builtin.append_ #[t, t] o.type #[sv, xv]).run P w = .ok v w') (hK : K (a.put o.dst v) w') :
    if Region.wanted o (yielded ops a.tmps) = true then Oper.wp P o a w K Q else E := by
  have hw : Region.wanted o (yielded ops a.tmps) = true := by simp [Region.wanted, hg]
  rw [if_pos hw]
  unfold Oper.wp
  simp [execOp, hop, resolve, invoke, builtin, hs, hx, hrun, Result.andThen]
  exact hK
theorem run_append12 (w : World) (ty : TypeId) (a : Addr) (b k c : Nat) (ys : List Int) (hk : ys.length = k) (hk12 : k ≤ 12) (hc : ∀ j, j < k → w.cell? (a.add j) = some (.int .i64 (ys[j]?.getD 0))) (hB : Blk w b 3 ((List.replicate 12 (0 : Int)).map (Value.int .i64)).toArray) :
    (Builtin.append_ #[22, 22] ty #[.slice (some ⟨b, 0, none⟩) 0 12, .slice (some a) k c]).run Tryd.prog w = .ok (.slice (some ⟨b, 0, none⟩) k 12) (w.setCells b 0 (ys.map (Value.int .i64))) := by
  obtain ⟨i, hi, _, h2, _⟩ := info_parts info3
  have := run_append_room_cells (P := Tryd.prog) w 22 ty 3 i Tryd.underlying22 hi b 0 0 12 a k c (ys.map (Value.int .i64)) (by rw [h2, List.length_map, hk]; omega)
    (fun j u hu => by
      have hj : j < ys.length := by have := (List.getElem?_eq_some_iff.1 hu).1; simpa using this
      rw [hc j (by omega)]
      simp [List.getElem?_eq_getElem hj] at hu ⊢
      exact hu) (by simp [Value.oneCell']) (by omega)
    (fun j hj => by rw [hB.cell]; simp at hj ⊢; omega) (fun j hj => hB.frozen _)
  simpa [h2] using this
theorem cut_ints {w : World} {b k : Nat} {ys : List Int} (hk : ys.length = k) (hk12 : k ≤ 12) (hB : Blk w b 3 ((List.replicate 12 (0 : Int)).map (Value.int .i64)).toArray) (hw : Blk w b 3 ((List.replicate 12 (0 : Int)).map (Value.int .i64)).toArray := hB) :
    Ints (w.setCells b 0 (ys.map (Value.int .i64))) (some ⟨b, 0, none⟩) ys := fun hn => by
  have hsz : (w.setCells b 0 (ys.map (Value.int .i64))).heap.size = w.heap.size := by
    have : ∀ (vs : List Value) (o : Nat) (w : World), (w.setCells b o vs).heap.size = w.heap.size := by
      intro vs
      induction vs with
      | nil => intro o w; rfl
      | cons v vs ih => intro o w; rw [World.setCells, ih]; simp [World.setCell]
    exact this _ _ _
  refine ⟨b, 0, rfl, by rw [hsz]; exact hB.lt, fun j hj => ?_⟩
  have := World.cell?_setCells_in b (ys.map (Value.int .i64)) 0 w (fun j hj => by rw [hB.cell]; simp at hj ⊢; omega) j (by simpa using hj)
  rw [this]
  simp [List.getElem?_eq_getElem hj]
set_option maxHeartbeats 1000000 in
theorem cut_any (xs : List Int) (A : Option Addr) (n c : Nat) (w : World) (hn : xs.length = n) (hnc : n ≤ c) (hc : c ≤ maxLen) (hA : Ints w A xs) :
    Calls Tryd.prog 12 #[.slice A n c] w fun e w' => ∃ b, w.heap.size ≤ b ∧ e = .returned (.slice (some ⟨b, 0, none⟩) (min n 12) 12) ∧ Same w w' ∧ Ints w' (some ⟨b, 0, none⟩) (xs.take 12) := by
  unfold maxLen at hc
  have hmk := mk12
  have hB0 : Blk (w.alloc (.cells ((List.replicate 12 (0 : Int)).map (Value.int .i64)).toArray 3)).drew w.heap.size 3 ((List.replicate 12 (0 : Int)).map (Value.int .i64)).toArray := (Blk.new _ _ _ _ rfl).drew
  have hG0 : Same w (w.alloc (.cells ((List.replicate 12 (0 : Int)).map (Value.int .i64)).toArray 3)).drew := (Gr.a1 _ _).drew
  rcases (show n = 0 ∨ 12 < n ∨ (1 ≤ n ∧ n ≤ 12) by omega) with h | h | ⟨h, h'⟩
  · subst h
    obtain rfl : xs = [] := List.eq_nil_of_length_eq_zero hn
    have hap := fun ty => run_append0 (w.alloc (.cells ((List.replicate 12 (0 : Int)).map (Value.int .i64)).toArray 3)).drew ty A w.heap.size c
    have hap := Lib.hid hap
    generalize ((List.replicate 12 (0 : Int)).map (Value.int .i64)).toArray = Z at *
    clear hA hn
    go_enter Tryd.func12, Tryd.ntmps12
    go_wp2
    go_region_law (refine step_append_run rfl (.tmp 3) (.tmp 8) 22 rfl (by simp [Act.eval, Act.put]) (by simp [Act.eval, Act.put]) (hap.out _) ?_)
    all_goals
      go_wp2
      go_ret
      exact ⟨w.heap.size, Nat.le_refl _, rfl, hG0, fun h => by simp at h⟩
  · obtain ⟨g, off, rfl, hg, hcc⟩ := hA (by omega)
    have hap := fun ty => run_append12 (w.alloc (.cells ((List.replicate 12 (0 : Int)).map (Value.int .i64)).toArray 3)).drew ty ⟨g, off, none⟩ w.heap.size 12 c (xs.take 12) (by rw [List.length_take, hn]; omega) (by omega)
      (fun j hj => by
        rw [Go.WideShapes.add_plain, World.cell?_drew, World.cell?_alloc_past _ _ _ hg, hcc j (by omega)]
        rw [List.getElem?_take_of_lt (by omega)]) hB0
    have hap := Lib.hid hap
    have hI := cut_ints (ys := xs.take 12) (k := 12) (by rw [List.length_take, hn]; omega) (by omega) hB0
    have hG1 := Gr.setCells w.heap.size (.inr (Nat.le_refl _)) ((xs.take 12).map (Value.int .i64)) 0 _ hG0
    generalize ((List.replicate 12 (0 : Int)).map (Value.int .i64)).toArray = Z at *
    have HI := Lib.hid hI
    have h12 : (12 : Int) ≤ c := by omega
    have h14 : (12 : Int) < n := by omega
    rw [show min n 12 = 12 by omega]
    clear hA hn hcc hI
    generalize (xs.take 12).map (Value.int .i64) = news at *
    go_enter Tryd.func12, Tryd.ntmps12
    go_wp2
    go_region_law (refine step_append_run rfl (.tmp 3) (.tmp 8) 22 rfl (by simp [Act.eval, Act.put]) (by simp [Act.eval, Act.put]) (hap.out _) ?_)
    all_goals
      go_wp2
      go_ret
      exact ⟨w.heap.size, Nat.le_refl _, rfl, hG1, HI.out⟩
  · obtain ⟨g, off, rfl, hg, hcc⟩ := hA (by omega)
    have hap := fun ty => run_append12 (w.alloc (.cells ((List.replicate 12 (0 : Int)).map (Value.int .i64)).toArray 3)).drew ty ⟨g, off, none⟩ w.heap.size n c (xs.take 12) (by rw [List.length_take, hn]; omega) (by omega)
      (fun j hj => by
        rw [Go.WideShapes.add_plain, World.cell?_drew, World.cell?_alloc_past _ _ _ hg, hcc j (by omega)]
        rw [List.getElem?_take_of_lt (by omega)]) hB0
    have hap := Lib.hid hap
    have hI := cut_ints (ys := xs.take 12) (k := n) (by rw [List.length_take, hn]; omega) (by omega) hB0
    have hG1 := Gr.setCells w.heap.size (.inr (Nat.le_refl _)) ((xs.take 12).map (Value.int .i64)) 0 _ hG0
    generalize ((List.replicate 12 (0 : Int)).map (Value.int .i64)).toArray = Z at *
    have HI := Lib.hid hI
    have h12 : (n : Int) ≤ c := by omega
    have h13 : ((12 : Int) < n) = False := by simp; omega
    rw [show min n 12 = n by omega]
    clear hA hn hcc hI
    generalize (xs.take 12).map (Value.int .i64) = news at *
    go_enter Tryd.func12, Tryd.ntmps12
    go_wp2
    go_region_law (refine step_append_run rfl (.tmp 3) (.tmp 8) 22 rfl (by simp [Act.eval, Act.put]) (by simp [Act.eval, Act.put]) (hap.out _) ?_)
    all_goals
      go_wp2
      go_ret
      exact ⟨w.heap.size, Nat.le_refl _, rfl, hG1, HI.out⟩
end Go.Proofs
