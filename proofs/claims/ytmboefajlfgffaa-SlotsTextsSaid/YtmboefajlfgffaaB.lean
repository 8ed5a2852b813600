/- Add. -/
import Derived.Test.YtmboefajlfgffaaA
set_option linter.unusedVariables false
set_option linter.unusedSimpArgs false
namespace Go.Proofs
open Go.RowKit Go.Shelf
attribute [local go_sem] Oper.semAt_some

/-- what came: all but the last were held, the last was not -/
def Came (S : St) (pre : List (Fin 8)) (x : Fin 8) : Prop := ∃ q, pre = q ++ [x] ∧ (∀ j ∈ q, S.hd j.1 = true) ∧ S.hd x.1 = false

/-- What Add leaves. -/
def AddPost (T : TypeId) (b : Nat) (S : St) (v : Value) (w : World) (e : Ending) (w' : World) : Prop :=
  (e = .returned (.tuple #[.int .i64 0, .int .i64 101]) ∧ (∀ j, j < 8 → S.hd j = true) ∧ Same w w') ∨
  (∃ i, i < 8 ∧ (∀ j, j < i → S.hd j = true) ∧ S.hd i = false ∧ e = .returned (.tuple #[.int .i64 (idOf S i), .int .i64 0]) ∧ Gr w w' (fun k => k = b) ∧ Sl T w' b ((S.setV i v).setH i true))

theorem came_at {S : St} {pre : List (Fin 8)} {x : Fin 8} {i : Nat} (h : Came S pre x) (hp : pre.map Fin.val = List.range (i + 1)) : x.1 = i ∧ (∀ j, j < i → S.hd j = true) ∧ S.hd i = false := by
  obtain ⟨q, rfl, hq, hx⟩ := h
  rw [List.map_append, List.range_succ] at hp
  obtain ⟨h1, h2⟩ := List.append_inj' hp rfl
  have hxi : x.1 = i := by simpa using h2
  refine ⟨hxi, fun j hj => ?_, hxi ▸ hx⟩
  have : j ∈ q.map Fin.val := by rw [h1]; simpa using hj
  obtain ⟨y, hy, rfl⟩ := List.mem_map.1 this
  exact hq y hy

theorem res_int_errno {fn : Func} (h : fn.results = #[.cell 4 3, .cell 5 25]) {tmps : Array Value} {w : World} {b1 b2 : Nat} {x y : Int}
    (a1 : tmps.getD 4 undef = .pointer (some ⟨b1, 0, none⟩)) (a2 : tmps.getD 5 undef = .pointer (some ⟨b2, 0, none⟩))
    (h1 : Blk w b1 3 #[.int .i64 x]) (h2 : Blk w b2 25 #[.int .i64 y]) : (results fn tmps).run Try.prog w = .ok (.tuple #[.int .i64 x, .int .i64 y]) w := by
  have c1 := h1.cell 0
  have c2 := h2.cell 0
  simp at c1 c2
  simp only [Array.getD_eq_getD_getElem?] at a1 a2
  simp [results, h, go_sem, a1, a2, c1, c2]

set_option maxRecDepth 100000 in
set_option maxHeartbeats 1000000 in
theorem add_any (b : Nat) (S : St) (hS : S.ok) (v : Int) (w : World) (hb : Sl 58 w b S) :
    Calls Try.prog 11 #[.pointer (some ⟨b, 0, none⟩), .int .i64 v] w (AddPost 58 b S (.int .i64 v) w) := by
  have hlt := Blk.lt hb
  refine (callsIn_wide (n := 9)).1 ?_
  refine callsIn_of_wp_marks Try.func11 rfl trivial ?_ rfl
  simp only [Try.ntmps11, List.size_toArray, List.length_cons, List.length_nil, Nat.reduceAdd, Nat.reduceSub, Array.replicate_succ, Array.replicate_zero, List.push_toArray, List.append_toArray, List.nil_append, List.cons_append]
  gi_wp2_with (refine ⟨trivial, ?_⟩; gi_at_call 29; refine (callsIn_wide.2 (all_any _ _)).mono ?_; rintro e w1 ⟨rfl, hG, hBs⟩)
  have hv0 : Blk w1 w.heap.size 3 #[.int .i64 v] := hG.blk (((Blk.new _ _ _ _ rfl).alloc _).alloc _) (fun f => f)
  have hr1 : Blk w1 (w.heap.size + 1) 3 #[.int .i64 0] := hG.blk ((Blk.new _ _ _ _ (by simp)).alloc _) (fun f => f)
  have hr2 : Blk w1 (w.heap.size + 1 + 1) 25 #[.int .i64 0] := hG.blk (Blk.new _ _ _ _ (by simp)) (fun f => f)
  have hGw : Same w w1 := (Gr.a3 _ _ _ _).next hG
  have hb1 : Sl 58 w1 b S := hGw.blk hb (fun f => f)
  have hsz := hGw.size
  have hBs' : Blk w1 (w.heap.size + 1 + 1 + 1) 23 #[.pointer (some ⟨b, 0, none⟩)] := by simpa using hBs
  clear hBs
  refine wpIn_rangeFunc_ownG rfl (by omega) (gf := 42) (lb := #[.pointer (some ⟨w.heap.size + 1 + 1 + 1, 0, none⟩)]) rfl trivial (enters_of Try.func42 (by kernel_rfl) rfl)
    (all_stops _ b _ (by omega) S hS (fun _ => False) _ hb1 hBs' (fun f => f) (fun f => f)) keptX_t keptX_b (Below.refl _ _) (fun _ => rfl)
    (fun pre W => (∀ j ∈ pre, S.hd j.1 = true) ∧ Same w1 W)
    (fun c pre W => c = .ret ∧ (∃ x, Came S pre x ∧ Sl 58 W b ((S.setV x.1 (.int .i64 v)).setH x.1 true) ∧ Blk W (w.heap.size + 1) 3 #[.int .i64 (idOf S x.1)]) ∧ Blk W (w.heap.size + 1 + 1) 25 #[.int .i64 0] ∧ Gr w1 W (fun k => k = b ∨ w.heap.size ≤ k))
    (OwnFrom.and (ownFrom_pure _ _) (ownFrom_gr _ (Nat.le_refl _)))
    (fun c => OwnFrom.and (ownFrom_pure _ _) (OwnFrom.and (ownFrom_ex fun x => OwnFrom.and (ownFrom_pure _ _) (OwnFrom.and (ownFrom_blk _ _ _) (ownFrom_blk _ _ _))) (OwnFrom.and (ownFrom_blk _ _ _) (ownFrom_gr _ (Nat.le_refl _)))))
    ⟨by simp, Gr.refl _ _⟩
    (fun x => { tmps := #[.pointer (some ⟨b, 0, none⟩), .int .i64 v, undef, .pointer (some ⟨w.heap.size, 0, none⟩), .pointer (some ⟨w.heap.size + 1, 0, none⟩), .pointer (some ⟨w.heap.size + 1 + 1, 0, none⟩), .int .i64 (idOf S x.1), .pointer (some ⟨b, x.1 * 3, none⟩), .pointer (some ⟨b, 0, none⟩), .bool false, .pointer (some ⟨b, 0, none⟩), .func (Fn.func 42) #[] #[.pointer (some ⟨w.heap.size + 1 + 1 + 1, 0, none⟩)], .int .i64 (idOf S x.1), .pointer (some ⟨b, x.1 * 3, none⟩), undef, undef, undef, undef, undef, undef, undef, undef, undef, undef, undef, undef, undef], defers := [] }) ?assign ?body ?done ?stop
  case assign =>
    intro l x W K hK
    gi_wp2
    exact hK
  case body =>
    rintro l pre x W ⟨hpre, hW⟩ hl8
    have hBx := hW.blk hb1 (fun f => f)
    have hc := (Blk.cell hBx (x.1 * 3 + 2)).trans (cells_hd S x.1 x.2)
    have HPRE := Lib.hid hpre
    clear hpre
    cases hx : S.hd x.1
    · rw [hx] at hc
      have hcv := (Blk.cell hBx (x.1 * 3 + 1)).trans (cells_vv S x.1 x.2)
      have hf1 := Blk.frozen hBx (x.1 * 3 + 1)
      have hf2 := Blk.frozen hBx (x.1 * 3 + 2)
      have k0 := (hW.blk hv0 (fun f => f)).cell 0
      have k1 := (hW.blk hr1 (fun f => f)).cell 0
      have k2 := (hW.blk hr2 (fun f => f)).cell 0
      have f1 := (hW.blk hr1 (fun f => f)).frozen 0
      have f2 := (hW.blk hr2 (fun f => f)).frozen 0
      simp at k0 k1 k2
      gi_wp2
      refine ⟨((((KeepsOthers.setCell _ _ _).trans (KeepsOthers.setCell _ _ _)).trans (KeepsOthers.setCell _ _ _)).trans (KeepsOthers.setCell _ _ _)).from _, rfl, ⟨x, ⟨pre, rfl, HPRE.out, hx⟩, ?_, ?_⟩, ?_, ?_⟩
      · have h := ((((Blk.set_ hBx (x.1 * 3 + 1) (.int .i64 v)).set_ (x.1 * 3 + 2) (.bool true)).far (p := ⟨w.heap.size + 1, 0, none⟩) (by dsimp only; omega) (.int .i64 (idOf S x.1))).far (p := ⟨w.heap.size + 1 + 1, 0, none⟩) (by dsimp only; omega) (.int .i64 0))
        rw [cells_setV _ _ _ x.2, cells_setH _ _ _ x.2] at h
        exact h
      · have h := (((((hW.blk hr1 (fun f => f)).far (p := ⟨b, x.1 * 3 + 1, none⟩) (by dsimp only; omega) (.int .i64 v)).far (p := ⟨b, x.1 * 3 + 2, none⟩) (by dsimp only; omega) (.bool true)).set_ 0 (.int .i64 (idOf S x.1))).far (p := ⟨w.heap.size + 1 + 1, 0, none⟩) (by dsimp only; omega) (.int .i64 0))
        simpa using h
      · have h := (((((hW.blk hr2 (fun f => f)).far (p := ⟨b, x.1 * 3 + 1, none⟩) (by dsimp only; omega) (.int .i64 v)).far (p := ⟨b, x.1 * 3 + 2, none⟩) (by dsimp only; omega) (.bool true)).far (p := ⟨w.heap.size + 1, 0, none⟩) (by dsimp only; omega) (.int .i64 (idOf S x.1))).set_ 0 (.int .i64 0))
        simpa using h
      · exact ((((hW.mono (fun _ _ f => f.elim)).setCell (p := ⟨b, x.1 * 3 + 1, none⟩) (X := fun k => k = b ∨ w.heap.size ≤ k) (.inl (.inl rfl)) _).setCell (p := ⟨b, x.1 * 3 + 2, none⟩) (X := fun k => k = b ∨ w.heap.size ≤ k) (.inl (.inl rfl)) _).setCell (p := ⟨w.heap.size + 1, 0, none⟩) (X := fun k => k = b ∨ w.heap.size ≤ k) (.inl (.inr (by dsimp only; omega))) _).setCell (p := ⟨w.heap.size + 1 + 1, 0, none⟩) (X := fun k => k = b ∨ w.heap.size ≤ k) (.inl (.inr (by dsimp only; omega))) _
    · rw [hx] at hc
      gi_wp2
      refine ⟨KeepsFrom.refl _ _, KeptX.refl _ _, ?_, hW⟩
      intro j hj
      rcases List.mem_append.1 hj with h | h
      · exact HPRE.out j h
      · rw [List.mem_singleton.1 h]; exact hx
  case done =>
    rintro D ys W hD hys ⟨hpre, hW⟩ hK
    have k1 := (hW.blk hr1 (fun f => f)).cell 0
    have k2 := (hW.blk hr2 (fun f => f)).cell 0
    have f1 := (hW.blk hr1 (fun f => f)).frozen 0
    have f2 := (hW.blk hr2 (fun f => f)).frozen 0
    simp at k1 k2
    have HP := Lib.hid hpre
    have HY := Lib.hid hys
    clear hpre hys
    gi_wp2
    have hK' : ((W.setCell ⟨w.heap.size + 1, 0, none⟩ (.int .i64 0)).setCell ⟨w.heap.size + 1 + 1, 0, none⟩ (.int .i64 101)).heap[D]? = some (.deferred (some [])) := ((KeepsOthers.setCell _ _ _).trans (KeepsOthers.setCell _ _ _)).same D _ hK rfl
    have e1 : Blk ((W.setCell ⟨w.heap.size + 1, 0, none⟩ (.int .i64 0)).setCell ⟨w.heap.size + 1 + 1, 0, none⟩ (.int .i64 101)) (w.heap.size + 1) 3 #[.int .i64 0] := by
      have h := ((hW.blk hr1 (fun f => f)).set_ 0 (.int .i64 0)).far (p := ⟨w.heap.size + 1 + 1, 0, none⟩) (by dsimp only; omega) (.int .i64 101)
      simpa using h
    have e2 : Blk ((W.setCell ⟨w.heap.size + 1, 0, none⟩ (.int .i64 0)).setCell ⟨w.heap.size + 1 + 1, 0, none⟩ (.int .i64 101)) (w.heap.size + 1 + 1) 25 #[.int .i64 101] := by
      have h := ((hW.blk hr2 (fun f => f)).far (p := ⟨w.heap.size + 1, 0, none⟩) (by dsimp only; omega) (.int .i64 0)).set_ 0 (.int .i64 101)
      simpa using h
    refine ⟨by simp, .inl ⟨_, _, rfl, run_takeDeferred hK', ?_⟩⟩
    refine ⟨_, res_int_errno rfl rfl rfl (e1.put _ hK' rfl) (e2.put _ hK' rfl), .inl ⟨rfl, ?_, ?_⟩⟩
    · intro j hj
      have : j ∈ ys.map Fin.val := by rw [HY.out]; simpa using hj
      obtain ⟨y, hy, rfl⟩ := List.mem_map.1 this
      exact HP.out y hy
    · refine Gr.put ?_ _ (by omega)
      exact ((hGw.next hW).setCell (p := ⟨w.heap.size + 1, 0, none⟩) (.inr (by dsimp only; omega)) _).setCell (p := ⟨w.heap.size + 1 + 1, 0, none⟩) (.inr (by dsimp only; omega)) _
  case stop =>
    rintro D c pre W hD ⟨i, hi, hpi⟩ ⟨rfl, ⟨x, hx, hBx, hR1⟩, hR2, hW⟩ hK
    gi_wp2
    obtain ⟨hxi, hall, hno⟩ := came_at hx hpi
    rw [hxi] at hBx hR1
    refine ⟨by simp, .inl ⟨_, _, rfl, run_takeDeferred hK, ?_⟩⟩
    refine ⟨_, res_int_errno rfl rfl rfl (hR1.put _ hK rfl) (hR2.put _ hK rfl), .inr ⟨i, hi, hall, hno, rfl, ?_, Blk.put hBx _ hK rfl⟩⟩
    refine Gr.put ?_ _ (by omega)
    exact hGw.no.trans hW (fun j hj h => by rcases h with h | h; exact h; omega)
end Go.Proofs
