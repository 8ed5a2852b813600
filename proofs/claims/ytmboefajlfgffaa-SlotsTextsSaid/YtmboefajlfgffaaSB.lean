/- Slots of texts: Add, Remove, Get, Set. -/
import Derived.Test.YtmboefajlfgffaaSA
set_option linter.unusedVariables false
set_option linter.unusedSimpArgs false
namespace Go.Proofs.Str
open Go.RowKit Go.Shelf
attribute [local go_sem] Oper.semAt_some

set_option maxRecDepth 100000 in
set_option maxHeartbeats 1000000 in
theorem add_any (b : Nat) (S : St) (hS : S.ok) (v : ByteArray) (w : World) (hb : Sl 70 w b S) :
    Calls Try.prog 24 #[.pointer (some ⟨b, 0, none⟩), .string v] w (AddPost 70 b S (.string v) w) := by
  have hlt := Blk.lt hb
  refine (callsIn_wide (n := 9)).1 ?_
  refine callsIn_of_wp_marks Try.func24 rfl trivial ?_ rfl
  simp only [Try.ntmps24, List.size_toArray, List.length_cons, List.length_nil, Nat.reduceAdd, Nat.reduceSub, Array.replicate_succ, Array.replicate_zero, List.push_toArray, List.append_toArray, List.nil_append, List.cons_append]
  gi_wp2_with (refine ⟨trivial, ?_⟩; gi_at_call 37; refine (callsIn_wide.2 (all_any _ _)).mono ?_; rintro e w1 ⟨rfl, hG, hBs⟩)
  have hv0 : Blk w1 w.heap.size 9 #[.string v] := hG.blk (((Blk.new _ _ _ _ rfl).alloc _).alloc _) (fun f => f)
  have hr1 : Blk w1 (w.heap.size + 1) 3 #[.int .i64 0] := hG.blk ((Blk.new _ _ _ _ (by simp)).alloc _) (fun f => f)
  have hr2 : Blk w1 (w.heap.size + 1 + 1) 25 #[.int .i64 0] := hG.blk (Blk.new _ _ _ _ (by simp)) (fun f => f)
  have hGw : Same w w1 := (Gr.a3 _ _ _ _).next hG
  have hb1 : Sl 70 w1 b S := hGw.blk hb (fun f => f)
  have hsz := hGw.size
  have hBs' : Blk w1 (w.heap.size + 1 + 1 + 1) 46 #[.pointer (some ⟨b, 0, none⟩)] := by simpa using hBs
  clear hBs
  refine wpIn_rangeFunc_ownG rfl (by omega) (gf := 44) (lb := #[.pointer (some ⟨w.heap.size + 1 + 1 + 1, 0, none⟩)]) rfl trivial (enters_of Try.func44 (by kernel_rfl) rfl)
    (all_stops _ b _ (by omega) S hS (fun _ => False) _ hb1 hBs' (fun f => f) (fun f => f)) keptX_t keptX_b (Below.refl _ _) (fun _ => rfl)
    (fun pre W => (∀ j ∈ pre, S.hd j.1 = true) ∧ Same w1 W)
    (fun c pre W => c = .ret ∧ (∃ x, Came S pre x ∧ Sl 70 W b ((S.setV x.1 (.string v)).setH x.1 true) ∧ Blk W (w.heap.size + 1) 3 #[.int .i64 (idOf S x.1)]) ∧ Blk W (w.heap.size + 1 + 1) 25 #[.int .i64 0] ∧ Gr w1 W (fun k => k = b ∨ w.heap.size ≤ k))
    (OwnFrom.and (ownFrom_pure _ _) (ownFrom_gr _ (Nat.le_refl _)))
    (fun c => OwnFrom.and (ownFrom_pure _ _) (OwnFrom.and (ownFrom_ex fun x => OwnFrom.and (ownFrom_pure _ _) (OwnFrom.and (ownFrom_blk _ _ _) (ownFrom_blk _ _ _))) (OwnFrom.and (ownFrom_blk _ _ _) (ownFrom_gr _ (Nat.le_refl _)))))
    ⟨by simp, Gr.refl _ _⟩
    (fun x => { tmps := #[.pointer (some ⟨b, 0, none⟩), .string v, undef, .pointer (some ⟨w.heap.size, 0, none⟩), .pointer (some ⟨w.heap.size + 1, 0, none⟩), .pointer (some ⟨w.heap.size + 1 + 1, 0, none⟩), .int .i64 (idOf S x.1), .pointer (some ⟨b, x.1 * 3, none⟩), .pointer (some ⟨b, 0, none⟩), .bool false, .pointer (some ⟨b, 0, none⟩), .func (Fn.func 44) #[] #[.pointer (some ⟨w.heap.size + 1 + 1 + 1, 0, none⟩)], .int .i64 (idOf S x.1), .pointer (some ⟨b, x.1 * 3, none⟩), undef, undef, undef, undef, undef, undef, undef, undef, undef, undef, undef, undef, undef], defers := [] }) ?assign ?body ?done ?stop
  case assign =>
    intro l x W K hK
    gi_wp2
    exact hK
  case body =>
    rintro l pre x W ⟨hpre, hW⟩ hl8
    have hBx := hW.blk hb1 (fun f => f)
    have hc := (Blk.cell hBx (x.1 * 3 + 2)).trans (cells_hd S x.1 x.2)
    have HPRE := Lib.hid hpre
    clear hpre
    cases hx : S.hd x.1
    · rw [hx] at hc
      have hcv := (Blk.cell hBx (x.1 * 3 + 1)).trans (cells_vv S x.1 x.2)
      have hf1 := Blk.frozen hBx (x.1 * 3 + 1)
      have hf2 := Blk.frozen hBx (x.1 * 3 + 2)
      have k0 := (hW.blk hv0 (fun f => f)).cell 0
      have k1 := (hW.blk hr1 (fun f => f)).cell 0
      have k2 := (hW.blk hr2 (fun f => f)).cell 0
      have f1 := (hW.blk hr1 (fun f => f)).frozen 0
      have f2 := (hW.blk hr2 (fun f => f)).frozen 0
      simp at k0 k1 k2
      gi_wp2
      refine ⟨((((KeepsOthers.setCell _ _ _).trans (KeepsOthers.setCell _ _ _)).trans (KeepsOthers.setCell _ _ _)).trans (KeepsOthers.setCell _ _ _)).from _, rfl, ⟨x, ⟨pre, rfl, HPRE.out, hx⟩, ?_, ?_⟩, ?_, ?_⟩
      · have h := ((((Blk.set_ hBx (x.1 * 3 + 1) (.string v)).set_ (x.1 * 3 + 2) (.bool true)).far (p := ⟨w.heap.size + 1, 0, none⟩) (by dsimp only; omega) (.int .i64 (idOf S x.1))).far (p := ⟨w.heap.size + 1 + 1, 0, none⟩) (by dsimp only; omega) (.int .i64 0))
        rw [cells_setV _ _ _ x.2, cells_setH _ _ _ x.2] at h
        exact h
      · have h := (((((hW.blk hr1 (fun f => f)).far (p := ⟨b, x.1 * 3 + 1, none⟩) (by dsimp only; omega) (.string v)).far (p := ⟨b, x.1 * 3 + 2, none⟩) (by dsimp only; omega) (.bool true)).set_ 0 (.int .i64 (idOf S x.1))).far (p := ⟨w.heap.size + 1 + 1, 0, none⟩) (by dsimp only; omega) (.int .i64 0))
        simpa using h
      · have h := (((((hW.blk hr2 (fun f => f)).far (p := ⟨b, x.1 * 3 + 1, none⟩) (by dsimp only; omega) (.string v)).far (p := ⟨b, x.1 * 3 + 2, none⟩) (by dsimp only; omega) (.bool true)).far (p := ⟨w.heap.size + 1, 0, none⟩) (by dsimp only; omega) (.int .i64 (idOf S x.1))).set_ 0 (.int .i64 0))
        simpa using h
      · exact ((((hW.mono (fun _ _ f => f.elim)).setCell (p := ⟨b, x.1 * 3 + 1, none⟩) (X := fun k => k = b ∨ w.heap.size ≤ k) (.inl (.inl rfl)) _).setCell (p := ⟨b, x.1 * 3 + 2, none⟩) (X := fun k => k = b ∨ w.heap.size ≤ k) (.inl (.inl rfl)) _).setCell (p := ⟨w.heap.size + 1, 0, none⟩) (X := fun k => k = b ∨ w.heap.size ≤ k) (.inl (.inr (by dsimp only; omega))) _).setCell (p := ⟨w.heap.size + 1 + 1, 0, none⟩) (X := fun k => k = b ∨ w.heap.size ≤ k) (.inl (.inr (by dsimp only; omega))) _
    · rw [hx] at hc
      gi_wp2
      refine ⟨KeepsFrom.refl _ _, KeptX.refl _ _, ?_, hW⟩
      intro j hj
      rcases List.mem_append.1 hj with h | h
      · exact HPRE.out j h
      · rw [List.mem_singleton.1 h]; exact hx
  case done =>
    rintro D ys W hD hys ⟨hpre, hW⟩ hK
    have k1 := (hW.blk hr1 (fun f => f)).cell 0
    have k2 := (hW.blk hr2 (fun f => f)).cell 0
    have f1 := (hW.blk hr1 (fun f => f)).frozen 0
    have f2 := (hW.blk hr2 (fun f => f)).frozen 0
    simp at k1 k2
    have HP := Lib.hid hpre
    have HY := Lib.hid hys
    clear hpre hys
    gi_wp2
    have hK' : ((W.setCell ⟨w.heap.size + 1, 0, none⟩ (.int .i64 0)).setCell ⟨w.heap.size + 1 + 1, 0, none⟩ (.int .i64 101)).heap[D]? = some (.deferred (some [])) := ((KeepsOthers.setCell _ _ _).trans (KeepsOthers.setCell _ _ _)).same D _ hK rfl
    have e1 : Blk ((W.setCell ⟨w.heap.size + 1, 0, none⟩ (.int .i64 0)).setCell ⟨w.heap.size + 1 + 1, 0, none⟩ (.int .i64 101)) (w.heap.size + 1) 3 #[.int .i64 0] := by
      have h := ((hW.blk hr1 (fun f => f)).set_ 0 (.int .i64 0)).far (p := ⟨w.heap.size + 1 + 1, 0, none⟩) (by dsimp only; omega) (.int .i64 101)
      simpa using h
    have e2 : Blk ((W.setCell ⟨w.heap.size + 1, 0, none⟩ (.int .i64 0)).setCell ⟨w.heap.size + 1 + 1, 0, none⟩ (.int .i64 101)) (w.heap.size + 1 + 1) 25 #[.int .i64 101] := by
      have h := ((hW.blk hr2 (fun f => f)).far (p := ⟨w.heap.size + 1, 0, none⟩) (by dsimp only; omega) (.int .i64 0)).set_ 0 (.int .i64 101)
      simpa using h
    refine ⟨by simp, .inl ⟨_, _, rfl, run_takeDeferred hK', ?_⟩⟩
    refine ⟨_, res_int_errno rfl rfl rfl (e1.put _ hK' rfl) (e2.put _ hK' rfl), .inl ⟨rfl, ?_, ?_⟩⟩
    · intro j hj
      have : j ∈ ys.map Fin.val := by rw [HY.out]; simpa using hj
      obtain ⟨y, hy, rfl⟩ := List.mem_map.1 this
      exact HP.out y hy
    · refine Gr.put ?_ _ (by omega)
      exact ((hGw.next hW).setCell (p := ⟨w.heap.size + 1, 0, none⟩) (.inr (by dsimp only; omega)) _).setCell (p := ⟨w.heap.size + 1 + 1, 0, none⟩) (.inr (by dsimp only; omega)) _
  case stop =>
    rintro D c pre W hD ⟨i, hi, hpi⟩ ⟨rfl, ⟨x, hx, hBx, hR1⟩, hR2, hW⟩ hK
    gi_wp2
    obtain ⟨hxi, hall, hno⟩ := came_at hx hpi
    rw [hxi] at hBx hR1
    refine ⟨by simp, .inl ⟨_, _, rfl, run_takeDeferred hK, ?_⟩⟩
    refine ⟨_, res_int_errno rfl rfl rfl (hR1.put _ hK rfl) (hR2.put _ hK rfl), .inr ⟨i, hi, hall, hno, rfl, ?_, Blk.put hBx _ hK rfl⟩⟩
    refine Gr.put ?_ _ (by omega)
    exact hGw.no.trans hW (fun j hj h => by rcases h with h | h; exact h; omega)
def Val1 (v : Value) : Prop := ∃ n : ByteArray, v = .string n
def SVals (S : St) : Prop := ∀ i, i < 8 → Val1 (S.vv i)

theorem get1_any (b i Bo : Nat) (S : St) (o : Value) (w : World) (hi : i < 8) (hV : SVals S) (hb : Sl 70 w b S) (ho : Blk w Bo 9 #[o]) (hne : Bo ≠ b) :
    Calls Try.prog 40 #[.pointer (some ⟨b, i * 3, none⟩), .pointer (some ⟨Bo, 0, none⟩)] w fun e w' => e = .returned (.tuple #[]) ∧ Gr w w' (fun k => k = Bo) ∧ Blk w' Bo 9 #[S.vv i] := by
  obtain ⟨n, hn⟩ := hV i hi
  have c := (Blk.cell hb (i * 3 + 1)).trans (cells_vv S i hi)
  rw [hn] at c ⊢
  have c0 := ho.cell 0
  have f0 := ho.frozen 0
  simp at c0
  have HO := Lib.hid ho
  clear ho hb hn
  go_enter Try.func40, Try.ntmps40
  go_wp2
  go_end0
  exact ⟨rfl, (Gr.refl _ _).set1 0 _, by simpa using HO.out.set_ 0 (.string n)⟩

theorem set1_any (b i Bo : Nat) (S : St) (n : ByteArray) (w : World) (hi : i < 8) (hb : Sl 70 w b S) (ho : Blk w Bo 9 #[.string n]) :
    Calls Try.prog 39 #[.pointer (some ⟨b, i * 3, none⟩), .pointer (some ⟨Bo, 0, none⟩)] w fun e w' => e = .returned (.tuple #[]) ∧ Gr w w' (fun k => k = b) ∧ Sl 70 w' b (S.setV i (.string n)) := by
  have c := (Blk.cell hb (i * 3 + 1)).trans (cells_vv S i hi)
  have f := Blk.frozen hb (i * 3 + 1)
  have c0 := ho.cell 0
  simp at c0
  have HB := Lib.hid hb
  clear ho hb
  go_enter Try.func39, Try.ntmps39
  go_wp2
  go_end0
  refine ⟨rfl, (Gr.refl _ _).set1 _ _, ?_⟩
  have h := Blk.set_ HB.out (i * 3 + 1) (.string n)
  rw [cells_setV _ _ _ hi] at h
  exact h

theorem remove1_any (b i Bo Bz : Nat) (S : St) (o : Value) (w : World) (hi : i < 8) (hS : S.ok) (hV : SVals S) (hb : Sl 70 w b S) (ho : Blk w Bo 9 #[o]) (hz : Blk w Bz 9 #[.string ByteArray.empty]) (hne : Bo ≠ b) (hne2 : Bo ≠ Bz) (hne3 : Bz ≠ b) :
    Calls Try.prog 41 #[.pointer (some ⟨b, i * 3, none⟩), .pointer (some ⟨Bz, 0, none⟩), .pointer (some ⟨Bo, 0, none⟩)] w fun e w' => e = .returned (.tuple #[]) ∧ Gr w w' (fun k => k = b ∨ k = Bo) ∧ Blk w' Bo 9 #[S.vv i] ∧ Sl 70 w' b (S.rm i (.string ByteArray.empty)) := by
  obtain ⟨n, hn⟩ := hV i hi
  have c := (Blk.cell hb (i * 3 + 1)).trans (cells_vv S i hi)
  have c2 := (Blk.cell hb (i * 3 + 2)).trans (cells_hd S i hi)
  have f1 := Blk.frozen hb (i * 3 + 1)
  have f2 := Blk.frozen hb (i * 3 + 2)
  rw [hn] at c ⊢
  have c0 := ho.cell 0
  have z0 := hz.cell 0
  have f0 := ho.frozen 0
  simp at c0 z0
  have HO := Lib.hid ho
  have HB := Lib.hid hb
  have HN := Lib.hid hn
  clear ho hb hn hz
  go_enter Try.func41, Try.ntmps41
  go_wp2
  go_region
  have hok : St.ok ((S.setV i (.string ByteArray.empty)).setH i false) := hS
  have hB1 : Sl 70 (((w.setCell ⟨Bo, 0, none⟩ (.string n)).setCell ⟨b, i * 3 + 1, none⟩ (.string ByteArray.empty)).setCell ⟨b, i * 3 + 2, none⟩ (.bool false)).drew b ((S.setV i (.string ByteArray.empty)).setH i false) := by
    have h := ((Blk.far HB.out (p := ⟨Bo, 0, none⟩) (by dsimp only; omega) (.string n)).set_ (i * 3 + 1) (.string ByteArray.empty)).set_ (i * 3 + 2) (.bool false)
    rw [cells_setV _ _ _ hi, cells_setH _ _ _ hi] at h
    exact h
  have hO1 : Blk (((w.setCell ⟨Bo, 0, none⟩ (.string n)).setCell ⟨b, i * 3 + 1, none⟩ (.string ByteArray.empty)).setCell ⟨b, i * 3 + 2, none⟩ (.bool false)).drew Bo 9 #[.string n] := by
    have h := ((HO.out.set_ 0 (.string n)).far (p := ⟨b, i * 3 + 1, none⟩) hne (.string ByteArray.empty)).far (p := ⟨b, i * 3 + 2, none⟩) hne (.bool false)
    rw [show (#[o] : Array Value).setIfInBounds 0 (.string n) = #[.string n] from by simp] at h
    exact h
  have hG1 : Gr w (((w.setCell ⟨Bo, 0, none⟩ (.string n)).setCell ⟨b, i * 3 + 1, none⟩ (.string ByteArray.empty)).setCell ⟨b, i * 3 + 2, none⟩ (.bool false)).drew (fun k => k = b ∨ k = Bo) :=
    (((Gr.refl w (fun k => k = b ∨ k = Bo)).setCell (p := ⟨Bo, 0, none⟩) (.inl (.inr rfl)) _).setCell (p := ⟨b, i * 3 + 1, none⟩) (.inl (.inl rfl)) _).setCell (p := ⟨b, i * 3 + 2, none⟩) (.inl (.inl rfl)) _
  go_wp2_with fail
  refine (next_any _ _ _ _ hi hok 70 hB1).mono ?_
  rintro e w1 ⟨rfl, hG2, hB2⟩
  go_wp2
  go_end0
  exact ⟨rfl, hG1.trans hG2 (fun j _ h => .inl h), hG2.blk hO1 hne, hB2⟩
set_option maxRecDepth 100000 in
set_option maxHeartbeats 1000000 in
theorem with_get (b : Nat) (S : St) (hS : S.ok) (hV : SVals S) (id : Int) (Bo : Nat) (o : Value) (w : World) (hb : Sl 70 w b S) (ho : Blk w Bo 9 #[o]) (hne : Bo ≠ b) :
    Calls Try.prog 38 #[.pointer (some ⟨b, 0, none⟩), .int .i64 id, .func (.func 40) #[] #[.pointer (some ⟨Bo, 0, none⟩)]] w fun e w' =>
      (e = .returned (.int .i64 100) ∧ (∀ j, j < 8 → S.hd j = true → idOf S j ≠ id) ∧ Same w w') ∨
      (∃ i, i < 8 ∧ S.hd i = true ∧ idOf S i = id ∧ e = .returned (.int .i64 0) ∧ Gr w w' (fun k => k = Bo) ∧ Blk w' Bo 9 #[S.vv i]) := by
  have hlt := Blk.lt hb
  have hlo := ho.lt
  refine (callsIn_wide (n := 9)).1 ?_
  refine callsIn_of_wp_marks Try.func38 rfl trivial ?_ rfl
  simp only [Try.ntmps38, List.size_toArray, List.length_cons, List.length_nil, Nat.reduceAdd, Nat.reduceSub, Array.replicate_succ, Array.replicate_zero, List.push_toArray, List.append_toArray, List.nil_append, List.cons_append]
  gi_wp2
  refine wpIn_scope ?_
  gi_wp2
  first | refine wpIn_label_seq ?_ | refine wpIn_label ?_
  gi_wp2_with (refine ⟨trivial, ?_⟩; gi_at_call 37; refine (callsIn_wide.2 (all_any _ _)).mono ?_; rintro e w1 ⟨rfl, hG, hBs⟩)
  have hv0 : Blk w1 w.heap.size 3 #[.int .i64 id] := hG.blk (((Blk.new _ _ _ _ rfl).alloc _).alloc _) (fun f => f)
  have hr1 : Blk w1 (w.heap.size + 1) 76 #[.func (.func 40) #[] #[.pointer (some ⟨Bo, 0, none⟩)]] := hG.blk ((Blk.new _ _ _ _ (by simp)).alloc _) (fun f => f)
  have hr2 : Blk w1 (w.heap.size + 1 + 1) 25 #[.int .i64 100] := hG.blk (Blk.new _ _ _ _ (by simp)) (fun f => f)
  have hGw : Same w w1 := (Gr.a3 _ _ _ _).next hG
  have hb1 : Sl 70 w1 b S := hGw.blk hb (fun f => f)
  have hsz := hGw.size
  have hBs' : Blk w1 (w.heap.size + 1 + 1 + 1) 46 #[.pointer (some ⟨b, 0, none⟩)] := by simpa using hBs
  clear hBs
  refine wpIn_rangeFunc_ownG rfl (by omega) (gf := 44) (lb := #[.pointer (some ⟨w.heap.size + 1 + 1 + 1, 0, none⟩)]) rfl trivial (enters_of Try.func44 (by kernel_rfl) rfl)
    (all_stops _ b _ (by omega) S hS (fun _ => False) _ hb1 hBs' (fun f => f) (fun f => f)) keptX_t keptX_b (Below.refl _ _) (fun _ => rfl)
    (fun pre W => (∀ j ∈ pre, S.hd j.1 = true → idOf S j.1 ≠ id) ∧ Same w1 W)
    (fun c pre W => c = .exit 0 ∧ (∃ x : Fin 8, Met S id pre x ∧ Blk W Bo 9 #[S.vv x.1]) ∧ Blk W (w.heap.size + 1 + 1) 25 #[.int .i64 0] ∧ Gr w1 W (fun k => (k = Bo) ∨ w.heap.size ≤ k))
    (OwnFrom.and (ownFrom_pure _ _) (ownFrom_gr _ (Nat.le_refl _)))
    (fun c => OwnFrom.and (ownFrom_pure _ _) (OwnFrom.and (ownFrom_ex fun x => OwnFrom.and (ownFrom_pure _ _) (ownFrom_blk _ _ _)) (OwnFrom.and (ownFrom_blk _ _ _) (ownFrom_gr _ (Nat.le_refl _)))))
    ⟨by simp, Gr.refl _ _⟩
    (fun x => { tmps := #[.pointer (some ⟨b, 0, none⟩), .int .i64 id, .func (.func 40) #[] #[.pointer (some ⟨Bo, 0, none⟩)], undef, .pointer (some ⟨w.heap.size, 0, none⟩), .pointer (some ⟨w.heap.size + 1, 0, none⟩), .int .i64 0, .pointer (some ⟨w.heap.size + 1 + 1, 0, none⟩), .int .i64 (idOf S x.1), .pointer (some ⟨b, x.1 * 3, none⟩), .pointer (some ⟨b, 0, none⟩), .bool false, .pointer (some ⟨b, 0, none⟩), .func (Fn.func 44) #[] #[.pointer (some ⟨w.heap.size + 1 + 1 + 1, 0, none⟩)], .int .i64 (idOf S x.1), .pointer (some ⟨b, x.1 * 3, none⟩), undef, undef, undef, undef, undef, undef, undef, undef, undef, undef, undef, undef, undef, undef], defers := [] }) ?assign ?body ?done ?stop
  case assign =>
    intro l x W K hK
    gi_wp2
    exact hK
  case body =>
    rintro l pre x W ⟨hpre, hW⟩ hl8
    have hBx := hW.blk hb1 (fun f => f)
    have hc := (Blk.cell hBx (x.1 * 3 + 2)).trans (cells_hd S x.1 x.2)
    have k0 := (hW.blk hv0 (fun f => f)).cell 0
    have k1 := (hW.blk hr1 (fun f => f)).cell 0
    have k2 := (hW.blk hr2 (fun f => f)).cell 0
    have f2 := (hW.blk hr2 (fun f => f)).frozen 0
    have hzW := hW.size
    have hlW0 : w.heap.size < W.heap.size := by have := hv0.lt; omega
    have hlW1 : w.heap.size + 1 < W.heap.size := by have := hr1.lt; omega
    have hlW2 : w.heap.size + 1 + 1 < W.heap.size := by have := hr2.lt; omega
    have hlWb : b < W.heap.size := Blk.lt hBx
    simp at k0 k1 k2
    have HPRE := Lib.hid hpre
    clear hpre
    cases hx : S.hd x.1
    · rw [hx] at hc
      gi_wp2
      refine ⟨trivial, ?_⟩
      gi_wp2
      refine ⟨KeepsFrom.refl _ _, KeptX.refl _ _, ?_, hW⟩
      intro j hj
      rcases List.mem_append.1 hj with h | h
      · exact HPRE.out j h
      · rw [List.mem_singleton.1 h, hx]; intro h; cases h
    · rw [hx] at hc
      by_cases hid : idOf S x.1 = id
      · have hid' : (idOf S x.1 == id) = true := by simp [hid]
        have HI := Lib.hid hid
        clear hid
        gi_wp2_with (refine ⟨trivial, ?_⟩; gi_at_call 43; refine (CallsIn.inRound l (callsIn_wide.2 (isOf_one _ _ _ _ (Blk.new _ _ _ _ rfl)))).mono ?_; rintro e w' ⟨rfl, rfl⟩)

        refine ⟨trivial, ?_⟩
        refine (CallsIn.inRound l (callsIn_wide.2 (get1_any b x.1 Bo S o _ x.2 hV (Blk.alloc hBx _) ((hW.blk (hGw.blk ho (fun f => f)) (fun f => f)).alloc _) hne))).mono ?_
        rintro e W2 ⟨rfl, hG2, hE⟩
        have j2 : W2.cell? ⟨w.heap.size + 1 + 1, 0, none⟩ = some (.int .i64 100) := (hG2.cell (p := ⟨w.heap.size + 1 + 1, 0, none⟩) (by dsimp only; simp; omega) (by dsimp only; omega)).trans (by simp [go_sem, k2, hlW2])
        have g2 : W2.frozen? ⟨w.heap.size + 1 + 1, 0, none⟩ = false := (hG2.frozen (p := ⟨w.heap.size + 1 + 1, 0, none⟩) (by dsimp only; simp; omega) (by dsimp only; omega)).trans (by simp [go_sem, f2, hlW2])
        have hr2W : Blk W2 (w.heap.size + 1 + 1) 25 #[.int .i64 100] := hG2.blk ((hW.blk hr2 (fun f => f)).alloc _) (by omega)
        have hG3 := (hW.alloc (.cells #[.int .i64 (idOf S x.1)] 3)).no'.trans (Y := fun k => k = Bo) (X := fun k => (k = Bo) ∨ w.heap.size ≤ k) hG2 (fun _ _ h => .inl h)
        have hK2 : KeepsFrom w1.heap.size W W2 := ((KeepsOthers.alloc W (.cells #[.int .i64 (idOf S x.1)] 3)).from _).trans (keepsFrom_of_gr' hG2 (fun k hk => by omega))
        gi_wp2
        refine ⟨hK2.trans ((KeepsOthers.setCell _ _ _).from _), rfl, ⟨x, ⟨pre, rfl, HPRE.out, hx, HI.out⟩, hE.far (p := ⟨w.heap.size + 1 + 1, 0, none⟩) (by dsimp only; omega) _⟩, by simpa using hr2W.set_ 0 (.int .i64 0), hG3.setCell (p := ⟨w.heap.size + 1 + 1, 0, none⟩) (X := fun k => (k = Bo) ∨ w.heap.size ≤ k) (.inl (.inr (by dsimp only; omega))) _⟩
      · have hid' : (idOf S x.1 == id) = false := by simp [hid]
        have HI := Lib.hid hid
        clear hid
        gi_wp2_with (refine ⟨trivial, ?_⟩; gi_at_call 43; refine (CallsIn.inRound l (callsIn_wide.2 (isOf_one _ _ _ _ (Blk.new _ _ _ _ rfl)))).mono ?_; rintro e w' ⟨rfl, rfl⟩)
        refine ⟨(KeepsOthers.alloc _ _).from _, KeptX.of_gr (Gr.a1 _ _).no', ?_, hW.alloc _⟩
        intro j hj
        rcases List.mem_append.1 hj with h | h
        · exact HPRE.out j h
        · rw [List.mem_singleton.1 h]; exact fun _ => HI.out
  case done =>
    rintro D ys W hD hys ⟨hpre, hW⟩ hK
    have k2 := (hW.blk hr2 (fun f => f)).cell 0
    simp at k2
    have HP := Lib.hid hpre
    have HY := Lib.hid hys
    clear hpre hys
    gi_wp2
    rw [Exit.noGoto_ret]
    gi_wp2
    refine ⟨by simp, .inl ⟨_, _, rfl, run_takeDeferred hK, ?_⟩⟩
    refine ⟨_, results_tmp rfl _ _ _, .inl ⟨rfl, ?_, ?_⟩⟩
    · intro j hj
      have : j ∈ ys.map Fin.val := by rw [HY.out]; simpa using hj
      obtain ⟨y, hy, rfl⟩ := List.mem_map.1 this
      exact HP.out y hy
    · exact Gr.put (hGw.next hW) _ (by omega)
  case stop =>
    rintro D c pre W hD ⟨i, hi, hpi⟩ ⟨rfl, ⟨x, hx, hBx⟩, hR2, hW⟩ hK
    have k2 := hR2.cell 0
    simp at k2
    have HPI := Lib.hid hpi
    clear hpi
    gi_wp2
    rw [Exit.noGoto_ret]
    gi_wp2
    obtain ⟨hxi, h1, h2⟩ := met_at hx HPI.out
    rw [hxi] at hBx
    refine ⟨by simp, .inl ⟨_, _, rfl, run_takeDeferred hK, ?_⟩⟩
    refine ⟨_, results_tmp rfl _ _ _, .inr ⟨i, hi, h1, h2, rfl, ?_, hBx.put _ hK rfl⟩⟩
    refine Gr.put ?_ _ (by omega)
    exact hGw.no'.trans hW (fun j hj h => by rcases h with h | h; exact h; omega)

set_option maxRecDepth 100000 in
set_option maxHeartbeats 1000000 in
theorem with_set (b : Nat) (S : St) (hS : S.ok) (hV : SVals S) (id : Int) (Bo : Nat) (n : ByteArray) (w : World) (hb : Sl 70 w b S) (ho : Blk w Bo 9 #[.string n]) (hne : Bo ≠ b) :
    Calls Try.prog 38 #[.pointer (some ⟨b, 0, none⟩), .int .i64 id, .func (.func 39) #[] #[.pointer (some ⟨Bo, 0, none⟩)]] w fun e w' =>
      (e = .returned (.int .i64 100) ∧ (∀ j, j < 8 → S.hd j = true → idOf S j ≠ id) ∧ Same w w') ∨
      (∃ i, i < 8 ∧ S.hd i = true ∧ idOf S i = id ∧ e = .returned (.int .i64 0) ∧ Gr w w' (fun k => k = b) ∧ Sl 70 w' b (S.setV i (.string n))) := by
  have hlt := Blk.lt hb
  have hlo := ho.lt
  refine (callsIn_wide (n := 9)).1 ?_
  refine callsIn_of_wp_marks Try.func38 rfl trivial ?_ rfl
  simp only [Try.ntmps38, List.size_toArray, List.length_cons, List.length_nil, Nat.reduceAdd, Nat.reduceSub, Array.replicate_succ, Array.replicate_zero, List.push_toArray, List.append_toArray, List.nil_append, List.cons_append]
  gi_wp2
  refine wpIn_scope ?_
  gi_wp2
  first | refine wpIn_label_seq ?_ | refine wpIn_label ?_
  gi_wp2_with (refine ⟨trivial, ?_⟩; gi_at_call 37; refine (callsIn_wide.2 (all_any _ _)).mono ?_; rintro e w1 ⟨rfl, hG, hBs⟩)
  have hv0 : Blk w1 w.heap.size 3 #[.int .i64 id] := hG.blk (((Blk.new _ _ _ _ rfl).alloc _).alloc _) (fun f => f)
  have hr1 : Blk w1 (w.heap.size + 1) 76 #[.func (.func 39) #[] #[.pointer (some ⟨Bo, 0, none⟩)]] := hG.blk ((Blk.new _ _ _ _ (by simp)).alloc _) (fun f => f)
  have hr2 : Blk w1 (w.heap.size + 1 + 1) 25 #[.int .i64 100] := hG.blk (Blk.new _ _ _ _ (by simp)) (fun f => f)
  have hGw : Same w w1 := (Gr.a3 _ _ _ _).next hG
  have hb1 : Sl 70 w1 b S := hGw.blk hb (fun f => f)
  have hsz := hGw.size
  have hBs' : Blk w1 (w.heap.size + 1 + 1 + 1) 46 #[.pointer (some ⟨b, 0, none⟩)] := by simpa using hBs
  clear hBs
  refine wpIn_rangeFunc_ownG rfl (by omega) (gf := 44) (lb := #[.pointer (some ⟨w.heap.size + 1 + 1 + 1, 0, none⟩)]) rfl trivial (enters_of Try.func44 (by kernel_rfl) rfl)
    (all_stops _ b _ (by omega) S hS (fun _ => False) _ hb1 hBs' (fun f => f) (fun f => f)) keptX_t keptX_b (Below.refl _ _) (fun _ => rfl)
    (fun pre W => (∀ j ∈ pre, S.hd j.1 = true → idOf S j.1 ≠ id) ∧ Same w1 W)
    (fun c pre W => c = .exit 0 ∧ (∃ x : Fin 8, Met S id pre x ∧ Sl 70 W b (S.setV x.1 (.string n))) ∧ Blk W (w.heap.size + 1 + 1) 25 #[.int .i64 0] ∧ Gr w1 W (fun k => (k = b) ∨ w.heap.size ≤ k))
    (OwnFrom.and (ownFrom_pure _ _) (ownFrom_gr _ (Nat.le_refl _)))
    (fun c => OwnFrom.and (ownFrom_pure _ _) (OwnFrom.and (ownFrom_ex fun x => OwnFrom.and (ownFrom_pure _ _) (ownFrom_blk _ _ _)) (OwnFrom.and (ownFrom_blk _ _ _) (ownFrom_gr _ (Nat.le_refl _)))))
    ⟨by simp, Gr.refl _ _⟩
    (fun x => { tmps := #[.pointer (some ⟨b, 0, none⟩), .int .i64 id, .func (.func 39) #[] #[.pointer (some ⟨Bo, 0, none⟩)], undef, .pointer (some ⟨w.heap.size, 0, none⟩), .pointer (some ⟨w.heap.size + 1, 0, none⟩), .int .i64 0, .pointer (some ⟨w.heap.size + 1 + 1, 0, none⟩), .int .i64 (idOf S x.1), .pointer (some ⟨b, x.1 * 3, none⟩), .pointer (some ⟨b, 0, none⟩), .bool false, .pointer (some ⟨b, 0, none⟩), .func (Fn.func 44) #[] #[.pointer (some ⟨w.heap.size + 1 + 1 + 1, 0, none⟩)], .int .i64 (idOf S x.1), .pointer (some ⟨b, x.1 * 3, none⟩), undef, undef, undef, undef, undef, undef, undef, undef, undef, undef, undef, undef, undef, undef], defers := [] }) ?assign ?body ?done ?stop
  case assign =>
    intro l x W K hK
    gi_wp2
    exact hK
  case body =>
    rintro l pre x W ⟨hpre, hW⟩ hl8
    have hBx := hW.blk hb1 (fun f => f)
    have hc := (Blk.cell hBx (x.1 * 3 + 2)).trans (cells_hd S x.1 x.2)
    have k0 := (hW.blk hv0 (fun f => f)).cell 0
    have k1 := (hW.blk hr1 (fun f => f)).cell 0
    have k2 := (hW.blk hr2 (fun f => f)).cell 0
    have f2 := (hW.blk hr2 (fun f => f)).frozen 0
    have hzW := hW.size
    have hlW0 : w.heap.size < W.heap.size := by have := hv0.lt; omega
    have hlW1 : w.heap.size + 1 < W.heap.size := by have := hr1.lt; omega
    have hlW2 : w.heap.size + 1 + 1 < W.heap.size := by have := hr2.lt; omega
    have hlWb : b < W.heap.size := Blk.lt hBx
    simp at k0 k1 k2
    have HPRE := Lib.hid hpre
    clear hpre
    cases hx : S.hd x.1
    · rw [hx] at hc
      gi_wp2
      refine ⟨trivial, ?_⟩
      gi_wp2
      refine ⟨KeepsFrom.refl _ _, KeptX.refl _ _, ?_, hW⟩
      intro j hj
      rcases List.mem_append.1 hj with h | h
      · exact HPRE.out j h
      · rw [List.mem_singleton.1 h, hx]; intro h; cases h
    · rw [hx] at hc
      by_cases hid : idOf S x.1 = id
      · have hid' : (idOf S x.1 == id) = true := by simp [hid]
        have HI := Lib.hid hid
        clear hid
        gi_wp2_with (refine ⟨trivial, ?_⟩; gi_at_call 43; refine (CallsIn.inRound l (callsIn_wide.2 (isOf_one _ _ _ _ (Blk.new _ _ _ _ rfl)))).mono ?_; rintro e w' ⟨rfl, rfl⟩)

        refine ⟨trivial, ?_⟩
        refine (CallsIn.inRound l (callsIn_wide.2 (set1_any b x.1 Bo S n _ x.2 (Blk.alloc hBx _) ((hW.blk (hGw.blk ho (fun f => f)) (fun f => f)).alloc _)))).mono ?_
        rintro e W2 ⟨rfl, hG2, hE⟩
        have j2 : W2.cell? ⟨w.heap.size + 1 + 1, 0, none⟩ = some (.int .i64 100) := (hG2.cell (p := ⟨w.heap.size + 1 + 1, 0, none⟩) (by dsimp only; simp; omega) (by dsimp only; omega)).trans (by simp [go_sem, k2, hlW2])
        have g2 : W2.frozen? ⟨w.heap.size + 1 + 1, 0, none⟩ = false := (hG2.frozen (p := ⟨w.heap.size + 1 + 1, 0, none⟩) (by dsimp only; simp; omega) (by dsimp only; omega)).trans (by simp [go_sem, f2, hlW2])
        have hr2W : Blk W2 (w.heap.size + 1 + 1) 25 #[.int .i64 100] := hG2.blk ((hW.blk hr2 (fun f => f)).alloc _) (by omega)
        have hG3 := (hW.alloc (.cells #[.int .i64 (idOf S x.1)] 3)).no'.trans (Y := fun k => k = b) (X := fun k => (k = b) ∨ w.heap.size ≤ k) hG2 (fun _ _ h => .inl h)
        have hK2 : KeepsFrom w1.heap.size W W2 := ((KeepsOthers.alloc W (.cells #[.int .i64 (idOf S x.1)] 3)).from _).trans (keepsFrom_of_gr' hG2 (fun k hk => by omega))
        gi_wp2
        refine ⟨hK2.trans ((KeepsOthers.setCell _ _ _).from _), rfl, ⟨x, ⟨pre, rfl, HPRE.out, hx, HI.out⟩, Blk.far hE (p := ⟨w.heap.size + 1 + 1, 0, none⟩) (by dsimp only; omega) _⟩, by simpa using hr2W.set_ 0 (.int .i64 0), hG3.setCell (p := ⟨w.heap.size + 1 + 1, 0, none⟩) (X := fun k => (k = b) ∨ w.heap.size ≤ k) (.inl (.inr (by dsimp only; omega))) _⟩
      · have hid' : (idOf S x.1 == id) = false := by simp [hid]
        have HI := Lib.hid hid
        clear hid
        gi_wp2_with (refine ⟨trivial, ?_⟩; gi_at_call 43; refine (CallsIn.inRound l (callsIn_wide.2 (isOf_one _ _ _ _ (Blk.new _ _ _ _ rfl)))).mono ?_; rintro e w' ⟨rfl, rfl⟩)
        refine ⟨(KeepsOthers.alloc _ _).from _, KeptX.of_gr (Gr.a1 _ _).no', ?_, hW.alloc _⟩
        intro j hj
        rcases List.mem_append.1 hj with h | h
        · exact HPRE.out j h
        · rw [List.mem_singleton.1 h]; exact fun _ => HI.out
  case done =>
    rintro D ys W hD hys ⟨hpre, hW⟩ hK
    have k2 := (hW.blk hr2 (fun f => f)).cell 0
    simp at k2
    have HP := Lib.hid hpre
    have HY := Lib.hid hys
    clear hpre hys
    gi_wp2
    rw [Exit.noGoto_ret]
    gi_wp2
    refine ⟨by simp, .inl ⟨_, _, rfl, run_takeDeferred hK, ?_⟩⟩
    refine ⟨_, results_tmp rfl _ _ _, .inl ⟨rfl, ?_, ?_⟩⟩
    · intro j hj
      have : j ∈ ys.map Fin.val := by rw [HY.out]; simpa using hj
      obtain ⟨y, hy, rfl⟩ := List.mem_map.1 this
      exact HP.out y hy
    · exact Gr.put (hGw.next hW) _ (by omega)
  case stop =>
    rintro D c pre W hD ⟨i, hi, hpi⟩ ⟨rfl, ⟨x, hx, hBx⟩, hR2, hW⟩ hK
    have k2 := hR2.cell 0
    simp at k2
    have HPI := Lib.hid hpi
    clear hpi
    gi_wp2
    rw [Exit.noGoto_ret]
    gi_wp2
    obtain ⟨hxi, h1, h2⟩ := met_at hx HPI.out
    rw [hxi] at hBx
    refine ⟨by simp, .inl ⟨_, _, rfl, run_takeDeferred hK, ?_⟩⟩
    refine ⟨_, results_tmp rfl _ _ _, .inr ⟨i, hi, h1, h2, rfl, ?_, Blk.put hBx _ hK rfl⟩⟩
    refine Gr.put ?_ _ (by omega)
    exact hGw.no'.trans hW (fun j hj h => by rcases h with h | h; exact h; omega)

set_option maxRecDepth 100000 in
set_option maxHeartbeats 1000000 in
theorem with_remove (b : Nat) (S : St) (hS : S.ok) (hV : SVals S) (id : Int) (Bo Bz : Nat) (o : Value) (w : World) (hb : Sl 70 w b S) (ho : Blk w Bo 9 #[o]) (hz : Blk w Bz 9 #[.string ByteArray.empty]) (hne : Bo ≠ b) (hne2 : Bo ≠ Bz) (hne3 : Bz ≠ b) :
    Calls Try.prog 38 #[.pointer (some ⟨b, 0, none⟩), .int .i64 id, .func (.func 41) #[] #[.pointer (some ⟨Bz, 0, none⟩), .pointer (some ⟨Bo, 0, none⟩)]] w fun e w' =>
      (e = .returned (.int .i64 100) ∧ (∀ j, j < 8 → S.hd j = true → idOf S j ≠ id) ∧ Same w w') ∨
      (∃ i, i < 8 ∧ S.hd i = true ∧ idOf S i = id ∧ e = .returned (.int .i64 0) ∧ Gr w w' (fun k => k = b ∨ k = Bo) ∧ Blk w' Bo 9 #[S.vv i] ∧ Sl 70 w' b (S.rm i (.string ByteArray.empty))) := by
  have hlt := Blk.lt hb
  have hlo := ho.lt
  have hlz := hz.lt
  refine (callsIn_wide (n := 9)).1 ?_
  refine callsIn_of_wp_marks Try.func38 rfl trivial ?_ rfl
  simp only [Try.ntmps38, List.size_toArray, List.length_cons, List.length_nil, Nat.reduceAdd, Nat.reduceSub, Array.replicate_succ, Array.replicate_zero, List.push_toArray, List.append_toArray, List.nil_append, List.cons_append]
  gi_wp2
  refine wpIn_scope ?_
  gi_wp2
  first | refine wpIn_label_seq ?_ | refine wpIn_label ?_
  gi_wp2_with (refine ⟨trivial, ?_⟩; gi_at_call 37; refine (callsIn_wide.2 (all_any _ _)).mono ?_; rintro e w1 ⟨rfl, hG, hBs⟩)
  have hv0 : Blk w1 w.heap.size 3 #[.int .i64 id] := hG.blk (((Blk.new _ _ _ _ rfl).alloc _).alloc _) (fun f => f)
  have hr1 : Blk w1 (w.heap.size + 1) 76 #[.func (.func 41) #[] #[.pointer (some ⟨Bz, 0, none⟩), .pointer (some ⟨Bo, 0, none⟩)]] := hG.blk ((Blk.new _ _ _ _ (by simp)).alloc _) (fun f => f)
  have hr2 : Blk w1 (w.heap.size + 1 + 1) 25 #[.int .i64 100] := hG.blk (Blk.new _ _ _ _ (by simp)) (fun f => f)
  have hGw : Same w w1 := (Gr.a3 _ _ _ _).next hG
  have hb1 : Sl 70 w1 b S := hGw.blk hb (fun f => f)
  have hsz := hGw.size
  have hBs' : Blk w1 (w.heap.size + 1 + 1 + 1) 46 #[.pointer (some ⟨b, 0, none⟩)] := by simpa using hBs
  clear hBs
  refine wpIn_rangeFunc_ownG rfl (by omega) (gf := 44) (lb := #[.pointer (some ⟨w.heap.size + 1 + 1 + 1, 0, none⟩)]) rfl trivial (enters_of Try.func44 (by kernel_rfl) rfl)
    (all_stops _ b _ (by omega) S hS (fun _ => False) _ hb1 hBs' (fun f => f) (fun f => f)) keptX_t keptX_b (Below.refl _ _) (fun _ => rfl)
    (fun pre W => (∀ j ∈ pre, S.hd j.1 = true → idOf S j.1 ≠ id) ∧ Same w1 W)
    (fun c pre W => c = .exit 0 ∧ (∃ x : Fin 8, Met S id pre x ∧ Blk W Bo 9 #[S.vv x.1] ∧ Sl 70 W b (S.rm x.1 (.string ByteArray.empty))) ∧ Blk W (w.heap.size + 1 + 1) 25 #[.int .i64 0] ∧ Gr w1 W (fun k => (k = b ∨ k = Bo) ∨ w.heap.size ≤ k))
    (OwnFrom.and (ownFrom_pure _ _) (ownFrom_gr _ (Nat.le_refl _)))
    (fun c => OwnFrom.and (ownFrom_pure _ _) (OwnFrom.and (ownFrom_ex fun x => OwnFrom.and (ownFrom_pure _ _) (OwnFrom.and (ownFrom_blk _ _ _) (ownFrom_blk _ _ _))) (OwnFrom.and (ownFrom_blk _ _ _) (ownFrom_gr _ (Nat.le_refl _)))))
    ⟨by simp, Gr.refl _ _⟩
    (fun x => { tmps := #[.pointer (some ⟨b, 0, none⟩), .int .i64 id, .func (.func 41) #[] #[.pointer (some ⟨Bz, 0, none⟩), .pointer (some ⟨Bo, 0, none⟩)], undef, .pointer (some ⟨w.heap.size, 0, none⟩), .pointer (some ⟨w.heap.size + 1, 0, none⟩), .int .i64 0, .pointer (some ⟨w.heap.size + 1 + 1, 0, none⟩), .int .i64 (idOf S x.1), .pointer (some ⟨b, x.1 * 3, none⟩), .pointer (some ⟨b, 0, none⟩), .bool false, .pointer (some ⟨b, 0, none⟩), .func (Fn.func 44) #[] #[.pointer (some ⟨w.heap.size + 1 + 1 + 1, 0, none⟩)], .int .i64 (idOf S x.1), .pointer (some ⟨b, x.1 * 3, none⟩), undef, undef, undef, undef, undef, undef, undef, undef, undef, undef, undef, undef, undef, undef], defers := [] }) ?assign ?body ?done ?stop
  case assign =>
    intro l x W K hK
    gi_wp2
    exact hK
  case body =>
    rintro l pre x W ⟨hpre, hW⟩ hl8
    have hBx := hW.blk hb1 (fun f => f)
    have hc := (Blk.cell hBx (x.1 * 3 + 2)).trans (cells_hd S x.1 x.2)
    have k0 := (hW.blk hv0 (fun f => f)).cell 0
    have k1 := (hW.blk hr1 (fun f => f)).cell 0
    have k2 := (hW.blk hr2 (fun f => f)).cell 0
    have f2 := (hW.blk hr2 (fun f => f)).frozen 0
    have hzW := hW.size
    have hlW0 : w.heap.size < W.heap.size := by have := hv0.lt; omega
    have hlW1 : w.heap.size + 1 < W.heap.size := by have := hr1.lt; omega
    have hlW2 : w.heap.size + 1 + 1 < W.heap.size := by have := hr2.lt; omega
    have hlWb : b < W.heap.size := Blk.lt hBx
    simp at k0 k1 k2
    have HPRE := Lib.hid hpre
    clear hpre
    cases hx : S.hd x.1
    · rw [hx] at hc
      gi_wp2
      refine ⟨trivial, ?_⟩
      gi_wp2
      refine ⟨KeepsFrom.refl _ _, KeptX.refl _ _, ?_, hW⟩
      intro j hj
      rcases List.mem_append.1 hj with h | h
      · exact HPRE.out j h
      · rw [List.mem_singleton.1 h, hx]; intro h; cases h
    · rw [hx] at hc
      by_cases hid : idOf S x.1 = id
      · have hid' : (idOf S x.1 == id) = true := by simp [hid]
        have HI := Lib.hid hid
        clear hid
        gi_wp2_with (refine ⟨trivial, ?_⟩; gi_at_call 43; refine (CallsIn.inRound l (callsIn_wide.2 (isOf_one _ _ _ _ (Blk.new _ _ _ _ rfl)))).mono ?_; rintro e w' ⟨rfl, rfl⟩)

        refine ⟨trivial, ?_⟩
        refine (CallsIn.inRound l (callsIn_wide.2 (remove1_any b x.1 Bo Bz S o _ x.2 hS hV (Blk.alloc hBx _) ((hW.blk (hGw.blk ho (fun f => f)) (fun f => f)).alloc _) ((hW.blk (hGw.blk hz (fun f => f)) (fun f => f)).alloc _) hne hne2 hne3))).mono ?_
        rintro e W2 ⟨rfl, hG2, hE, hE'⟩
        have j2 : W2.cell? ⟨w.heap.size + 1 + 1, 0, none⟩ = some (.int .i64 100) := (hG2.cell (p := ⟨w.heap.size + 1 + 1, 0, none⟩) (by dsimp only; simp; omega) (by dsimp only; omega)).trans (by simp [go_sem, k2, hlW2])
        have g2 : W2.frozen? ⟨w.heap.size + 1 + 1, 0, none⟩ = false := (hG2.frozen (p := ⟨w.heap.size + 1 + 1, 0, none⟩) (by dsimp only; simp; omega) (by dsimp only; omega)).trans (by simp [go_sem, f2, hlW2])
        have hr2W : Blk W2 (w.heap.size + 1 + 1) 25 #[.int .i64 100] := hG2.blk ((hW.blk hr2 (fun f => f)).alloc _) (by omega)
        have hG3 := (hW.alloc (.cells #[.int .i64 (idOf S x.1)] 3)).no'.trans (Y := fun k => k = b ∨ k = Bo) (X := fun k => (k = b ∨ k = Bo) ∨ w.heap.size ≤ k) hG2 (fun _ _ h => .inl h)
        have hK2 : KeepsFrom w1.heap.size W W2 := ((KeepsOthers.alloc W (.cells #[.int .i64 (idOf S x.1)] 3)).from _).trans (keepsFrom_of_gr' hG2 (fun k hk => by omega))
        gi_wp2
        refine ⟨hK2.trans ((KeepsOthers.setCell _ _ _).from _), rfl, ⟨x, ⟨pre, rfl, HPRE.out, hx, HI.out⟩, hE.far (p := ⟨w.heap.size + 1 + 1, 0, none⟩) (by dsimp only; omega) _, Blk.far hE' (p := ⟨w.heap.size + 1 + 1, 0, none⟩) (by dsimp only; omega) _⟩, by simpa using hr2W.set_ 0 (.int .i64 0), hG3.setCell (p := ⟨w.heap.size + 1 + 1, 0, none⟩) (X := fun k => (k = b ∨ k = Bo) ∨ w.heap.size ≤ k) (.inl (.inr (by dsimp only; omega))) _⟩
      · have hid' : (idOf S x.1 == id) = false := by simp [hid]
        have HI := Lib.hid hid
        clear hid
        gi_wp2_with (refine ⟨trivial, ?_⟩; gi_at_call 43; refine (CallsIn.inRound l (callsIn_wide.2 (isOf_one _ _ _ _ (Blk.new _ _ _ _ rfl)))).mono ?_; rintro e w' ⟨rfl, rfl⟩)
        refine ⟨(KeepsOthers.alloc _ _).from _, KeptX.of_gr (Gr.a1 _ _).no', ?_, hW.alloc _⟩
        intro j hj
        rcases List.mem_append.1 hj with h | h
        · exact HPRE.out j h
        · rw [List.mem_singleton.1 h]; exact fun _ => HI.out
  case done =>
    rintro D ys W hD hys ⟨hpre, hW⟩ hK
    have k2 := (hW.blk hr2 (fun f => f)).cell 0
    simp at k2
    have HP := Lib.hid hpre
    have HY := Lib.hid hys
    clear hpre hys
    gi_wp2
    rw [Exit.noGoto_ret]
    gi_wp2
    refine ⟨by simp, .inl ⟨_, _, rfl, run_takeDeferred hK, ?_⟩⟩
    refine ⟨_, results_tmp rfl _ _ _, .inl ⟨rfl, ?_, ?_⟩⟩
    · intro j hj
      have : j ∈ ys.map Fin.val := by rw [HY.out]; simpa using hj
      obtain ⟨y, hy, rfl⟩ := List.mem_map.1 this
      exact HP.out y hy
    · exact Gr.put (hGw.next hW) _ (by omega)
  case stop =>
    rintro D c pre W hD ⟨i, hi, hpi⟩ ⟨rfl, ⟨x, hx, hBx⟩, hR2, hW⟩ hK
    have k2 := hR2.cell 0
    simp at k2
    have HPI := Lib.hid hpi
    clear hpi
    gi_wp2
    rw [Exit.noGoto_ret]
    gi_wp2
    obtain ⟨hxi, h1, h2⟩ := met_at hx HPI.out
    rw [hxi] at hBx
    refine ⟨by simp, .inl ⟨_, _, rfl, run_takeDeferred hK, ?_⟩⟩
    refine ⟨_, results_tmp rfl _ _ _, .inr ⟨i, hi, h1, h2, rfl, ?_, hBx.1.put _ hK rfl, Blk.put hBx.2 _ hK rfl⟩⟩
    refine Gr.put ?_ _ (by omega)
    exact hGw.no'.trans hW (fun j hj h => by rcases h with h | h; exact h; omega)
theorem new_any (w : World) : Calls Try.prog 23 #[] w fun e w' => e = .returned (.pointer (some ⟨w.heap.size, 0, none⟩)) ∧ Same w w' ∧ Sl 70 w' w.heap.size (St.zero (.string ByteArray.empty)) := by
  go_enter Try.func23, Try.ntmps23
  go_wp2
  go_ret
  exact ⟨rfl, Gr.a1 _ _, Blk.new _ _ _ _ rfl⟩

set_option maxHeartbeats 1000000 in
theorem get_any (b : Nat) (S : St) (hS : S.ok) (hV : SVals S) (id : Int) (w : World) (hb : Sl 70 w b S) :
    Calls Try.prog 26 #[.pointer (some ⟨b, 0, none⟩), .int .i64 id] w (GetPost S id (.string ByteArray.empty) w) := by
  have hlt := Blk.lt hb
  have hb1 : ∀ o, Sl 70 (w.alloc o) b S := fun o => Blk.alloc hb o
  go_enter Try.func26, Try.ntmps26
  go_wp2_with fail
  refine (with_get b S hS hV id w.heap.size (.string ByteArray.empty) _ (hb1 _) (Blk.new _ _ _ _ rfl) (by omega)).mono ?_
  rintro e w1 (⟨rfl, hno, hG⟩ | ⟨i, hi, h1, h2, rfl, hG, hB⟩)
  · have c0 := (hG.blk (Blk.new w 9 #[.string ByteArray.empty] _ rfl) (fun f => f)).cell 0
    simp at c0
    have HN := Lib.hid hno
    clear hno
    go_wp2
    go_ret2
    exact ⟨(Gr.a1 _ _).next hG, .inl ⟨rfl, HN.out⟩⟩
  · obtain ⟨n, hn⟩ := hV i hi
    have c0 := hB.cell 0
    rw [hn] at c0
    simp at c0
    have HN := Lib.hid hn
    have H2 := Lib.hid h2
    have H1 := Lib.hid h1
    clear hn hB h2 h1
    go_wp2
    go_ret2
    refine ⟨(gr_of_new hG), .inr ⟨i, hi, H1.out, H2.out, by rw [HN.out]; rfl⟩⟩

set_option maxHeartbeats 1000000 in
theorem set_any (b : Nat) (S : St) (hS : S.ok) (hV : SVals S) (id : Int) (n : ByteArray) (w : World) (hb : Sl 70 w b S) :
    Calls Try.prog 25 #[.pointer (some ⟨b, 0, none⟩), .int .i64 id, .string n] w (SetPost 70 b S id (.string n) w) := by
  have hlt := Blk.lt hb
  have hb1 : ∀ o, Sl 70 (w.alloc o) b S := fun o => Blk.alloc hb o
  go_enter Try.func25, Try.ntmps25
  go_wp2_with fail
  refine (with_set b S hS hV id w.heap.size n _ (hb1 _) (Blk.new _ _ _ _ rfl) (by omega)).mono ?_
  rintro e w1 (⟨rfl, hno, hG⟩ | ⟨i, hi, h1, h2, rfl, hG, hB⟩)
  · have HN := Lib.hid hno
    clear hno
    go_wp2
    go_ret
    exact .inl ⟨rfl, HN.out, (Gr.a1 _ _).next hG⟩
  · have H2 := Lib.hid h2
    have H1 := Lib.hid h1
    clear h2 h1
    go_wp2
    go_ret
    exact .inr ⟨i, hi, H1.out, H2.out, rfl, (Gr.a1 _ _).no.trans hG (fun _ _ h => h), hB⟩

set_option maxHeartbeats 1000000 in
theorem remove_any (b : Nat) (S : St) (hS : S.ok) (hV : SVals S) (id : Int) (w : World) (hb : Sl 70 w b S) :
    Calls Try.prog 27 #[.pointer (some ⟨b, 0, none⟩), .int .i64 id] w (RemovePost 70 b S id (.string ByteArray.empty) w) := by
  have hlt := Blk.lt hb
  have hb1 : ∀ o o', Sl 70 ((w.alloc o).alloc o') b S := fun o o' => Blk.alloc (Blk.alloc hb o) o'
  go_enter Try.func27, Try.ntmps27
  go_wp2_with fail
  refine (with_remove b S hS hV id w.heap.size (w.heap.size + 1) (.string ByteArray.empty) _ (hb1 _ _) ((Blk.new _ _ _ _ rfl).alloc _) (Blk.new _ _ _ _ (by simp)) (by omega) (by omega) (by omega)).mono ?_
  rintro e w1 (⟨rfl, hno, hG⟩ | ⟨i, hi, h1, h2, rfl, hG, hB, hB'⟩)
  · have c0 := (hG.blk ((Blk.new w 9 #[.string ByteArray.empty] _ rfl).alloc _) (fun f => f)).cell 0
    simp at c0
    have HN := Lib.hid hno
    clear hno
    go_wp2
    go_ret2
    exact .inl ⟨rfl, HN.out, (Gr.a2 _ _ _).next hG⟩
  · obtain ⟨n, hn⟩ := hV i hi
    have c0 := hB.cell 0
    rw [hn] at c0
    simp at c0
    have HN := Lib.hid hn
    have H2 := Lib.hid h2
    have H1 := Lib.hid h1
    clear hn hB h2 h1
    go_wp2
    go_ret2
    exact .inr ⟨i, hi, H1.out, H2.out, by rw [HN.out]; rfl, (Gr.a2 _ _ _).no.trans hG (fun j hj h => by rcases h with h | h; exact h; omega), hB'⟩

end Go.Proofs.Str
