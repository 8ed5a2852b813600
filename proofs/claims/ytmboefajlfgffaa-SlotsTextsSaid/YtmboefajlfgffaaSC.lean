/- Slots of texts: Ids. -/
import Derived.Test.YtmboefajlfgffaaSB
import Derived.Test.YtmboefajlfgffaaY
set_option linter.unusedVariables false
set_option linter.unusedSimpArgs false
namespace Go.Proofs.Str
open Go.RowKit Go.Shelf
attribute [local go_sem] Oper.semAt_some

set_option maxRecDepth 100000 in
set_option maxHeartbeats 2000000 in
theorem ids_any (b : Nat) (S : St) (hS : S.ok) (w : World) (hb : Sl 70 w b S) :
    Calls Try.prog 28 #[.pointer (some ⟨b, 0, none⟩)] w fun e w' => ∃ v, e = .returned v ∧ w'.ownsRow w.heap.size 3 1 v S.ids.length (Ints S.ids) ∧ Same w w' := by
  have hlt := Blk.lt hb
  obtain ⟨i0, hi, hz0, hz1, hz2⟩ := info_parts info3
  refine (callsIn_wide (n := 9)).1 ?_
  refine callsIn_of_wp_marks Try.func28 rfl trivial ?_ rfl
  simp only [Try.ntmps28, List.size_toArray, List.length_cons, List.length_nil, Nat.reduceAdd, Nat.reduceSub, Array.replicate_succ, Array.replicate_zero, List.push_toArray, List.append_toArray, List.nil_append, List.cons_append]
  gi_wp2_with (refine ⟨trivial, ?_⟩; gi_at_call 37; refine (callsIn_wide.2 (all_any _ _)).mono ?_; rintro e w1 ⟨rfl, hG, hBs⟩)
  have hr0 : Blk w1 w.heap.size 29 #[.slice none 0 0] := hG.blk (Blk.new _ _ _ _ rfl) (fun f => f)
  have hGw : Same w w1 := (Gr.a1 _ _).next hG
  have hb1 : Sl 70 w1 b S := hGw.blk hb (fun f => f)
  have hsz := hGw.size
  have hBs' : Blk w1 (w.heap.size + 1) 46 #[.pointer (some ⟨b, 0, none⟩)] := by simpa using hBs
  have hlB := hBs'.lt
  clear hBs
  refine wpIn_rangeFunc_ownG rfl (by omega) (gf := 44) (lb := #[.pointer (some ⟨w.heap.size + 1, 0, none⟩)]) rfl trivial (enters_of Try.func44 (by kernel_rfl) rfl)
    (all_stops _ b _ (by omega) S hS (fun k => k = w.heap.size ∨ w1.heap.size ≤ k) _ hb1 hBs' (by have := Blk.lt hb1; omega) (by omega)) keptX_t keptX_b (Below.refl _ _) (fun _ => rfl)
    (fun pre W => (∃ v, Blk W w.heap.size 29 #[v] ∧ W.ownsRow w1.heap.size 3 1 v (idsOf S (pre.map Fin.val)).length (Ints (idsOf S (pre.map Fin.val)))) ∧ Gr w1 W (fun k => k = w.heap.size))
    (fun _ _ _ => False)
    (OwnFrom.and (ownFrom_ex fun v => OwnFrom.and (ownFrom_blk _ _ _) (ownFrom_row _ _ _ _ _)) (ownFrom_gr _ (Nat.le_refl _)))
    (fun _ => ownFrom_no)
    ⟨⟨_, hr0, World.ownsRow_nil _ _ _ _⟩, Gr.refl _ _⟩
    (fun x => { tmps := #[.pointer (some ⟨b, 0, none⟩), undef, .slice none 0 0, .pointer (some ⟨w.heap.size, 0, none⟩), .int .i64 (idOf S x.1), .pointer (some ⟨b, x.1 * 3, none⟩), .pointer (some ⟨b, 0, none⟩), .bool false, .pointer (some ⟨b, 0, none⟩), .func (Fn.func 44) #[] #[.pointer (some ⟨w.heap.size + 1, 0, none⟩)], .int .i64 (idOf S x.1), .pointer (some ⟨b, x.1 * 3, none⟩), undef, undef, undef, undef, undef, undef, undef, undef, undef], defers := [] }) ?assign ?body ?done ?stop
  case assign =>
    intro l x W K hK
    gi_wp2
    exact hK
  case body =>
    rintro l pre x W ⟨⟨v, hv, hrow⟩, hW⟩ hl8
    have hBx := hW.blk hb1 (by have := Blk.lt hb1; omega)
    have hc := (Blk.cell hBx (x.1 * 3 + 2)).trans (cells_hd S x.1 x.2)
    have hcv := hv.cell 0
    have hle := ids_le S (pre.map Fin.val)
    simp at hcv hle
    have hzW := hW.size
    cases hx : S.hd x.1
    · rw [hx] at hc
      have HE : Hid (idsOf S ((pre ++ [x]).map Fin.val) = idsOf S (pre.map Fin.val)) := by rw [List.map_append]; exact ids_miss _ _ _ hx
      have HV := Lib.hid hv
      clear hx hv
      gi_wp2
      exact ⟨KeepsFrom.refl _ _, KeptX.refl _ _, ⟨v, HV.out, by rw [HE.out]; exact hrow⟩, hW⟩
    · rw [hx] at hc
      have HE : Hid (idsOf S ((pre ++ [x]).map Fin.val) = idsOf S (pre.map Fin.val) ++ [idOf S x.1]) := by rw [List.map_append]; exact ids_hit _ _ _ hx
      have HV := Lib.hid hv
      clear hx hv
      gi_wp2_with (gi_at_builtin; refine wpListIn_append_own _ rfl _ _ 29 rfl w1.heap.size 3 i0 (.int .i64 0) 1 8 Try.underlying29 hi hz0 hz1 hz2 rfl (by decide) _ _ _ rfl (hrow.alloc _) ⟨W.heap.size, 0, none⟩ 1 1 [.int .i64 (idOf S x.1)] rfl rfl (cell_one_new _ _ _) (by simp [Value.oneCell']) (by unfold maxLen; omega) (by omega) (by simp; omega) ?_; intro v' w2 hown' hgrow _; obtain ⟨g', cap', rfl⟩ := ownsRow_succ hown'; obtain ⟨hv1, hv2, hr2, hg2, hk2⟩ := appended2 HV.out hrow hzW (by omega) hown' hgrow; have hc1 := hv1.cell 0; have hf1 := hv1.frozen 0; simp at hc1)
      refine ⟨hk2.from _, KeptX.of_gr hg2, ⟨_, hv2, ?_⟩, hW.trans hg2 (fun j hj h => by rcases h with h | h; exact h; omega)⟩
      rw [HE.out]
      simpa [Ints] using hr2
  case done =>
    rintro D ys W hD hys ⟨⟨v, hv, hrow⟩, hW⟩ hK
    have hcv := hv.cell 0
    simp at hcv
    rw [hys] at hrow
    clear hv hys
    gi_wp2
    refine ⟨by simp, .inl ⟨_, _, rfl, run_takeDeferred hK, ?_⟩⟩
    refine ⟨_, results_tmp rfl _ _ _, v, rfl, ?_, ?_⟩
    · exact own_low (ownsRow_putObj hrow _ hK rfl) (by omega)
    · exact (Gr.put (hGw.no.trans hW (fun j hj h => h)) _ (by omega)).mono (fun j hj h => by omega)
  case stop =>
    rintro D c pre W _ _ h _
    exact h.elim
end Go.Proofs.Str
