/- Bits. -/
import Derived.Test.YthijminlalddcaaGreatDoorCB
set_option linter.unusedVariables false
set_option linter.unusedSimpArgs false
namespace Go.Proofs
open Go.RowKit Go.Shelf
attribute [local go_sem] Oper.semAt_some

theorem bcell {W w1 : World} (hb : Below W.heap.size W w1) : (∀ b o, b < W.heap.size → w1.cell? ⟨b, o, none⟩ = W.cell? ⟨b, o, none⟩) ∧ (∀ b o, b < W.heap.size → w1.frozen? ⟨b, o, none⟩ = W.frozen? ⟨b, o, none⟩) :=
  ⟨fun b o h => hb.cell (p := ⟨b, o, none⟩) h, fun b o h => hb.frozen (p := ⟨b, o, none⟩) h⟩

theorem below_next {W w1 w2 : World} (h1 : Below W.heap.size W w1) (h2 : Below w1.heap.size w1 w2) : Below W.heap.size W w2 := h1.trans (h2.mono h1.size)

theorem below_a3 (w : World) (a b c : Obj) : Below w.heap.size w (((w.alloc a).alloc b).alloc c) := (below_two w a b).alloc (by simp; omega) _

set_option maxHeartbeats 1000000 in
theorem bits_no (u g pu pg pcu pcg m : Int) (w : World) (h : ¬ (areB [u, g] = true ∧ permB pu pg pcu pcg m = true)) :
    Calls Tryz.prog 40 #[.agg #[.int .i64 u, .int .i64 g], .agg #[.int .i64 pu, .int .i64 pg, .int .i64 pcu, .int .i64 pcg, .int .i64 m]] w fun e w' =>
      e = .returned (.int .i64 0) ∧ Below w.heap.size w w' := by
  by_cases h1 : areB [u, g] = true
  · have h2 : permB pu pg pcu pcg m = false := by simpa [h1] using h
    clear h
    go_enter Tryz.func40, Tryz.ntmps40
    go_wp2_with first
      | (go_at_call 37; refine (right_any _ _ _).mono ?_; rintro e w1 ⟨rfl, hb1⟩; obtain ⟨hc1, hf1⟩ := bcell hb1)
      | (go_at_call 61; refine (rightPerm_any _ _ _ _ _ _).mono ?_; rintro e w2 ⟨rfl, hb2⟩; have hb := below_next hb1 hb2; clear hc1 hf1 hb2; obtain ⟨hc2, hf2⟩ := bcell hb)
    go_ret
    exact ⟨rfl, (below_a3 _ _ _ _).trans (hb.mono (by simp; omega))⟩
  · have h2 : areB [u, g] = false := by simpa using h1
    clear h h1
    go_enter Tryz.func40, Tryz.ntmps40
    go_wp2_with (go_at_call 37; refine (right_any _ _ _).mono ?_; rintro e w1 ⟨rfl, hb1⟩; obtain ⟨hc1, hf1⟩ := bcell hb1)
    go_ret
    exact ⟨rfl, (below_a3 _ _ _ _).trans (hb1.mono (by simp; omega))⟩

set_option maxHeartbeats 1000000 in
theorem bits_root (g pu pg pcu pcg m : Int) (w : World) (h1 : areB [0, g] = true) (h2 : permB pu pg pcu pcg m = true) :
    Calls Tryz.prog 40 #[.agg #[.int .i64 0, .int .i64 g], .agg #[.int .i64 pu, .int .i64 pg, .int .i64 pcu, .int .i64 pcg, .int .i64 m]] w fun e w' =>
      e = .returned (.int .i64 7) ∧ Below w.heap.size w w' := by
  go_enter Tryz.func40, Tryz.ntmps40
  go_wp2_with first
    | (go_at_call 37; refine (right_any _ _ _).mono ?_; rintro e w1 ⟨rfl, hb1⟩; obtain ⟨hc1, hf1⟩ := bcell hb1)
    | (go_at_call 61; refine (rightPerm_any _ _ _ _ _ _).mono ?_; rintro e w2 ⟨rfl, hb2⟩; have hb := below_next hb1 hb2; clear hc1 hf1 hb2; obtain ⟨hc2, hf2⟩ := bcell hb)
  go_ret
  exact ⟨rfl, ((below_a3 _ _ _ _).trans (hb.mono (by simp; omega))).setCell (by simp; omega) _⟩

def whoB (a b : Bool) : Nat := if a then 0 else if b then 1 else 2
theorem who_eq {a b : Bool} {i x : Nat} {q : List Nat} (hi : i < 3) (hq : List.range (i + 1) = q ++ [x]) (hf : ∀ j ∈ q, th a b j = false) (hx : th a b x = true) : x = whoB a b := by
  rw [List.range_succ] at hq
  obtain ⟨rfl, h2⟩ := List.append_inj' hq rfl
  obtain rfl : i = x := by simpa using h2
  have h3 : i = 0 ∨ i = 1 ∨ i = 2 := by omega
  rcases h3 with rfl | rfl | rfl
  · simp [th] at hx; simp [whoB, hx]
  · have := hf 0 (by simp); simp [th] at hx this; simp [whoB, hx, this]
  · have := hf 0 (by simp); have h1 := hf 1 (by simp); simp [th] at h1 this; simp [whoB, h1, this]

set_option maxRecDepth 100000 in
set_option maxHeartbeats 1000000 in
theorem bits_yes (u g pu pg pcu pcg m : Int) (w : World) (hm0 : 0 ≤ m) (hm1 : m ≤ 511) (hu : (u == 0) = false) (h1 : areB [u, g] = true) (h2 : permB pu pg pcu pcg m = true) :
    Calls Tryz.prog 40 #[.agg #[.int .i64 u, .int .i64 g], .agg #[.int .i64 pu, .int .i64 pg, .int .i64 pcu, .int .i64 pcg, .int .i64 m]] w fun e w' =>
      e = .returned (.int .i64 (dig m (whoB (u == pu || u == pcu) (g == pg || g == pcg)))) ∧ Below w.heap.size w w' := by
  refine (callsIn_wide (n := 9)).1 ?_
  refine callsIn_of_wp_marks Tryz.func40 rfl trivial ?_ rfl
  simp only [Tryz.ntmps40, List.size_toArray, List.length_cons, List.length_nil, Nat.reduceAdd, Nat.reduceSub, Array.replicate_succ, Array.replicate_zero, List.push_toArray, List.append_toArray, List.nil_append, List.cons_append]
  gi_wp2_with first
    | (refine ⟨trivial, ?_⟩; gi_at_call 37; refine (callsIn_wide.2 (right_any _ _ _)).mono ?_; rintro e w1 ⟨rfl, hb1⟩; obtain ⟨hc1, hf1⟩ := bcell hb1)
    | (refine ⟨trivial, ?_⟩; gi_at_call 61; refine (callsIn_wide.2 (rightPerm_any _ _ _ _ _ _)).mono ?_; rintro e w2 ⟨rfl, hb2⟩; have hb := below_next hb1 hb2; clear hc1 hf1 hb2; obtain ⟨hc2, hf2⟩ := bcell hb)
    | (refine ⟨trivial, ?_⟩; gi_at_call 67; refine (callsIn_wide.2 (digits_any _ _ _ _ _ _ _ _)).mono ?_; rintro e w3 ⟨rfl, rfl⟩)
  refine wpIn_scope (wpIn_label_seq ?_)
  gi_wp2_with (refine ⟨trivial, ?_⟩; gi_at_call 67; refine (callsIn_wide.2 (digits_any _ _ _ _ _ _ _ _)).mono ?_; rintro e w3 ⟨rfl, hG3, hB3, hP3⟩)
  obtain ⟨a, ha⟩ : ∃ a, a = (u == pu || u == pcu) := ⟨_, rfl⟩
  obtain ⟨b, hb'⟩ : ∃ b, b = (g == pg || g == pcg) := ⟨_, rfl⟩
  have HA := Lib.hid ha
  have HB := Lib.hid hb'
  clear ha hb'
  have hz : w.heap.size + 3 ≤ w2.heap.size := by have := hb.size; simp at this; omega
  have hB0 : Blk w2 (w.heap.size + 1 + 1) 3 #[.int .i64 0] := (Blk.new _ _ _ _ (by simp)).below hb (by simp)
  have hBw : Below w.heap.size w w2 := (below_a3 _ _ _ _).trans (hb.mono (by simp; omega))
  have hG : Same w w3 := (Gr.of_below hBw _).trans hG3 (fun _ _ f => f)
  have hB1 := hG3.blk hB0 (fun f => f)
  have hsz := hG3.size
  clear hc2 hf2 hb hb1 hBw hB0
  refine wpIn_rangeFunc_ownG rfl (by omega) (gf := 86) (lb := #[.pointer (some ⟨w2.heap.size, 0, none⟩), .pointer (some ⟨w2.heap.size + 1, 0, none⟩)]) rfl trivial (enters_of Tryz.func86 (by kernel_rfl) rfl)
    (digits_stops _ _ _ (by omega) u g pu pg pcu pcg m hm0 hm1 a b HA.out HB.out (fun k => k = w.heap.size + 1 + 1) _ (fun k hk => by have := hB1.lt; omega) hB3 hP3 (by omega) (by omega)) keptX_t keptX_b (Below.refl _ _) (fun _ => rfl)
    (fun pre W => (∀ i ∈ pre, th a b i = false) ∧ Same w3 W)
    (fun c pre W => c = .exit 1 ∧ (∃ q x, pre = q ++ [x] ∧ (∀ i ∈ q, th a b i = false) ∧ th a b x = true ∧ Blk W (w.heap.size + 1 + 1) 3 #[.int .i64 (dig m x)]) ∧ Gr w3 W (fun k => k = w.heap.size + 1 + 1))
    (OwnFrom.and (ownFrom_pure _ _) (ownFrom_gr _ (Nat.le_refl _)))
    (fun c => OwnFrom.and (ownFrom_pure _ _) (OwnFrom.and (ownFrom_ex fun q => ownFrom_ex fun x => OwnFrom.and (ownFrom_pure _ _) (OwnFrom.and (ownFrom_pure _ _) (OwnFrom.and (ownFrom_pure _ _) (ownFrom_blk _ _ _)))) (ownFrom_gr _ (Nat.le_refl _))))
    ⟨by simp, Gr.refl _ _⟩
    (fun x => { tmps := #[.agg #[.int .i64 u, .int .i64 g], .agg #[.int .i64 pu, .int .i64 pg, .int .i64 pcu, .int .i64 pcg, .int .i64 m], .pointer (some ⟨w.heap.size, 0, none⟩), .pointer (some ⟨w.heap.size + 1, 0, none⟩), .int .i64 0, .pointer (some ⟨w.heap.size + 1 + 1, 0, none⟩), .int .i64 (dig m x), .bool (th a b x), .agg #[.int .i64 u, .int .i64 g], .agg #[.int .i64 pu, .int .i64 pg, .int .i64 pcu, .int .i64 pcg, .int .i64 m], .func (Fn.func 86) #[] #[.pointer (some ⟨w2.heap.size, 0, none⟩), .pointer (some ⟨w2.heap.size + 1, 0, none⟩)], .int .i64 (dig m x), .bool (th a b x), undef, undef, .bool false, .agg #[.int .i64 u, .int .i64 g], .bool true, .bool false, .bool false, .agg #[.int .i64 pu, .int .i64 pg, .int .i64 pcu, .int .i64 pcg, .int .i64 m], .bool true, .bool false, .bool false, .bool false, .pointer (some ⟨w.heap.size, 0, none⟩), .int .i64 u, .bool false, undef], defers := [] }) ?assign ?body ?done ?stop
  case assign =>
    intro l x W K hK
    gi_wp2
    exact hK
  case body =>
    rintro l pre x W ⟨hpre, hW⟩ hlt
    have hBx := hW.blk hB1 (fun f => f)
    have hcx := hBx.cell 0
    have hfx := hBx.frozen 0
    simp at hcx
    have HPRE := Lib.hid hpre
    clear hpre
    cases hx : th a b x
    · gi_wp2
      refine ⟨KeepsFrom.refl _ _, KeptX.refl _ _, ?_, hW⟩
      intro i hi
      rcases List.mem_append.1 hi with h | h
      · exact HPRE.out i h
      · rw [List.mem_singleton.1 h]; exact hx
    · gi_wp2
      exact ⟨(KeepsOthers.setCell _ _ _).from _, rfl, ⟨pre, x, rfl, HPRE.out, hx, by simpa using hBx.set_ 0 (.int .i64 (dig m x))⟩, hW.no.set1 0 _⟩
  case done =>
    rintro D ys W hD rfl ⟨hpre, hW⟩ hK
    exact absurd (hpre 2 (by simp)) (by simp [th])
  case stop =>
    rintro D c pre W hD ⟨i, hi, rfl⟩ ⟨rfl, ⟨q, x, hq, hqf, hx, hBx⟩, hW⟩ hK
    have hcx := hBx.cell 0
    simp at hcx
    have HX := Lib.hid hx
    have HQ := Lib.hid hqf
    have HE := Lib.hid hq
    clear hx hqf hq
    gi_wp2
    rw [Exit.noGoto_normal]
    gi_wp2
    refine ⟨by simp, .inl ⟨_, _, rfl, run_takeDeferred hK, ?_⟩⟩
    refine ⟨_, results_tmp rfl _ _ _, ?_, ?_⟩
    · have := who_eq hi HE.out HQ.out HX.out
      rw [HA.out, HB.out] at this
      rw [← this]
      rfl
    · refine Gr.below (Gr.put ?_ _ (by omega))
      exact hG.trans hW (fun j hj e => by omega)
end Go.Proofs
