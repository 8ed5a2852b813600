/- Pipes: Close. -/
import Derived.Test.YtdonlpldbdooaaaDoorY
set_option linter.unusedVariables false
set_option linter.unusedSimpArgs false
namespace Go.Proofs
open Go.RowKit Go.Shelf
attribute [local go_sem] Oper.semAt_some

theorem counts_stops (n b bs rb : Nat) (hn : 1 ≤ n) (R Wt : Int) (X : Nat → Prop) (w : World) (hb : PB w b rb R Wt) (hbs : Blk w bs 24 #[.pointer (some ⟨b, 0, none⟩)]) (hb0 : ¬ X b) (hs0 : ¬ X bs) :
    SeqStopsK Fence.wide n Tryd.prog 38 #[.pointer (some ⟨bs, 0, none⟩)] (fun x : Fin 3 => #[.int .i64 (ev R Wt x.1)]) (KeptX X) (fun xs => xs.map Fin.val = List.range 3) (fun pre => ∃ i, i < 3 ∧ pre.map Fin.val = List.range (i + 1)) 3 w :=
  fun l J Jx W hW hJ _ hY hJ0 =>
  (counts1_in n l b bs rb hn R Wt X J Jx W hY (Blk.below hb hW (Blk.lt hb)) (hbs.below hW hbs.lt) hb0 hs0 hJ0).mono fun e W' ⟨he, h⟩ => ⟨he, h.imp (fun h => h) (fun ⟨i, xs, hi, hx, h⟩ => ⟨xs, ⟨i, hi, hx⟩, h⟩)⟩

set_option maxRecDepth 100000 in
set_option maxHeartbeats 2000000 in
theorem close_ok (b rb : Nat) (k R Wt : Int) (w : World) (HC : Calls Tryd.prog 29 #[.pointer (some ⟨b, 0, none⟩), .int .i64 k, .int .i64 (-1)] w fun e w' => e = .returned (.int .i64 0) ∧ PB w' b rb R Wt ∧ Gr w w' (fun j => j = b)) (hlt : b < w.heap.size) :
    Calls Tryd.prog 15 #[.pointer (some ⟨b, 0, none⟩), .int .i64 k] w fun e w' => e = .returned (.tuple #[.bool (decide (R ≤ 0) && decide (Wt ≤ 0)), .int .i64 0]) ∧ PB w' b rb R Wt ∧ Gr w w' (fun j => j = b) := by
  refine (callsIn_wide (n := 9)).1 ?_
  refine callsIn_of_wp_marks Tryd.func15 rfl trivial ?_ rfl
  simp only [Tryd.ntmps15, List.size_toArray, List.length_cons, List.length_nil, Nat.reduceAdd, Nat.reduceSub, Array.replicate_succ, Array.replicate_zero, List.push_toArray, List.append_toArray, List.nil_append, List.cons_append]
  gi_wp2
  refine wpIn_scope ?_
  gi_wp2_with (refine ⟨trivial, ?_⟩; gi_at_call 29; refine (callsIn_wide.2 HC).mono ?_; rintro e w1 ⟨rfl, hP, hG1⟩)
  have hr0 : Blk (w1.alloc (.cells #[.bool true] 4)) w1.heap.size 4 #[.bool true] := Blk.new _ _ _ _ rfl
  have hP1 : PB (w1.alloc (.cells #[.bool true] 4)) b rb R Wt := Blk.alloc hP _
  have hG2 : Gr w (w1.alloc (.cells #[.bool true] 4)) (fun j => j = b) := hG1.alloc _
  have hsz := hG1.size
  refine wpIn_label ?_
  gi_wp2_with (refine ⟨trivial, ?_⟩; gi_at_call 30; refine (callsIn_wide.2 (counts_any _ _)).mono ?_; rintro e w2 ⟨rfl, hG3, hBs⟩)
  have hBs' : Blk w2 (w1.heap.size + 1) 24 #[.pointer (some ⟨b, 0, none⟩)] := by simpa using hBs
  have hP2 : PB w2 b rb R Wt := hG3.blk hP1 (fun f => f)
  have hr2 : Blk w2 w1.heap.size 4 #[.bool true] := hG3.blk hr0 (fun f => f)
  have hGw : Gr w w2 (fun j => j = b) := hG2.trans hG3.no (fun j _ h => h)
  have hlB := hBs'.lt
  have hlb := Blk.lt hP2
  have hls := hG3.size
  clear hBs hP hP1 hr0 hG1 hG2 hG3 HC
  refine wpIn_rangeFunc_ownG rfl (by omega) (gf := 38) (lb := #[.pointer (some ⟨w1.heap.size + 1, 0, none⟩)]) rfl trivial (enters_of Tryd.func38 (by kernel_rfl) rfl)
    (counts_stops _ b _ rb (by omega) R Wt (fun k => k = w1.heap.size ∨ w2.heap.size ≤ k) _ hP2 hBs' (by omega) (by omega)) keptX_t keptX_b (Below.refl _ _) (fun _ => rfl)
    (fun pre W => (∀ x ∈ pre, ev R Wt (Fin.val x) ≤ 0) ∧ Blk W w1.heap.size 4 #[.bool true] ∧ Gr w2 W (fun k => k = w1.heap.size))
    (fun c pre W => c = .exit 0 ∧ (∃ i, i < 3 ∧ 0 < ev R Wt i) ∧ Blk W w1.heap.size 4 #[.bool false] ∧ Gr w2 W (fun k => k = w1.heap.size))
    (OwnFrom.and (ownFrom_pure _ _) (OwnFrom.and (ownFrom_blk _ _ _) (ownFrom_gr _ (Nat.le_refl _))))
    (fun c => OwnFrom.and (ownFrom_pure _ _) (OwnFrom.and (ownFrom_pure _ _) (OwnFrom.and (ownFrom_blk _ _ _) (ownFrom_gr _ (Nat.le_refl _)))))
    ⟨fun x hx => by simp at hx, hr2, Gr.refl _ _⟩
    (fun x => { tmps := #[.pointer (some ⟨b, 0, none⟩), .int .i64 k, undef, undef, .bool false, .int .i64 0, .int .i64 0, .pointer (some ⟨w1.heap.size, 0, none⟩), .int .i64 (ev R Wt x.1), .pointer (some ⟨b, 0, none⟩), .int .i64 k, .int .i64 0, .int .i64 0, .bool false, undef, .pointer (some ⟨b, 0, none⟩), .func (Fn.func 38) #[] #[.pointer (some ⟨w1.heap.size + 1, 0, none⟩)], .int .i64 (ev R Wt x.1), undef, undef, undef], defers := [] }) ?assign ?body ?done ?stop
  case assign =>
    intro l x W K hK
    gi_wp2
    exact hK
  case body =>
    rintro l pre x W ⟨hp, hA, hW⟩ hl3
    have HP := Lib.hid hp
    have ca := hA.cell 0
    have fa := hA.frozen 0
    simp at ca
    generalize hv : ev R Wt x.1 = v
    have HV := Lib.hid hv
    clear hp hv
    rcases (show v ≤ 0 ∨ 0 < v by omega) with hle | hgt
    · gi_wp2
      refine ⟨KeepsFrom.refl _ _, KeptX.refl _ _, fun y hy => ?_, hA, hW⟩
      rcases List.mem_append.1 hy with hy | hy
      · exact HP.out y hy
      · obtain rfl := List.mem_singleton.1 hy
        rw [HV.out]; exact hle
    · gi_wp2
      refine ⟨(KeepsOthers.setCell _ _ _).from _, rfl, ⟨x.1, x.2, by rw [HV.out]; exact hgt⟩, by simpa using hA.set_ 0 (.bool false), Gr.setCell (p := ⟨w1.heap.size, 0, none⟩) (X := fun k => k = w1.heap.size) hW (.inl rfl) _⟩
  case done =>
    rintro D ys W hD hys ⟨hp, hA, hW⟩ hK
    have ca := hA.cell 0
    simp at ca
    have hall : R ≤ 0 ∧ Wt ≤ 0 := by
      have key : ∀ i, i < 3 → ev R Wt i ≤ 0 := fun i hi => by
        have : i ∈ ys.map Fin.val := by rw [hys]; exact List.mem_range.2 hi
        obtain ⟨x, hx, rfl⟩ := List.mem_map.1 this
        exact hp x hx
      exact ⟨key 1 (by omega), key 2 (by omega)⟩
    have HF : Hid ((decide (R ≤ 0) && decide (Wt ≤ 0)) = true) := Lib.hid (by simp [hall.1, hall.2])
    have hPW : PB W b rb R Wt := hW.blk hP2 (by omega)
    clear hp hys hall
    gi_wp2
    rw [Exit.noGoto_ret]
    refine ⟨by simp, .inl ⟨_, _, rfl, run_takeDeferred hK, ?_⟩⟩
    exact ⟨_, results_tmp2 rfl _ _ _, by rw [HF.out]; rfl, Blk.put hPW _ hK rfl, Gr.put (hGw.trans hW (fun j hj h => by omega)) _ (by omega)⟩
  case stop =>
    rintro D c pre W hD _ ⟨rfl, ⟨i, hi, hgt⟩, hA, hW⟩ hK
    have ca := hA.cell 0
    simp at ca
    have HF : Hid ((decide (R ≤ 0) && decide (Wt ≤ 0)) = false) := Lib.hid (by
      match i, hi with
      | 0, _ => exact absurd (show (0 : Int) < 0 from hgt) (by decide)
      | 1, _ => have : 0 < R := hgt; simp; omega
      | 2, _ => have : 0 < Wt := hgt; simp; omega)
    have hPW : PB W b rb R Wt := hW.blk hP2 (by omega)
    clear hgt
    gi_wp2
    rw [Exit.noGoto_ret]
    refine ⟨by simp, .inl ⟨_, _, rfl, run_takeDeferred hK, ?_⟩⟩
    exact ⟨_, results_tmp2 rfl _ _ _, by rw [HF.out]; rfl, Blk.put hPW _ hK rfl, Gr.put (hGw.trans hW (fun j hj h => by omega)) _ (by omega)⟩
theorem close_no1 (A : Option Addr) (k : Int) (w : World) (HC : Calls Tryd.prog 29 #[.pointer A, .int .i64 k, .int .i64 (-1)] w fun e w' => e = .returned (.int .i64 1) ∧ Same w w') :
    Calls Tryd.prog 15 #[.pointer A, .int .i64 k] w fun e w' => e = .returned (.tuple #[.bool false, .int .i64 1]) ∧ Same w w' := by
  refine (callsIn_wide (n := 9)).1 ?_
  refine callsIn_of_wp_marks Tryd.func15 rfl trivial ?_ rfl
  simp only [Tryd.ntmps15, List.size_toArray, List.length_cons, List.length_nil, Nat.reduceAdd, Nat.reduceSub, Array.replicate_succ, Array.replicate_zero, List.push_toArray, List.append_toArray, List.nil_append, List.cons_append]
  gi_wp2
  refine wpIn_scope ?_
  gi_wp2_with (refine ⟨trivial, ?_⟩; gi_at_call 29; refine (callsIn_wide.2 HC).mono ?_; rintro e w1 ⟨rfl, hG1⟩)
  rw [Exit.noGoto_ret]
  exact ⟨_, results_tmp2 rfl _ _ _, rfl, hG1⟩
theorem close_no2 (A : Option Addr) (k : Int) (w : World) (HC : Calls Tryd.prog 29 #[.pointer A, .int .i64 k, .int .i64 (-1)] w fun e w' => e = .returned (.int .i64 2) ∧ Same w w') :
    Calls Tryd.prog 15 #[.pointer A, .int .i64 k] w fun e w' => e = .returned (.tuple #[.bool false, .int .i64 2]) ∧ Same w w' := by
  refine (callsIn_wide (n := 9)).1 ?_
  refine callsIn_of_wp_marks Tryd.func15 rfl trivial ?_ rfl
  simp only [Tryd.ntmps15, List.size_toArray, List.length_cons, List.length_nil, Nat.reduceAdd, Nat.reduceSub, Array.replicate_succ, Array.replicate_zero, List.push_toArray, List.append_toArray, List.nil_append, List.cons_append]
  gi_wp2
  refine wpIn_scope ?_
  gi_wp2_with (refine ⟨trivial, ?_⟩; gi_at_call 29; refine (callsIn_wide.2 HC).mono ?_; rintro e w1 ⟨rfl, hG1⟩)
  rw [Exit.noGoto_ret]
  exact ⟨_, results_tmp2 rfl _ _ _, rfl, hG1⟩
theorem close_nil (k : Int) (w : World) : Calls Tryd.prog 15 #[.pointer none, .int .i64 k] w fun e w' => e = .returned (.tuple #[.bool false, .int .i64 1]) ∧ Same w w' :=
  close_no1 none k w ((change_nil k (-1) w).mono fun e w' ⟨h, h'⟩ => ⟨h, by subst h'; exact Gr.refl _ _⟩)
/-- What is told of one end less. -/
def ClosePost (w : World) (b rb : Nat) (R W k : Int) (e : Ending) (w' : World) : Prop :=
  (k = 1 ∧ 0 < R ∧ e = .returned (.tuple #[.bool (decide (R - 1 ≤ 0) && decide (W ≤ 0)), .int .i64 0]) ∧ PB w' b rb (R - 1) W ∧ Gr w w' (fun j => j = b)) ∨
  (k = 2 ∧ 0 < W ∧ e = .returned (.tuple #[.bool (decide (R ≤ 0) && decide (W - 1 ≤ 0)), .int .i64 0]) ∧ PB w' b rb R (W - 1) ∧ Gr w w' (fun j => j = b)) ∨
  ((k = 1 → R = 0) ∧ (k = 2 → W = 0) ∧ e = .returned (.tuple #[.bool false, .int .i64 2]) ∧ Same w w')
theorem close_any (b rb : Nat) (R W : Int) (k : Int) (w : World) (h : PB w b rb R W) (hR : 0 ≤ R ∧ R ≤ 100) (hW : 0 ≤ W ∧ W ≤ 100) : Calls Tryd.prog 15 #[.pointer (some ⟨b, 0, none⟩), .int .i64 k] w (ClosePost w b rb R W k) := by
  by_cases h1 : k = 1 ∧ 0 < R
  · obtain ⟨rfl, hr⟩ := h1
    refine (close_ok b rb 1 (R - 1) W w ((change_reader b rb R W (-1) w h hR (by omega)).mono ?_) (Blk.lt h)).mono fun e w' ⟨he, hp, hG⟩ => Or.inl ⟨rfl, hr, he, hp, hG⟩
    rintro e w' (⟨_, _, rfl, hp, hG⟩ | ⟨hx, _⟩)
    · exact ⟨rfl, hp, hG⟩
    · omega
  · by_cases h2 : k = 2 ∧ 0 < W
    · obtain ⟨rfl, hr⟩ := h2
      refine (close_ok b rb 2 R (W - 1) w ((change_writer b rb R W (-1) w h hW (by omega)).mono ?_) (Blk.lt h)).mono fun e w' ⟨he, hp, hG⟩ => Or.inr (Or.inl ⟨rfl, hr, he, hp, hG⟩)
      rintro e w' (⟨_, _, rfl, hp, hG⟩ | ⟨hx, _⟩)
      · exact ⟨rfl, hp, hG⟩
      · omega
    · refine (close_no2 _ k w ((change_any b rb R W (-1) k w h hR hW (by omega)).mono ?_)).mono fun e w' ⟨he, hG⟩ => Or.inr (Or.inr ⟨fun h => by omega, fun h => by omega, he, hG⟩)
      rintro e w' (⟨hk, hx, _⟩ | ⟨hk, hx, _⟩ | ⟨_, _, rfl, hG⟩)
      · exact absurd ⟨hk, by omega⟩ h1
      · exact absurd ⟨hk, by omega⟩ h2
      · exact ⟨rfl, hG⟩
end Go.Proofs
