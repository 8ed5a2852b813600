/- Slots of things (string): with(id, do) at the closures of Get, Set, Remove. -/
import Derived.Test.YthijminlalddcaaGreatDoorSCS
set_option linter.unusedVariables false
set_option linter.unusedSimpArgs false
namespace Go.Proofs
open Go.RowKit Go.Shelf
attribute [local go_sem] Oper.semAt_some

set_option maxRecDepth 100000 in
set_option maxHeartbeats 1000000 in
theorem with_getS (b : Nat) (S : St ByteArray) (hS : S.ok) (id : Int) (Bo : Nat) (o : Th ByteArray) (w : World) (hb : Sl encS 125 w b S) (ho : Blk w Bo 82 #[.int .i64 o.u, .int .i64 o.g, .int .i64 o.cu, .int .i64 o.cg, .int .i64 o.m, .int .i64 o.key, .string o.v]) (hne : Bo ≠ b) :
    Calls Tryz.prog 70 #[.pointer (some ⟨b, 0, none⟩), .int .i64 id, .func (.func 88) #[] #[.pointer (some ⟨Bo, 0, none⟩)]] w fun e w' =>
      (e = .returned (.int .i64 100) ∧ (∀ j, j < 8 → S.hd j = true → idOf S j ≠ id) ∧ Same w w') ∨
      (∃ i, i < 8 ∧ S.hd i = true ∧ idOf S i = id ∧ e = .returned (.int .i64 0) ∧ Gr w w' (fun k => k = Bo) ∧ Blk w' Bo 82 #[.int .i64 (S.th i).u, .int .i64 (S.th i).g, .int .i64 (S.th i).cu, .int .i64 (S.th i).cg, .int .i64 (S.th i).m, .int .i64 (S.th i).key, .string (S.th i).v]) := by
  have hlt := Blk.lt hb
  have hlo := ho.lt
  refine (callsIn_wide (n := 9)).1 ?_
  refine callsIn_of_wp_marks Tryz.func70 rfl trivial ?_ rfl
  simp only [Tryz.ntmps70, List.size_toArray, List.length_cons, List.length_nil, Nat.reduceAdd, Nat.reduceSub, Array.replicate_succ, Array.replicate_zero, List.push_toArray, List.append_toArray, List.nil_append, List.cons_append]
  gi_wp2
  refine wpIn_scope ?_
  gi_wp2
  first | refine wpIn_label_seq ?_ | refine wpIn_label ?_
  gi_wp2_with (refine ⟨trivial, ?_⟩; gi_at_call 68; refine (callsIn_wide.2 (all_anyS _ _)).mono ?_; rintro e w1 ⟨rfl, hG, hBs⟩)
  have hv0 : Blk w1 w.heap.size 3 #[.int .i64 id] := hG.blk (((Blk.new _ _ _ _ rfl).alloc _).alloc _) (fun f => f)
  have hr1 : Blk w1 (w.heap.size + 1) 138 #[.func (.func 88) #[] #[.pointer (some ⟨Bo, 0, none⟩)]] := hG.blk ((Blk.new _ _ _ _ (by simp)).alloc _) (fun f => f)
  have hr2 : Blk w1 (w.heap.size + 1 + 1) 44 #[.int .i64 100] := hG.blk (Blk.new _ _ _ _ (by simp)) (fun f => f)
  have hGw : Same w w1 := (Gr.a3 _ _ _ _).next hG
  have hb1 : Sl encS 125 w1 b S := hGw.blk hb (fun f => f)
  have hsz := hGw.size
  have hBs' : Blk w1 (w.heap.size + 1 + 1 + 1) 79 #[.pointer (some ⟨b, 0, none⟩)] := by simpa using hBs
  clear hBs
  refine wpIn_rangeFunc_ownG rfl (by omega) (gf := 87) (lb := #[.pointer (some ⟨w.heap.size + 1 + 1 + 1, 0, none⟩)]) rfl trivial (enters_of Tryz.func87 (by kernel_rfl) rfl)
    (all_stopsS _ b _ (by omega) S hS (fun _ => False) _ hb1 hBs' (fun f => f) (fun f => f)) keptX_t keptX_b (Below.refl _ _) (fun _ => rfl)
    (fun pre W => (∀ j ∈ pre, S.hd j.1 = true → idOf S j.1 ≠ id) ∧ Same w1 W)
    (fun c pre W => c = .exit 0 ∧ (∃ x : Fin 8, Met S id pre x ∧ Blk W Bo 82 #[.int .i64 (S.th x.1).u, .int .i64 (S.th x.1).g, .int .i64 (S.th x.1).cu, .int .i64 (S.th x.1).cg, .int .i64 (S.th x.1).m, .int .i64 (S.th x.1).key, .string (S.th x.1).v]) ∧ Blk W (w.heap.size + 1 + 1) 44 #[.int .i64 0] ∧ Gr w1 W (fun k => (k = Bo) ∨ w.heap.size ≤ k))
    (OwnFrom.and (ownFrom_pure _ _) (ownFrom_gr _ (Nat.le_refl _)))
    (fun c => OwnFrom.and (ownFrom_pure _ _) (OwnFrom.and (ownFrom_ex fun x => OwnFrom.and (ownFrom_pure _ _) (ownFrom_blk _ _ _)) (OwnFrom.and (ownFrom_blk _ _ _) (ownFrom_gr _ (Nat.le_refl _)))))
    ⟨by simp, Gr.refl _ _⟩
    (fun x => { tmps := #[.pointer (some ⟨b, 0, none⟩), .int .i64 id, .func (.func 88) #[] #[.pointer (some ⟨Bo, 0, none⟩)], undef, .pointer (some ⟨w.heap.size, 0, none⟩), .pointer (some ⟨w.heap.size + 1, 0, none⟩), .int .i64 0, .pointer (some ⟨w.heap.size + 1 + 1, 0, none⟩), .int .i64 (idOf S x.1), .pointer (some ⟨b, x.1 * 9, none⟩), .pointer (some ⟨b, 0, none⟩), .bool false, .pointer (some ⟨b, 0, none⟩), .func (Fn.func 87) #[] #[.pointer (some ⟨w.heap.size + 1 + 1 + 1, 0, none⟩)], .int .i64 (idOf S x.1), .pointer (some ⟨b, x.1 * 9, none⟩), undef, undef, undef, undef, undef, undef, undef, undef, undef, undef, undef, undef, undef, undef], defers := [] }) ?assign ?body ?done ?stop
  case assign =>
    intro l x W K hK
    gi_wp2
    exact hK
  case body =>
    rintro l pre x W ⟨hpre, hW⟩ hl8
    have hBx := hW.blk hb1 (fun f => f)
    obtain ⟨c0, c1, c2, c3, c4, c5, c6, hc⟩ := Sl.factsS hBx x.1 x.2
    clear c0 c1 c2 c3 c4 c5 c6
    have k0 := (hW.blk hv0 (fun f => f)).cell 0
    have k1 := (hW.blk hr1 (fun f => f)).cell 0
    have k2 := (hW.blk hr2 (fun f => f)).cell 0
    have f2 := (hW.blk hr2 (fun f => f)).frozen 0
    have hzW := hW.size
    have hlW0 : w.heap.size < W.heap.size := by have := hv0.lt; omega
    have hlW1 : w.heap.size + 1 < W.heap.size := by have := hr1.lt; omega
    have hlW2 : w.heap.size + 1 + 1 < W.heap.size := by have := hr2.lt; omega
    have hlWb : b < W.heap.size := Blk.lt hBx
    simp at k0 k1 k2
    have HPRE := Lib.hid hpre
    clear hpre
    cases hx : S.hd x.1
    · rw [hx] at hc
      gi_wp2
      refine ⟨trivial, ?_⟩
      gi_wp2
      refine ⟨KeepsFrom.refl _ _, KeptX.refl _ _, ?_, hW⟩
      intro j hj
      rcases List.mem_append.1 hj with h | h
      · exact HPRE.out j h
      · rw [List.mem_singleton.1 h, hx]; intro h; cases h
    · rw [hx] at hc
      by_cases hid : idOf S x.1 = id
      · have hid' : (idOf S x.1 == id) = true := by simp [hid]
        have HI := Lib.hid hid
        clear hid
        gi_wp2_with (refine ⟨trivial, ?_⟩; gi_at_call 89; refine (CallsIn.inRound l (callsIn_wide.2 (isOf_one _ _ _ _ (Blk.new _ _ _ _ rfl)))).mono ?_; rintro e w' ⟨rfl, rfl⟩)
        refine ⟨trivial, ?_⟩
        refine (CallsIn.inRound l (callsIn_wide.2 (get1_anyS b x.1 Bo S o _ x.2 (Blk.alloc hBx _) ((hW.blk (hGw.blk ho (fun f => f)) (fun f => f)).alloc _) hne))).mono ?_
        rintro e W2 ⟨rfl, hG2, hE⟩
        have j2 : W2.cell? ⟨w.heap.size + 1 + 1, 0, none⟩ = some (.int .i64 100) := (hG2.cell (p := ⟨w.heap.size + 1 + 1, 0, none⟩) (by dsimp only; simp; omega) (by dsimp only; omega)).trans (by simp [go_sem, k2, hlW2])
        have g2 : W2.frozen? ⟨w.heap.size + 1 + 1, 0, none⟩ = false := (hG2.frozen (p := ⟨w.heap.size + 1 + 1, 0, none⟩) (by dsimp only; simp; omega) (by dsimp only; omega)).trans (by simp [go_sem, f2, hlW2])
        have hr2W : Blk W2 (w.heap.size + 1 + 1) 44 #[.int .i64 100] := hG2.blk ((hW.blk hr2 (fun f => f)).alloc _) (by omega)
        have hG3 := (hW.alloc (.cells #[.int .i64 (idOf S x.1)] 3)).no'.trans (Y := fun k => k = Bo) (X := fun k => (k = Bo) ∨ w.heap.size ≤ k) hG2 (fun _ _ h => .inl h)
        have hK2 : KeepsFrom w1.heap.size W W2 := ((KeepsOthers.alloc W (.cells #[.int .i64 (idOf S x.1)] 3)).from _).trans (keepsFrom_of_gr' hG2 (fun k hk => by omega))
        gi_wp2
        refine ⟨hK2.trans ((KeepsOthers.setCell _ _ _).from _), rfl, ⟨x, ⟨pre, rfl, HPRE.out, hx, HI.out⟩, Blk.far hE (p := ⟨w.heap.size + 1 + 1, 0, none⟩) (by dsimp only; omega) _⟩, by simpa using hr2W.set_ 0 (.int .i64 0), hG3.setCell (p := ⟨w.heap.size + 1 + 1, 0, none⟩) (X := fun k => (k = Bo) ∨ w.heap.size ≤ k) (.inl (.inr (by dsimp only; omega))) _⟩
      · have hid' : (idOf S x.1 == id) = false := by simp [hid]
        have HI := Lib.hid hid
        clear hid
        gi_wp2_with (refine ⟨trivial, ?_⟩; gi_at_call 89; refine (CallsIn.inRound l (callsIn_wide.2 (isOf_one _ _ _ _ (Blk.new _ _ _ _ rfl)))).mono ?_; rintro e w' ⟨rfl, rfl⟩)
        refine ⟨(KeepsOthers.alloc _ _).from _, KeptX.of_gr (Gr.a1 _ _).no', ?_, hW.alloc _⟩
        intro j hj
        rcases List.mem_append.1 hj with h | h
        · exact HPRE.out j h
        · rw [List.mem_singleton.1 h]; exact fun _ => HI.out
  case done =>
    rintro D ys W hD hys ⟨hpre, hW⟩ hK
    have k2 := (hW.blk hr2 (fun f => f)).cell 0
    simp at k2
    have HP := Lib.hid hpre
    have HY := Lib.hid hys
    clear hpre hys
    gi_wp2
    rw [Exit.noGoto_ret]
    gi_wp2
    refine ⟨by simp, .inl ⟨_, _, rfl, run_takeDeferred hK, ?_⟩⟩
    refine ⟨_, results_tmp rfl _ _ _, .inl ⟨rfl, ?_, ?_⟩⟩
    · intro j hj
      have : j ∈ ys.map Fin.val := by rw [HY.out]; simpa using hj
      obtain ⟨y, hy, rfl⟩ := List.mem_map.1 this
      exact HP.out y hy
    · exact Gr.put (hGw.next hW) _ (by omega)
  case stop =>
    rintro D c pre W hD ⟨i, hi, hpi⟩ ⟨rfl, ⟨x, hx, hBx⟩, hR2, hW⟩ hK
    have k2 := hR2.cell 0
    simp at k2
    have HPI := Lib.hid hpi
    clear hpi
    gi_wp2
    rw [Exit.noGoto_ret]
    gi_wp2
    obtain ⟨hxi, h1, h2⟩ := met_at hx HPI.out
    rw [hxi] at hBx
    refine ⟨by simp, .inl ⟨_, _, rfl, run_takeDeferred hK, ?_⟩⟩
    refine ⟨_, results_tmp rfl _ _ _, .inr ⟨i, hi, h1, h2, rfl, ?_, Blk.put hBx _ hK rfl⟩⟩
    refine Gr.put ?_ _ (by omega)
    exact hGw.no'.trans hW (fun j hj h => by rcases h with h | h; exact h; omega)

set_option maxRecDepth 100000 in
set_option maxHeartbeats 1000000 in
theorem with_removeS (b : Nat) (S : St ByteArray) (hS : S.ok) (id : Int) (Bo Bz : Nat) (o : Th ByteArray) (w : World) (hb : Sl encS 125 w b S) (ho : Blk w Bo 82 #[.int .i64 o.u, .int .i64 o.g, .int .i64 o.cu, .int .i64 o.cg, .int .i64 o.m, .int .i64 o.key, .string o.v]) (hz : Blk w Bz 82 #[.int .i64 0, .int .i64 0, .int .i64 0, .int .i64 0, .int .i64 0, .int .i64 0, .string ByteArray.empty]) (hne : Bo ≠ b) (hne2 : Bo ≠ Bz) (hne3 : Bz ≠ b) :
    Calls Tryz.prog 70 #[.pointer (some ⟨b, 0, none⟩), .int .i64 id, .func (.func 71) #[] #[.pointer (some ⟨Bz, 0, none⟩), .pointer (some ⟨Bo, 0, none⟩)]] w fun e w' =>
      (e = .returned (.int .i64 100) ∧ (∀ j, j < 8 → S.hd j = true → idOf S j ≠ id) ∧ Same w w') ∨
      (∃ i, i < 8 ∧ S.hd i = true ∧ idOf S i = id ∧ e = .returned (.int .i64 0) ∧ Gr w w' (fun k => k = b ∨ k = Bo) ∧ Blk w' Bo 82 #[.int .i64 (S.th i).u, .int .i64 (S.th i).g, .int .i64 (S.th i).cu, .int .i64 (S.th i).cg, .int .i64 (S.th i).m, .int .i64 (S.th i).key, .string (S.th i).v] ∧ Sl encS 125 w' b (S.rm i zthS)) := by
  have hlt := Blk.lt hb
  have hlo := ho.lt
  have hlz := hz.lt
  refine (callsIn_wide (n := 9)).1 ?_
  refine callsIn_of_wp_marks Tryz.func70 rfl trivial ?_ rfl
  simp only [Tryz.ntmps70, List.size_toArray, List.length_cons, List.length_nil, Nat.reduceAdd, Nat.reduceSub, Array.replicate_succ, Array.replicate_zero, List.push_toArray, List.append_toArray, List.nil_append, List.cons_append]
  gi_wp2
  refine wpIn_scope ?_
  gi_wp2
  first | refine wpIn_label_seq ?_ | refine wpIn_label ?_
  gi_wp2_with (refine ⟨trivial, ?_⟩; gi_at_call 68; refine (callsIn_wide.2 (all_anyS _ _)).mono ?_; rintro e w1 ⟨rfl, hG, hBs⟩)
  have hv0 : Blk w1 w.heap.size 3 #[.int .i64 id] := hG.blk (((Blk.new _ _ _ _ rfl).alloc _).alloc _) (fun f => f)
  have hr1 : Blk w1 (w.heap.size + 1) 138 #[.func (.func 71) #[] #[.pointer (some ⟨Bz, 0, none⟩), .pointer (some ⟨Bo, 0, none⟩)]] := hG.blk ((Blk.new _ _ _ _ (by simp)).alloc _) (fun f => f)
  have hr2 : Blk w1 (w.heap.size + 1 + 1) 44 #[.int .i64 100] := hG.blk (Blk.new _ _ _ _ (by simp)) (fun f => f)
  have hGw : Same w w1 := (Gr.a3 _ _ _ _).next hG
  have hb1 : Sl encS 125 w1 b S := hGw.blk hb (fun f => f)
  have hsz := hGw.size
  have hBs' : Blk w1 (w.heap.size + 1 + 1 + 1) 79 #[.pointer (some ⟨b, 0, none⟩)] := by simpa using hBs
  clear hBs
  refine wpIn_rangeFunc_ownG rfl (by omega) (gf := 87) (lb := #[.pointer (some ⟨w.heap.size + 1 + 1 + 1, 0, none⟩)]) rfl trivial (enters_of Tryz.func87 (by kernel_rfl) rfl)
    (all_stopsS _ b _ (by omega) S hS (fun _ => False) _ hb1 hBs' (fun f => f) (fun f => f)) keptX_t keptX_b (Below.refl _ _) (fun _ => rfl)
    (fun pre W => (∀ j ∈ pre, S.hd j.1 = true → idOf S j.1 ≠ id) ∧ Same w1 W)
    (fun c pre W => c = .exit 0 ∧ (∃ x : Fin 8, Met S id pre x ∧ Blk W Bo 82 #[.int .i64 (S.th x.1).u, .int .i64 (S.th x.1).g, .int .i64 (S.th x.1).cu, .int .i64 (S.th x.1).cg, .int .i64 (S.th x.1).m, .int .i64 (S.th x.1).key, .string (S.th x.1).v] ∧ Sl encS 125 W b (S.rm x.1 zthS)) ∧ Blk W (w.heap.size + 1 + 1) 44 #[.int .i64 0] ∧ Gr w1 W (fun k => (k = b ∨ k = Bo) ∨ w.heap.size ≤ k))
    (OwnFrom.and (ownFrom_pure _ _) (ownFrom_gr _ (Nat.le_refl _)))
    (fun c => OwnFrom.and (ownFrom_pure _ _) (OwnFrom.and (ownFrom_ex fun x => OwnFrom.and (ownFrom_pure _ _) (OwnFrom.and (ownFrom_blk _ _ _) (ownFrom_blk _ _ _))) (OwnFrom.and (ownFrom_blk _ _ _) (ownFrom_gr _ (Nat.le_refl _)))))
    ⟨by simp, Gr.refl _ _⟩
    (fun x => { tmps := #[.pointer (some ⟨b, 0, none⟩), .int .i64 id, .func (.func 71) #[] #[.pointer (some ⟨Bz, 0, none⟩), .pointer (some ⟨Bo, 0, none⟩)], undef, .pointer (some ⟨w.heap.size, 0, none⟩), .pointer (some ⟨w.heap.size + 1, 0, none⟩), .int .i64 0, .pointer (some ⟨w.heap.size + 1 + 1, 0, none⟩), .int .i64 (idOf S x.1), .pointer (some ⟨b, x.1 * 9, none⟩), .pointer (some ⟨b, 0, none⟩), .bool false, .pointer (some ⟨b, 0, none⟩), .func (Fn.func 87) #[] #[.pointer (some ⟨w.heap.size + 1 + 1 + 1, 0, none⟩)], .int .i64 (idOf S x.1), .pointer (some ⟨b, x.1 * 9, none⟩), undef, undef, undef, undef, undef, undef, undef, undef, undef, undef, undef, undef, undef, undef], defers := [] }) ?assign ?body ?done ?stop
  case assign =>
    intro l x W K hK
    gi_wp2
    exact hK
  case body =>
    rintro l pre x W ⟨hpre, hW⟩ hl8
    have hBx := hW.blk hb1 (fun f => f)
    obtain ⟨c0, c1, c2, c3, c4, c5, c6, hc⟩ := Sl.factsS hBx x.1 x.2
    clear c0 c1 c2 c3 c4 c5 c6
    have k0 := (hW.blk hv0 (fun f => f)).cell 0
    have k1 := (hW.blk hr1 (fun f => f)).cell 0
    have k2 := (hW.blk hr2 (fun f => f)).cell 0
    have f2 := (hW.blk hr2 (fun f => f)).frozen 0
    have hzW := hW.size
    have hlW0 : w.heap.size < W.heap.size := by have := hv0.lt; omega
    have hlW1 : w.heap.size + 1 < W.heap.size := by have := hr1.lt; omega
    have hlW2 : w.heap.size + 1 + 1 < W.heap.size := by have := hr2.lt; omega
    have hlWb : b < W.heap.size := Blk.lt hBx
    simp at k0 k1 k2
    have HPRE := Lib.hid hpre
    clear hpre
    cases hx : S.hd x.1
    · rw [hx] at hc
      gi_wp2
      refine ⟨trivial, ?_⟩
      gi_wp2
      refine ⟨KeepsFrom.refl _ _, KeptX.refl _ _, ?_, hW⟩
      intro j hj
      rcases List.mem_append.1 hj with h | h
      · exact HPRE.out j h
      · rw [List.mem_singleton.1 h, hx]; intro h; cases h
    · rw [hx] at hc
      by_cases hid : idOf S x.1 = id
      · have hid' : (idOf S x.1 == id) = true := by simp [hid]
        have HI := Lib.hid hid
        clear hid
        gi_wp2_with (refine ⟨trivial, ?_⟩; gi_at_call 89; refine (CallsIn.inRound l (callsIn_wide.2 (isOf_one _ _ _ _ (Blk.new _ _ _ _ rfl)))).mono ?_; rintro e w' ⟨rfl, rfl⟩)
        refine ⟨trivial, ?_⟩
        refine (CallsIn.inRound l (callsIn_wide.2 (remove1_anyS b x.1 Bo Bz S o _ x.2 hS (Blk.alloc hBx _) ((hW.blk (hGw.blk ho (fun f => f)) (fun f => f)).alloc _) ((hW.blk (hGw.blk hz (fun f => f)) (fun f => f)).alloc _) hne hne2 hne3))).mono ?_
        rintro e W2 ⟨rfl, hG2, hE, hE'⟩
        have j2 : W2.cell? ⟨w.heap.size + 1 + 1, 0, none⟩ = some (.int .i64 100) := (hG2.cell (p := ⟨w.heap.size + 1 + 1, 0, none⟩) (by dsimp only; simp; omega) (by dsimp only; omega)).trans (by simp [go_sem, k2, hlW2])
        have g2 : W2.frozen? ⟨w.heap.size + 1 + 1, 0, none⟩ = false := (hG2.frozen (p := ⟨w.heap.size + 1 + 1, 0, none⟩) (by dsimp only; simp; omega) (by dsimp only; omega)).trans (by simp [go_sem, f2, hlW2])
        have hr2W : Blk W2 (w.heap.size + 1 + 1) 44 #[.int .i64 100] := hG2.blk ((hW.blk hr2 (fun f => f)).alloc _) (by omega)
        have hG3 := (hW.alloc (.cells #[.int .i64 (idOf S x.1)] 3)).no'.trans (Y := fun k => k = b ∨ k = Bo) (X := fun k => (k = b ∨ k = Bo) ∨ w.heap.size ≤ k) hG2 (fun _ _ h => .inl h)
        have hK2 : KeepsFrom w1.heap.size W W2 := ((KeepsOthers.alloc W (.cells #[.int .i64 (idOf S x.1)] 3)).from _).trans (keepsFrom_of_gr' hG2 (fun k hk => by omega))
        gi_wp2
        refine ⟨hK2.trans ((KeepsOthers.setCell _ _ _).from _), rfl, ⟨x, ⟨pre, rfl, HPRE.out, hx, HI.out⟩, Blk.far hE (p := ⟨w.heap.size + 1 + 1, 0, none⟩) (by dsimp only; omega) _, Blk.far hE' (p := ⟨w.heap.size + 1 + 1, 0, none⟩) (by dsimp only; omega) _⟩, by simpa using hr2W.set_ 0 (.int .i64 0), hG3.setCell (p := ⟨w.heap.size + 1 + 1, 0, none⟩) (X := fun k => (k = b ∨ k = Bo) ∨ w.heap.size ≤ k) (.inl (.inr (by dsimp only; omega))) _⟩
      · have hid' : (idOf S x.1 == id) = false := by simp [hid]
        have HI := Lib.hid hid
        clear hid
        gi_wp2_with (refine ⟨trivial, ?_⟩; gi_at_call 89; refine (CallsIn.inRound l (callsIn_wide.2 (isOf_one _ _ _ _ (Blk.new _ _ _ _ rfl)))).mono ?_; rintro e w' ⟨rfl, rfl⟩)
        refine ⟨(KeepsOthers.alloc _ _).from _, KeptX.of_gr (Gr.a1 _ _).no', ?_, hW.alloc _⟩
        intro j hj
        rcases List.mem_append.1 hj with h | h
        · exact HPRE.out j h
        · rw [List.mem_singleton.1 h]; exact fun _ => HI.out
  case done =>
    rintro D ys W hD hys ⟨hpre, hW⟩ hK
    have k2 := (hW.blk hr2 (fun f => f)).cell 0
    simp at k2
    have HP := Lib.hid hpre
    have HY := Lib.hid hys
    clear hpre hys
    gi_wp2
    rw [Exit.noGoto_ret]
    gi_wp2
    refine ⟨by simp, .inl ⟨_, _, rfl, run_takeDeferred hK, ?_⟩⟩
    refine ⟨_, results_tmp rfl _ _ _, .inl ⟨rfl, ?_, ?_⟩⟩
    · intro j hj
      have : j ∈ ys.map Fin.val := by rw [HY.out]; simpa using hj
      obtain ⟨y, hy, rfl⟩ := List.mem_map.1 this
      exact HP.out y hy
    · exact Gr.put (hGw.next hW) _ (by omega)
  case stop =>
    rintro D c pre W hD ⟨i, hi, hpi⟩ ⟨rfl, ⟨x, hx, hBx⟩, hR2, hW⟩ hK
    have k2 := hR2.cell 0
    simp at k2
    have HPI := Lib.hid hpi
    clear hpi
    gi_wp2
    rw [Exit.noGoto_ret]
    gi_wp2
    obtain ⟨hxi, h1, h2⟩ := met_at hx HPI.out
    rw [hxi] at hBx
    refine ⟨by simp, .inl ⟨_, _, rfl, run_takeDeferred hK, ?_⟩⟩
    refine ⟨_, results_tmp rfl _ _ _, .inr ⟨i, hi, h1, h2, rfl, ?_, Blk.put hBx.1 _ hK rfl, Blk.put hBx.2 _ hK rfl⟩⟩
    refine Gr.put ?_ _ (by omega)
    exact hGw.no'.trans hW (fun j hj h => by rcases h with h | h; exact h; omega)
end Go.Proofs
