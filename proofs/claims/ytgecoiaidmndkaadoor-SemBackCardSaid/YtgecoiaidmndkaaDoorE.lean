/- Semaphores: the iterator over operations, done on a row. -/
import Derived.Test.YtgecoiaidmndkaaDoorP
import Derived.Stop.RegionWithIn
set_option linter.unusedVariables false
set_option linter.unusedSimpArgs false
namespace Go.Proofs
open Go.RowKit Go.Shelf
attribute [local go_sem] Oper.semAt_some

theorem keptX_cell {X : Nat → Prop} {w w' : World} (h : KeptX X w w') {g o : Nat} {v : Value} (hc : w.cell? ⟨g, o, none⟩ = some v) (hx : ¬ X g) : w'.cell? ⟨g, o, none⟩ = some v := by
  cases hh : w.heap[g]? with
  | none => simp [World.cell?, hh] at hc
  | some b =>
    cases b with
    | cells cs t f =>
      have h2 := h.2 g cs t f hh hx
      simp [World.cell?, hh] at hc
      simp [World.cell?, h2, hc]
    | _ => simp [World.cell?, hh] at hc
theorem Sen.kept {X : Nat → Prop} {w w' : World} {aR aA aW : Addr} (h : Sen w aR aA aW) (hG : KeptX X w w') (hX : ∀ k, X k → ¬ (k = 0 ∨ k = 1 ∨ k = 2 ∨ k = aR.block ∨ k = aA.block ∨ k = aW.block)) : Sen w' aR aA aW := by
  have hb : ∀ {b : Nat}, ¬ X b → (∃ c t, w.heap[b]? = some (.cells c t (0, 0))) → ∃ c t, w'.heap[b]? = some (.cells c t (0, 0)) := fun {b} hx ⟨c, t, h⟩ => ⟨c, t, hG.2 b c t _ h hx⟩
  exact ⟨keptX_cell hG h.g0 (fun hx => hX _ hx (by simp)), keptX_cell hG h.g1 (fun hx => hX _ hx (by simp)), keptX_cell hG h.g2 (fun hx => hX _ hx (by simp)),
    hb (fun hx => hX _ hx (by simp)) h.bR, hb (fun hx => hX _ hx (by simp)) h.bA, hb (fun hx => hX _ hx (by simp)) h.bW, h.nRA, h.nRW, h.nAW⟩

/-- The operations lie as cells. -/
def OpsW (w : World) (g off m : Nat) (Nm Dl Fl : Nat → Int) : Prop := ∀ i, i < m → w.cell? ⟨g, off + i * 3, none⟩ = some (.int .i64 (Nm i)) ∧ w.cell? ⟨g, off + i * 3 + 1, none⟩ = some (.int .i64 (Dl i)) ∧ w.cell? ⟨g, off + i * 3 + 2, none⟩ = some (.int .i64 (Fl i))
theorem OpsW.kept {X : Nat → Prop} {w w' : World} {g off m : Nat} {Nm Dl Fl : Nat → Int} (h : OpsW w g off m Nm Dl Fl) (hG : KeptX X w w') (hx : ¬ X g) : OpsW w' g off m Nm Dl Fl :=
  fun i hi => ⟨keptX_cell hG (h i hi).1 hx, keptX_cell hG (h i hi).2.1 hx, keptX_cell hG (h i hi).2.2 hx⟩
theorem OpsW.gr {X : Nat → Prop} {w w' : World} {g off m : Nat} {Nm Dl Fl : Nat → Int} (h : OpsW w g off m Nm Dl Fl) (hG : Gr w w' X) (hx : ¬ X g) : OpsW w' g off m Nm Dl Fl := h.kept (KeptX.of_gr hG) hx

theorem row_set {Nm Dl Fl : Nat → Int} {xs : List Int} {k j : Nat} {v d : Int} (he : er Nm Dl Fl xs k = 0) (hat : at_ Nm (stp Nm Dl Fl xs k) k = v) (hj : Nm k = j) (hd : Dl k = d) :
    ((stp Nm Dl Fl xs (k + 1)).map (Value.int .i64)).toArray = ((stp Nm Dl Fl xs k).map (Value.int .i64)).toArray.setIfInBounds j (.int .i64 (v + d)) := by
  rw [stp_ok he, hat, hj, hd, Int.toNat_natCast, List.map_set, List.setIfInBounds_toArray]

variable {aR aA aW : Addr}
set_option maxRecDepth 100000 in
set_option maxHeartbeats 8000000 in
theorem steps1_in (nn l bo bl r g off m c : Nat) (hn : 1 ≤ nn) (Nm Dl Fl : Nat → Int) (xs : List Int) (n : Nat) (hxs : xs.length = n) (hare : areB xs = true) (h8 : n ≤ 8) (hm : m ≤ 8)
    (hNm : ∀ i, i < m → 0 ≤ Nm i ∧ Nm i < n) (hFl : ∀ i, i < m → -9223372036854775808 ≤ Fl i ∧ Fl i < 9223372036854775808)
    (X : Nat → Prop) (J Jx : List Nat → World → Prop) (W : World)
    (hY : ∀ pre x W, J pre W → pre.length < m → x = pre.length → YieldAt Fence.wide (nn - 1) Tryd.prog l #[.int .i64 (x : Nat), errV aR aA aW (er Nm Dl Fl xs x)] W fun e W' =>
      (e = .returned (.bool true) ∧ J (pre ++ [x]) W' ∧ KeptX X W W') ∨ (e = .returned (.bool false) ∧ Jx (pre ++ [x]) W'))
    (hS : Sen W aR aA aW) (hXS : ∀ k, X k → ¬ (k = 0 ∨ k = 1 ∨ k = 2 ∨ k = aR.block ∨ k = aA.block ∨ k = aW.block)) (hrS : ¬ (r = 0 ∨ r = 1 ∨ r = 2 ∨ r = aR.block ∨ r = aA.block ∨ r = aW.block))
    (hO : OpsW W g off m Nm Dl Fl) (hR : Blk W r 3 (xs.map (Value.int .i64)).toArray) (hL : Blk W bl 22 #[.slice (some ⟨r, 0, none⟩) n n]) (hB : Blk W bo 23 #[.slice (some ⟨g, off, none⟩) m c])
    (x1 : ¬ X r) (x2 : ¬ X bl) (x3 : ¬ X bo) (x4 : ¬ X g) (n1 : bl ≠ r) (n2 : bo ≠ r) (n3 : g ≠ r) (hJ0 : J [] W) (hJB : ∀ pre W W', Gr W W' (fun k => k = r) → J pre W → J pre W') :
    CallsIn Fence.wide nn Tryd.prog 31 #[.func (.yield l) #[] #[], .pointer (some ⟨bo, 0, none⟩), .pointer (some ⟨bl, 0, none⟩)] W fun e W' => (∃ v, e = .returned v) ∧
      ((∃ pre, pre.length = m ∧ J pre W' ∧ Blk W' r 3 ((stp Nm Dl Fl xs m).map (Value.int .i64)).toArray) ∨ (∃ pre, Jx pre W')) := by
  have b0 := hB.cell 0
  simp at b0
  have HXS := Lib.hid hxs
  have HA := Lib.hid hare
  have HNM := Lib.hid hNm
  have HFL := Lib.hid hFl
  have HO := Lib.hid hO
  have HJB := Lib.hid hJB
  have HXX := Lib.hid hXS
  clear hxs hare hNm hFl hO hJB hXS
  refine callsIn_of_wp Tryd.func31 rfl trivial ?_ rfl
  simp only [Tryd.ntmps31, List.size_toArray, List.length_cons, List.length_nil, Nat.reduceAdd, Nat.reduceSub, Array.replicate_succ, Array.replicate_zero, List.push_toArray, List.append_toArray, List.nil_append, List.cons_append]
  gi_wp2
  clear b0
  gi_loopw [9] (fun i wr => ∃ (k : Nat) (pre : List Nat), k ≤ m ∧ pre.length = k ∧ i = .int .i64 k ∧ J pre wr ∧ Hid (OpsW wr g off m Nm Dl Fl) ∧ Blk wr r 3 ((stp Nm Dl Fl xs k).map (Value.int .i64)).toArray ∧ Blk wr bl 22 #[.slice (some ⟨r, 0, none⟩) n n] ∧ Blk wr bo 23 #[.slice (some ⟨g, off, none⟩) m c] ∧ Sen wr aR aA aW) (fun i _ => m - (intOf i).toNat)
  case atStart => exact ⟨0, [], by omega, rfl, rfl, hJ0, HO, hR, hL, hB, hS⟩
  case round =>
    obtain ⟨k, pre, hk, hpre, rfl, hJk, HOk, hRk, hLk, hBk, hSk⟩ := hrel
    have HP := Lib.hid hpre
    clear hpre
    by_cases hlt : k < m
    · obtain ⟨o0, o1, o2⟩ := HOk.out k hlt
      obtain ⟨q1, q2⟩ := HNM.out k hlt
      obtain ⟨f1, f2⟩ := HFL.out k hlt
      obtain ⟨j, hj⟩ : ∃ j : Nat, Nm k = j := ⟨(Nm k).toNat, by omega⟩
      have hjn : j < n := by omega
      have hsl : (stp Nm Dl Fl xs k).length = n := by rw [stp_len, HXS.out]
      obtain ⟨v1, v2⟩ := areB_get (stp_are (Nm := Nm) (Dl := Dl) (Fl := Fl) HA.out k) j
      have hcell := hRk.cell j
      have hat : at_ Nm (stp Nm Dl Fl xs k) k = (stp Nm Dl Fl xs k)[j]?.getD 0 := by unfold at_; rw [hj, Int.toNat_natCast]
      have her : er Nm Dl Fl xs k = erk ((stp Nm Dl Fl xs k)[j]?.getD 0) (Dl k) (Fl k) := by unfold er; rw [hat]
      have hg : ((stp Nm Dl Fl xs k).map (Value.int .i64)).toArray[j]? = some (.int .i64 ((stp Nm Dl Fl xs k)[j]?.getD 0)) := by
        simp [List.getElem?_eq_getElem (show j < (stp Nm Dl Fl xs k).length by omega)]
      rw [hg] at hcell
      have HAT := Lib.hid hat
      have HER := Lib.hid her
      have HSL := Lib.hid hsl
      rw [hj] at o0
      have HJ := Lib.hid hj
      clear hj hg hat her hsl q1 q2
      generalize hv : (stp Nm Dl Fl xs k)[j]?.getD 0 = v at *
      generalize hdl : Dl k = d at *
      have HDL := Lib.hid hdl
      clear hdl
      generalize Fl k = fl at *
      have HV := Lib.hid hv
      have HO1 := HOk
      clear hv HOk
      gi_wp2
      have hq : Blk (wr.alloc (.cells #[.int .i64 j, .int .i64 d, .int .i64 fl] 32)) wr.heap.size 32 #[.int .i64 j, .int .i64 d, .int .i64 fl] := Blk.new _ _ _ _ rfl
      have G1 : Same wr (wr.alloc (.cells #[.int .i64 j, .int .i64 d, .int .i64 fl] 32)) := Gr.a1 _ _
      have hz1 : wr.heap.size < (wr.alloc (.cells #[.int .i64 j, .int .i64 d, .int .i64 fl] 32)).heap.size := by simp
      generalize wr.alloc (.cells #[.int .i64 j, .int .i64 d, .int .i64 fl] 32) = W1 at *
      have hqs : wr.heap.size = wr.heap.size := rfl
      have hrl := hRk.lt
      generalize wr.heap.size = q at *
      have hS1 := hSk.same G1
      have hR1 := G1.blk hRk (fun f => f)
      have hL1 := G1.blk hLk (fun f => f)
      have hB1 := G1.blk hBk (fun f => f)
      have HO2 := Lib.hid (HO1.out.gr G1 (fun f => f))
      have hc1 := (G1.cell (p := ⟨r, j, none⟩) hRk.lt (fun f => f)).trans hcell
      have q0 := hq.cell 0
      have q1 := hq.cell 1
      have q2 := hq.cell 2
      have l0 := hL1.cell 0
      simp at q0 q1 q2 l0
      clear o0 o1 o2 hcell hSk hRk hLk hBk HO1
      gi_region_with (refine ⟨trivial, ?_⟩; gi_at_call 32; refine (callsIn_wide.2 (wrong_any v j d fl v1 v2 f1 f2 _ (hS1.same ((Gr.refl _ _).drew)))).mono ?_; rintro e w2 ⟨rfl, hG2⟩)
      all_goals
        have hrq : r < q := hrl
        have hS2 := (hS1.same ((Gr.refl _ _).drew)).same hG2
        have hR2 := hG2.blk (show Blk W1.drew r 3 _ from hR1) (fun f => f)
        have hL2 := hG2.blk (show Blk W1.drew bl 22 _ from hL1) (fun f => f)
        have hB2 := hG2.blk (show Blk W1.drew bo 23 _ from hB1) (fun f => f)
        have hq2 := hG2.blk (show Blk W1.drew q 32 _ from hq) (fun f => f)
        have HO3 := Lib.hid ((HO2.out.gr ((Gr.refl W1 (fun _ => False)).drew) (fun f => f)).gr hG2 (fun f => f))
        have hc2 := (hG2.cell (p := ⟨r, j, none⟩) (show r < W1.drew.heap.size from hR1.lt) (fun f => f)).trans hc1
        have G2 : Same wr w2 := (G1.drew).next hG2
        clear hS1 hR1 hL1 hB1 hq q0 q1 q2 l0 hc1 HO2 hG2
        have q0 := hq2.cell 0
        have q1 := hq2.cell 1
        have l0 := hL2.cell 0
        simp at q0 q1 l0
        rcases Nat.eq_zero_or_pos (erk v d fl) with he | he
        · obtain ⟨z1, z2⟩ := erk_zero v1 v2 he
          have hJ2 : J pre w2 := HJB.out _ _ _ (Gr.no G2) hJk
          have HE := Lib.hid he
          rw [he]
          simp only [errV]
          clear he
          gi_wp2
          have zr := hR2.frozen j
          gi_region
          have G3 : Gr w2 (w2.setCell ⟨r, j, none⟩ (.int .i64 (v + d))).drew (fun k => k = r) := ((Gr.refl _ _).set1 _ _).drew
          have hR3 : Blk (w2.setCell ⟨r, j, none⟩ (.int .i64 (v + d))).drew r 3 ((stp Nm Dl Fl xs (k + 1)).map (Value.int .i64)).toArray := by
            rw [row_set (HER.out.trans HE.out) HAT.out HJ.out HDL.out]
            exact (hR2.set_ j (.int .i64 (v + d))).drew
          have hL3 := G3.blk hL2 n1
          have hB3 := G3.blk hB2 n2
          have HO4 := Lib.hid (HO3.out.gr G3 n3)
          have hS3 : Sen (w2.setCell ⟨r, j, none⟩ (.int .i64 (v + d))).drew aR aA aW := hS2.kept (KeptX.of_gr G3) (fun k hk => hk ▸ hrS)
          have hJ3 := HJB.out _ _ _ G3 hJ2
          have HEE := Lib.hid (HER.out.trans HE.out)
          clear hS2 hR2 hL2 hB2 hq2 HO3 hc2 q0 q1 l0 zr hJ2
          generalize (w2.setCell ⟨r, j, none⟩ (.int .i64 (v + d))).drew = W3 at *
          obtain ⟨fn, tmps, assign, body, hy, hRR⟩ := hY pre k _ hJ3 (by rw [HP.out]; exact hlt) HP.out.symm
          rw [HEE.out] at hy
          simp only [errV] at hy
          gi_wp2
          refine hRR.mono ?_
          rintro e W4 (⟨rfl, hJ4, hk4⟩ | ⟨rfl, hJx4⟩)
          · gi_wp2
            go_roundw
            case rel => exact ⟨k + 1, pre ++ [k], by omega, by rw [List.length_append, HP.out]; rfl, by go_num, hJ4, Lib.hid (HO4.out.kept hk4 x4), hk4.blk hR3 x1, hk4.blk hL3 x2, hk4.blk hB3 x3, hS3.kept hk4 HXX.out⟩
            case measure => simp [intOf]; omega
          · gi_wp2
            refine bodyPost_ret (results_none rfl _ _ _) rfl ?_
            exact ⟨⟨_, rfl⟩, .inr ⟨_, hJx4⟩⟩
        · obtain ⟨a, HA3, hEe⟩ : ∃ a, errV aR aA aW (erk v d fl) = .iface 69 (.pointer (some a)) ∧ errV aR aA aW (er Nm Dl Fl xs k) = .iface 69 (.pointer (some a)) := by
            rw [HER.out]
            match h : erk v d fl with
            | 0 => omega
            | 1 => exact ⟨_, rfl, rfl⟩
            | 2 => exact ⟨_, rfl, rfl⟩
            | n + 3 => exact ⟨_, rfl, rfl⟩
          have hJ3 : J pre w2 := HJB.out _ _ _ (Gr.no G2) hJk
          have hne : er Nm Dl Fl xs k ≠ 0 := by rw [HER.out]; omega
          have hR3 : Blk w2 r 3 ((stp Nm Dl Fl xs (k + 1)).map (Value.int .i64)).toArray := by rw [stp_no hne]; exact hR2
          have hL3 := hL2
          have hB3 := hB2
          have HO4 := HO3
          have hS3 := hS2
          have HEE := Lib.hid hEe
          have HNE := Lib.hid hne
          rw [HA3]
          clear hS2 hR2 hL2 hB2 hq2 HO3 hc2 q0 q1 l0 he HA3 hEe hne
          obtain ⟨fn, tmps, assign, body, hy, hRR⟩ := hY pre k _ hJ3 (by rw [HP.out]; exact hlt) HP.out.symm
          rw [HEE.out] at hy
          gi_wp2
          refine hRR.mono ?_
          rintro e W4 (⟨rfl, hJ4, hk4⟩ | ⟨rfl, hJx4⟩)
          · gi_wp2
            go_roundw
            case rel => exact ⟨k + 1, pre ++ [k], by omega, by rw [List.length_append, HP.out]; rfl, by go_num, hJ4, Lib.hid (HO4.out.kept hk4 x4), hk4.blk hR3 x1, hk4.blk hL3 x2, hk4.blk hB3 x3, hS3.kept hk4 HXX.out⟩
            case measure => simp [intOf]; omega
          · gi_wp2
            refine bodyPost_ret (results_none rfl _ _ _) rfl ?_
            exact ⟨⟨_, rfl⟩, .inr ⟨_, hJx4⟩⟩
    · obtain rfl : k = m := by omega
      gi_wp2
      go_end0
      exact ⟨⟨_, rfl⟩, .inl ⟨pre, HP.out, hJk, hRk⟩⟩
end Go.Proofs
