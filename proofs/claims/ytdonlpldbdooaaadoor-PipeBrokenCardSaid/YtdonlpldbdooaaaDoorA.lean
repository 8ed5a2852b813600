/- Ring in memory; the iterator over its two parts. -/
import Derived.Test.YtdonlpldbdooaaaDoorC
import Derived.Test.YtdonlpldbdooaaaDoorP
import Derived.Stop.RegionWithIn
set_option linter.unusedVariables false
set_option linter.unusedSimpArgs false
namespace Go.Proofs
open Go.RowKit Go.Shelf
attribute [local go_sem] Oper.semAt_some

def rc (hs : List UInt8) (sz f n : Nat) : Array Value := (Lib.byteCells hs ++ [Value.int .i64 sz, Value.int .i64 f, Value.int .i64 n]).toArray
theorem bc_len (hs : List UInt8) : (Lib.byteCells hs).length = hs.length := Lib.byteCells_length hs
variable {hs : List UInt8} {sz f n : Nat}
theorem rc_sz (h : hs.length = 64) : (rc hs sz f n)[64]? = some (.int .i64 sz) := by
  unfold rc; simp [List.getElem?_append_right, bc_len, h]
theorem rc_f (h : hs.length = 64) : (rc hs sz f n)[65]? = some (.int .i64 f) := by
  unfold rc; simp [List.getElem?_append_right, bc_len, h]
theorem rc_n (h : hs.length = 64) : (rc hs sz f n)[66]? = some (.int .i64 n) := by
  unfold rc; simp [List.getElem?_append_right, bc_len, h]

theorem two_ways {e : Ending} {W : World} {A B : World → Prop} {C : World → Prop} (h : (e = .returned (.bool true) ∧ A W ∧ C W) ∨ (e = .returned (.bool false) ∧ B W)) : ∃ r, e = .returned (.bool r) ∧ ((r = true ∧ A W) ∨ (r = false ∧ B W)) := by
  rcases h with ⟨rfl, h, _⟩ | ⟨rfl, h⟩
  · exact ⟨true, rfl, .inl ⟨rfl, h⟩⟩
  · exact ⟨false, rfl, .inr ⟨rfl, h⟩⟩

/-- The parts of k bytes from place at on, of n in all. -/
def partEnc (b at' k n : Nat) (p : Nat) : Array Value := if p = 0 then #[.slice (some ⟨b, at', none⟩) k (64 - at')] else #[.slice (some ⟨b, 0, none⟩) (n - k) 64]

def Rat (W : World) (b sz : Nat) : Prop := W.cell? ⟨b, 64, none⟩ = some (.int .i64 sz)

set_option maxRecDepth 100000 in
set_option maxHeartbeats 8000000 in
theorem parts1_in (nn l b ba br bn : Nat) (hn : 1 ≤ nn) (at0 sz n : Nat) (h1 : 1 ≤ sz) (h2 : sz ≤ 64) (ha : at0 < 1000) (hns : n ≤ sz)
    (X : Nat → Prop) (J Jx : List (Fin 2) → World → Prop) (W : World)
    (hY : ∀ pre x W, J pre W → pre.length < 2 → x.1 = pre.length → YieldAt Fence.wide (nn - 1) Tryd.prog l (partEnc b (at0 % sz) (min n (sz - at0 % sz)) n x.1) W fun e W' =>
      (e = .returned (.bool true) ∧ J (pre ++ [x]) W' ∧ KeptX X W W') ∨ (e = .returned (.bool false) ∧ Jx (pre ++ [x]) W'))
    (hz : Rat W b sz) (hA : Blk W ba 3 #[.int .i64 at0]) (hR : Blk W br 49 #[.pointer (some ⟨b, 0, none⟩)]) (hN : Blk W bn 3 #[.int .i64 n])
    (hb0 : b ≠ ba) (hr0 : ¬ X br) (hnn : ¬ X bn) (hra : br ≠ ba) (ha0 : ¬ X ba) (hna : bn ≠ ba) (hJ0 : ∀ W', Gr W W' (fun k => k = ba) → J [] W') (hJd : ∀ xs W', J xs W' → J xs W'.drew) :
    CallsIn Fence.wide nn Tryd.prog 41 #[.func (.yield l) #[] #[], .pointer (some ⟨ba, 0, none⟩), .pointer (some ⟨br, 0, none⟩), .pointer (some ⟨bn, 0, none⟩)] W fun e W' => (∃ v, e = .returned v) ∧
      ((∃ xs : List (Fin 2), xs.map Fin.val = (if min n (sz - at0 % sz) < n then [0, 1] else [0]) ∧ J xs W') ∨ (∃ xs : List (Fin 2), Jx xs W')) := by
  have a0 := hA.cell 0
  have r0 := hR.cell 0
  have n0 := hN.cell 0
  have fa := hA.frozen 0
  simp at a0 r0 n0
  have z0 : W.cell? ⟨b, 64, none⟩ = some (.int .i64 sz) := hz
  refine callsIn_of_wp Tryd.func41 rfl trivial ?_ rfl
  simp only [Tryd.ntmps41, List.size_toArray, List.length_cons, List.length_nil, Nat.reduceAdd, Nat.reduceSub, Array.replicate_succ, Array.replicate_zero, List.push_toArray, List.append_toArray, List.nil_append, List.cons_append]
  have hsz0 : (sz : Int) ≠ 0 := by omega
  gi_wp2
  gi_region
  have hm : (at0 : Int) % (sz : Int) = ((at0 % sz : Nat) : Int) := rfl
  have hasz : at0 % sz < sz := Nat.mod_lt _ (by omega)
  rw [hm]
  generalize at0 % sz = a at *
  have hG1 : Gr W ((W.setCell ⟨ba, 0, none⟩ (.int .i64 a)).drew) (fun k => k = ba) := ((Gr.refl _ _).set1 _ _).drew
  have hA1 : Blk ((W.setCell ⟨ba, 0, none⟩ (.int .i64 a)).drew) ba 3 #[.int .i64 a] := (Blk.set_ hA 0 _).drew
  have hR1 := hG1.blk hR hra
  have hN1 := hG1.blk hN hna
  have z1 := (hG1.cell (p := ⟨b, 64, none⟩) (World.block_lt_of_cell? _ _ z0) hb0).trans z0
  have hJ1 := hJ0 _ hG1
  generalize (W.setCell ⟨ba, 0, none⟩ (.int .i64 a)).drew = W1 at *
  have a1 := hA1.cell 0
  have r1 := hR1.cell 0
  have n1 := hN1.cell 0
  simp at a1 r1 n1
  clear a0 r0 n0 fa z0 hA hR hN hG1 hJ0
  gi_wp2
  gi_region
  have hk : (if (sz : Int) - a < n then (sz : Int) - a else n) = ((min n (sz - a) : Nat) : Int) := by split <;> omega
  rw [hk]
  obtain ⟨hk1, hk2, hk3⟩ : min n (sz - a) ≤ n ∧ a + min n (sz - a) ≤ sz ∧ (min n (sz - a) = n ∨ a + min n (sz - a) = sz) := by omega
  clear hk
  generalize min n (sz - a) = k at *
  clear z1 a1 r1 n1
  have hA2 : Blk W1.drew ba 3 #[.int .i64 a] := hA1
  have hR2 : Blk W1.drew br 49 #[.pointer (some ⟨b, 0, none⟩)] := hR1
  have hN2 : Blk W1.drew bn 3 #[.int .i64 n] := hN1
  have hJ2 : J [] W1.drew := hJd _ _ hJ1
  generalize W1.drew = W2 at *
  clear hA1 hR1 hN1 hJ1 W1
  have a2 := hA2.cell 0
  have r2 := hR2.cell 0
  have n2 := hN2.cell 0
  simp at a2 r2 n2
  obtain ⟨fn, tmps, assign, body, hy, hRR⟩ := hY [] 0 W2.drew (hJd _ _ hJ2) (by simp) rfl
  have s1 : (a : Int) + k ≤ 64 := by omega
  have s2 : (a : Int) ≤ a + k := by omega
  have s3 : IntKind.i64.wrap ((a : Int) + k) = (a : Int) + k := by rw [IntKind.wrap_i64]; omega
  have s5 : ¬ (64 = a) := by omega
  have s4 : ((a : Int) + k).toNat - a = k := by omega
  simp [partEnc] at hy
  gi_wp2
  refine wpIn_region_any (by kernel_rfl) ?_
  try (change wpAnyIn _ _ _ _ _ _ _ _ _ (World.drew _))
  refine wpAnyIn_take (i := 0) (v := ?_) rfl rfl (by kernel_rfl) (by kernel_rfl) (by kernel_rfl) (fun _ _ _ h => h) ⟨Or.inl ⟨by rfl, ?_⟩, fun _ => rfl⟩ ?_
  rotate_left
  · intro w; go_simp; all_goals (with_reducible rfl)
  refine wpAnyIn_take (i := 6) (v := ?_) rfl rfl (by kernel_rfl) (by kernel_rfl) (by kernel_rfl) (fun _ _ _ h => h) ⟨Or.inl ⟨by rfl, ?_⟩, fun _ => rfl⟩ ?_
  rotate_left
  · intro w; go_simp; all_goals (with_reducible rfl)
  refine wpAnyIn_ready (rs := [1, 4, 5]) (by kernel_rfl) (by simp) ?_
  refine AllReadyIn.cons rfl (fun K hK => ?_) ?_
  · go_simp
    refine hK _ _ ?_
    clear hK K
    refine wpAnyIn_take (i := 2) (v := ?_) rfl rfl (by kernel_rfl) (by kernel_rfl) (by kernel_rfl) (fun _ _ _ h => h) ⟨Or.inl ⟨by rfl, ?_⟩, fun _ => rfl⟩ ?_
    rotate_left
    · intro w; go_simp; all_goals (with_reducible rfl)
    refine wpAnyIn_take (i := 3) (v := ?_) rfl rfl (by kernel_rfl) (by kernel_rfl) (by kernel_rfl) (fun _ _ _ h => h) ⟨Or.inl ⟨by rfl, ?_⟩, fun _ => rfl⟩ ?_
    rotate_left
    · intro w; go_simp; all_goals (with_reducible rfl)
    refine wpAnyIn_ready (rs := [4, 5]) (by kernel_rfl) (by simp) ?_
    refine AllReadyIn.cons rfl (fun K hK => ?_) ?_
    · go_simp
      refine hK _ _ ?_
      clear hK K
      refine wpAnyIn_ready (rs := [5]) (by kernel_rfl) (by simp) ?_
      refine AllReadyIn.cons rfl (fun K hK => ?_) ?_
      · go_simp
        refine hK _ _ ?_
        clear hK K
        refine wpAnyIn_take (i := 7) (v := ?_) rfl rfl (by kernel_rfl) (by kernel_rfl) (by kernel_rfl) (fun _ _ _ h => h) ⟨Or.inl ⟨by rfl, ?_⟩, fun _ => rfl⟩ ?_
        rotate_left
        · intro w; go_simp; all_goals (with_reducible rfl)
        refine wpAnyIn_take (i := 8) (v := ?_) rfl rfl (by kernel_rfl) (by kernel_rfl) (by kernel_rfl) (fun _ _ _ h => h) ⟨Or.inl ⟨by rfl, ?_⟩, fun _ => rfl⟩ ?_
        rotate_left
        · intro w; go_simp; all_goals (with_reducible rfl)
        refine wpAnyIn_ready (rs := [9]) (by kernel_rfl) (by simp) ?_
        refine AllReadyIn.cons rfl (fun K hK => ?_) ?_
        · go_simp
          gi_wp2_with (refine hRR.mono ?_; rintro e W3 (⟨rfl, hJ3, hk3⟩ | ⟨rfl, hJx3⟩))
          · have a3 := (hk3.blk hA2 ha0).cell 0
            have r3 := (hk3.blk hR2 hr0).cell 0
            have n3 := (hk3.blk hN2 hnn).cell 0
            simp at a3 r3 n3
            refine wpAnyIn_take (i := 10) (v := ?_) rfl rfl (by kernel_rfl) (by kernel_rfl) (by kernel_rfl) (fun _ _ _ h => h) ⟨Or.inl ⟨by rfl, ?_⟩, fun _ => rfl⟩ ?_
            rotate_left
            · intro w; go_simp; all_goals (with_reducible rfl)
            refine wpAnyIn_take (i := 12) (v := ?_) rfl rfl (by kernel_rfl) (by kernel_rfl) (by kernel_rfl) (fun _ _ _ h => h) ⟨Or.inl ⟨by rfl, ?_⟩, fun _ => rfl⟩ ?_
            rotate_left
            · intro w; go_simp; all_goals (with_reducible rfl)
            refine wpAnyIn_ready (rs := [11]) (by kernel_rfl) (by simp) ?_
            refine AllReadyIn.cons rfl (fun K hK => ?_) ?_
            · go_simp
              refine hK _ _ ?_
              clear hK K
              refine wpAnyIn_take (i := 13) (v := ?_) rfl rfl (by kernel_rfl) (by kernel_rfl) (by kernel_rfl) (fun _ _ _ h => h) ⟨Or.inl ⟨by rfl, ?_⟩, fun _ => rfl⟩ ?_
              rotate_left
              · intro w; go_simp; all_goals (with_reducible rfl)
              refine wpAnyIn_take (i := 14) (v := ?_) rfl rfl (by kernel_rfl) (by kernel_rfl) (by kernel_rfl) (fun _ _ _ h => h) ⟨Or.inl ⟨by rfl, ?_⟩, fun _ => rfl⟩ ?_
              rotate_left
              · intro w; go_simp; all_goals (with_reducible rfl)
              refine wpAnyIn_done (by kernel_rfl) ?_ _
              rcases Nat.lt_or_ge k n with hkn | hkn
              · have u1 : (k : Int) < n := by omega
                have u2 : (n : Int) - k ≤ 64 := by omega
                have u3 : (0 : Int) ≤ (n : Int) - k := by omega
                have u4 : IntKind.i64.wrap ((n : Int) - k) = (n : Int) - k := by rw [IntKind.wrap_i64]; omega
                have u5 : ((n : Int) - k).toNat = n - k := by omega
                obtain ⟨fn2, tmps2, assign2, body2, hy2, hRR2⟩ := hY [0] 1 W3.drew (hJd _ _ hJ3) (by simp) rfl
                simp [partEnc] at hy2
                gi_wp2
                gi_region_with (refine hRR2.mono ?_; rintro e W4 h4; obtain ⟨r, rfl, h5⟩ : ∃ r, e = .returned (.bool r) ∧ ((r = true ∧ J [0, 1] W4) ∨ (r = false ∧ Jx [0, 1] W4)) := two_ways h4)
                all_goals
                  gi_wp2
                  go_end0
                  refine ⟨⟨_, rfl⟩, ?_⟩
                  rcases h5 with ⟨_, h⟩ | ⟨_, h⟩
                  · first | exact .inl h | exact .inl ⟨_, rfl, h⟩ | exact .inl ⟨_, by simp, h⟩
                  · exact .inr ⟨_, h⟩
              · have u1 : (n : Int) ≤ k := by omega
                gi_wp2
                go_end0
                exact ⟨⟨_, rfl⟩, .inl hJ3⟩
            exact AllReadyIn.nil
          · skip
            refine wpAnyIn_take (i := 10) (v := ?_) rfl rfl (by kernel_rfl) (by kernel_rfl) (by kernel_rfl) (fun _ _ _ h => h) ⟨Or.inl ⟨by rfl, ?_⟩, fun _ => rfl⟩ ?_
            rotate_left
            · intro w; go_simp; all_goals (with_reducible rfl)
            refine wpAnyIn_ready (rs := [11, 12]) (by kernel_rfl) (by simp) ?_
            refine AllReadyIn.cons rfl (fun K hK => ?_) ?_
            · go_simp
              refine hK _ _ ?_
              clear hK K
              refine wpAnyIn_ready (rs := [12]) (by kernel_rfl) (by simp) ?_
              refine AllReadyIn.cons rfl (fun K hK => ?_) ?_
              · go_simp
                refine hK _ _ ?_
                clear hK K
                refine wpAnyIn_ready (rs := [13]) (by kernel_rfl) (by simp) ?_
                refine AllReadyIn.cons rfl (fun K hK => ?_) ?_
                · go_simp
                  refine hK _ _ ?_
                  clear hK K
                  refine wpAnyIn_take (i := 14) (v := ?_) rfl rfl (by kernel_rfl) (by kernel_rfl) (by kernel_rfl) (fun _ _ _ h => h) ⟨Or.inl ⟨by rfl, ?_⟩, fun _ => rfl⟩ ?_
                  rotate_left
                  · intro w; go_simp; all_goals (with_reducible rfl)
                  refine wpAnyIn_done (by kernel_rfl) ?_ _
                  gi_wp2
                  all_goals (go_end0; exact ⟨⟨_, rfl⟩, .inr ⟨_, hJx3⟩⟩)
                exact AllReadyIn.nil
              exact AllReadyIn.nil
            refine AllReadyIn.cons rfl (fun K hK => ?_) ?_
            · go_simp
              refine hK _ _ ?_
              clear hK K
              refine wpAnyIn_ready (rs := [11]) (by kernel_rfl) (by simp) ?_
              refine AllReadyIn.cons rfl (fun K hK => ?_) ?_
              · go_simp
                refine hK _ _ ?_
                clear hK K
                refine wpAnyIn_ready (rs := [13]) (by kernel_rfl) (by simp) ?_
                refine AllReadyIn.cons rfl (fun K hK => ?_) ?_
                · go_simp
                  refine hK _ _ ?_
                  clear hK K
                  refine wpAnyIn_take (i := 14) (v := ?_) rfl rfl (by kernel_rfl) (by kernel_rfl) (by kernel_rfl) (fun _ _ _ h => h) ⟨Or.inl ⟨by rfl, ?_⟩, fun _ => rfl⟩ ?_
                  rotate_left
                  · intro w; go_simp; all_goals (with_reducible rfl)
                  refine wpAnyIn_done (by kernel_rfl) ?_ _
                  gi_wp2
                  all_goals (go_end0; exact ⟨⟨_, rfl⟩, .inr ⟨_, hJx3⟩⟩)
                exact AllReadyIn.nil
              exact AllReadyIn.nil
            exact AllReadyIn.nil
        exact AllReadyIn.nil
      exact AllReadyIn.nil
    refine AllReadyIn.cons rfl (fun K hK => ?_) ?_
    · go_simp
      refine hK _ _ ?_
      clear hK K
      refine wpAnyIn_take (i := 7) (v := ?_) rfl rfl (by kernel_rfl) (by kernel_rfl) (by kernel_rfl) (fun _ _ _ h => h) ⟨Or.inl ⟨by rfl, ?_⟩, fun _ => rfl⟩ ?_
      rotate_left
      · intro w; go_simp; all_goals (with_reducible rfl)
      refine wpAnyIn_ready (rs := [4]) (by kernel_rfl) (by simp) ?_
      refine AllReadyIn.cons rfl (fun K hK => ?_) ?_
      · go_simp
        refine hK _ _ ?_
        clear hK K
        refine wpAnyIn_take (i := 8) (v := ?_) rfl rfl (by kernel_rfl) (by kernel_rfl) (by kernel_rfl) (fun _ _ _ h => h) ⟨Or.inl ⟨by rfl, ?_⟩, fun _ => rfl⟩ ?_
        rotate_left
        · intro w; go_simp; all_goals (with_reducible rfl)
        refine wpAnyIn_ready (rs := [9]) (by kernel_rfl) (by simp) ?_
        refine AllReadyIn.cons rfl (fun K hK => ?_) ?_
        · go_simp
          gi_wp2_with (refine hRR.mono ?_; rintro e W3 (⟨rfl, hJ3, hk3⟩ | ⟨rfl, hJx3⟩))
          · have a3 := (hk3.blk hA2 ha0).cell 0
            have r3 := (hk3.blk hR2 hr0).cell 0
            have n3 := (hk3.blk hN2 hnn).cell 0
            simp at a3 r3 n3
            refine wpAnyIn_take (i := 10) (v := ?_) rfl rfl (by kernel_rfl) (by kernel_rfl) (by kernel_rfl) (fun _ _ _ h => h) ⟨Or.inl ⟨by rfl, ?_⟩, fun _ => rfl⟩ ?_
            rotate_left
            · intro w; go_simp; all_goals (with_reducible rfl)
            refine wpAnyIn_take (i := 12) (v := ?_) rfl rfl (by kernel_rfl) (by kernel_rfl) (by kernel_rfl) (fun _ _ _ h => h) ⟨Or.inl ⟨by rfl, ?_⟩, fun _ => rfl⟩ ?_
            rotate_left
            · intro w; go_simp; all_goals (with_reducible rfl)
            refine wpAnyIn_ready (rs := [11]) (by kernel_rfl) (by simp) ?_
            refine AllReadyIn.cons rfl (fun K hK => ?_) ?_
            · go_simp
              refine hK _ _ ?_
              clear hK K
              refine wpAnyIn_take (i := 13) (v := ?_) rfl rfl (by kernel_rfl) (by kernel_rfl) (by kernel_rfl) (fun _ _ _ h => h) ⟨Or.inl ⟨by rfl, ?_⟩, fun _ => rfl⟩ ?_
              rotate_left
              · intro w; go_simp; all_goals (with_reducible rfl)
              refine wpAnyIn_take (i := 14) (v := ?_) rfl rfl (by kernel_rfl) (by kernel_rfl) (by kernel_rfl) (fun _ _ _ h => h) ⟨Or.inl ⟨by rfl, ?_⟩, fun _ => rfl⟩ ?_
              rotate_left
              · intro w; go_simp; all_goals (with_reducible rfl)
              refine wpAnyIn_done (by kernel_rfl) ?_ _
              rcases Nat.lt_or_ge k n with hkn | hkn
              · have u1 : (k : Int) < n := by omega
                have u2 : (n : Int) - k ≤ 64 := by omega
                have u3 : (0 : Int) ≤ (n : Int) - k := by omega
                have u4 : IntKind.i64.wrap ((n : Int) - k) = (n : Int) - k := by rw [IntKind.wrap_i64]; omega
                have u5 : ((n : Int) - k).toNat = n - k := by omega
                obtain ⟨fn2, tmps2, assign2, body2, hy2, hRR2⟩ := hY [0] 1 W3.drew (hJd _ _ hJ3) (by simp) rfl
                simp [partEnc] at hy2
                gi_wp2
                gi_region_with (refine hRR2.mono ?_; rintro e W4 h4; obtain ⟨r, rfl, h5⟩ : ∃ r, e = .returned (.bool r) ∧ ((r = true ∧ J [0, 1] W4) ∨ (r = false ∧ Jx [0, 1] W4)) := two_ways h4)
                all_goals
                  gi_wp2
                  go_end0
                  refine ⟨⟨_, rfl⟩, ?_⟩
                  rcases h5 with ⟨_, h⟩ | ⟨_, h⟩
                  · first | exact .inl h | exact .inl ⟨_, rfl, h⟩ | exact .inl ⟨_, by simp, h⟩
                  · exact .inr ⟨_, h⟩
              · have u1 : (n : Int) ≤ k := by omega
                gi_wp2
                go_end0
                exact ⟨⟨_, rfl⟩, .inl hJ3⟩
            exact AllReadyIn.nil
          · skip
            refine wpAnyIn_take (i := 10) (v := ?_) rfl rfl (by kernel_rfl) (by kernel_rfl) (by kernel_rfl) (fun _ _ _ h => h) ⟨Or.inl ⟨by rfl, ?_⟩, fun _ => rfl⟩ ?_
            rotate_left
            · intro w; go_simp; all_goals (with_reducible rfl)
            refine wpAnyIn_ready (rs := [11, 12]) (by kernel_rfl) (by simp) ?_
            refine AllReadyIn.cons rfl (fun K hK => ?_) ?_
            · go_simp
              refine hK _ _ ?_
              clear hK K
              refine wpAnyIn_ready (rs := [12]) (by kernel_rfl) (by simp) ?_
              refine AllReadyIn.cons rfl (fun K hK => ?_) ?_
              · go_simp
                refine hK _ _ ?_
                clear hK K
                refine wpAnyIn_ready (rs := [13]) (by kernel_rfl) (by simp) ?_
                refine AllReadyIn.cons rfl (fun K hK => ?_) ?_
                · go_simp
                  refine hK _ _ ?_
                  clear hK K
                  refine wpAnyIn_take (i := 14) (v := ?_) rfl rfl (by kernel_rfl) (by kernel_rfl) (by kernel_rfl) (fun _ _ _ h => h) ⟨Or.inl ⟨by rfl, ?_⟩, fun _ => rfl⟩ ?_
                  rotate_left
                  · intro w; go_simp; all_goals (with_reducible rfl)
                  refine wpAnyIn_done (by kernel_rfl) ?_ _
                  gi_wp2
                  all_goals (go_end0; exact ⟨⟨_, rfl⟩, .inr ⟨_, hJx3⟩⟩)
                exact AllReadyIn.nil
              exact AllReadyIn.nil
            refine AllReadyIn.cons rfl (fun K hK => ?_) ?_
            · go_simp
              refine hK _ _ ?_
              clear hK K
              refine wpAnyIn_ready (rs := [11]) (by kernel_rfl) (by simp) ?_
              refine AllReadyIn.cons rfl (fun K hK => ?_) ?_
              · go_simp
                refine hK _ _ ?_
                clear hK K
                refine wpAnyIn_ready (rs := [13]) (by kernel_rfl) (by simp) ?_
                refine AllReadyIn.cons rfl (fun K hK => ?_) ?_
                · go_simp
                  refine hK _ _ ?_
                  clear hK K
                  refine wpAnyIn_take (i := 14) (v := ?_) rfl rfl (by kernel_rfl) (by kernel_rfl) (by kernel_rfl) (fun _ _ _ h => h) ⟨Or.inl ⟨by rfl, ?_⟩, fun _ => rfl⟩ ?_
                  rotate_left
                  · intro w; go_simp; all_goals (with_reducible rfl)
                  refine wpAnyIn_done (by kernel_rfl) ?_ _
                  gi_wp2
                  all_goals (go_end0; exact ⟨⟨_, rfl⟩, .inr ⟨_, hJx3⟩⟩)
                exact AllReadyIn.nil
              exact AllReadyIn.nil
            exact AllReadyIn.nil
        exact AllReadyIn.nil
      exact AllReadyIn.nil
    exact AllReadyIn.nil
  refine AllReadyIn.cons rfl (fun K hK => ?_) ?_
  · go_simp
    refine hK _ _ ?_
    clear hK K
    refine wpAnyIn_ready (rs := [1, 5]) (by kernel_rfl) (by simp) ?_
    refine AllReadyIn.cons rfl (fun K hK => ?_) ?_
    · go_simp
      refine hK _ _ ?_
      clear hK K
      refine wpAnyIn_take (i := 2) (v := ?_) rfl rfl (by kernel_rfl) (by kernel_rfl) (by kernel_rfl) (fun _ _ _ h => h) ⟨Or.inl ⟨by rfl, ?_⟩, fun _ => rfl⟩ ?_
      rotate_left
      · intro w; go_simp; all_goals (with_reducible rfl)
      refine wpAnyIn_take (i := 3) (v := ?_) rfl rfl (by kernel_rfl) (by kernel_rfl) (by kernel_rfl) (fun _ _ _ h => h) ⟨Or.inl ⟨by rfl, ?_⟩, fun _ => rfl⟩ ?_
      rotate_left
      · intro w; go_simp; all_goals (with_reducible rfl)
      refine wpAnyIn_ready (rs := [5]) (by kernel_rfl) (by simp) ?_
      refine AllReadyIn.cons rfl (fun K hK => ?_) ?_
      · go_simp
        refine hK _ _ ?_
        clear hK K
        refine wpAnyIn_take (i := 7) (v := ?_) rfl rfl (by kernel_rfl) (by kernel_rfl) (by kernel_rfl) (fun _ _ _ h => h) ⟨Or.inl ⟨by rfl, ?_⟩, fun _ => rfl⟩ ?_
        rotate_left
        · intro w; go_simp; all_goals (with_reducible rfl)
        refine wpAnyIn_take (i := 8) (v := ?_) rfl rfl (by kernel_rfl) (by kernel_rfl) (by kernel_rfl) (fun _ _ _ h => h) ⟨Or.inl ⟨by rfl, ?_⟩, fun _ => rfl⟩ ?_
        rotate_left
        · intro w; go_simp; all_goals (with_reducible rfl)
        refine wpAnyIn_ready (rs := [9]) (by kernel_rfl) (by simp) ?_
        refine AllReadyIn.cons rfl (fun K hK => ?_) ?_
        · go_simp
          gi_wp2_with (refine hRR.mono ?_; rintro e W3 (⟨rfl, hJ3, hk3⟩ | ⟨rfl, hJx3⟩))
          · have a3 := (hk3.blk hA2 ha0).cell 0
            have r3 := (hk3.blk hR2 hr0).cell 0
            have n3 := (hk3.blk hN2 hnn).cell 0
            simp at a3 r3 n3
            refine wpAnyIn_take (i := 10) (v := ?_) rfl rfl (by kernel_rfl) (by kernel_rfl) (by kernel_rfl) (fun _ _ _ h => h) ⟨Or.inl ⟨by rfl, ?_⟩, fun _ => rfl⟩ ?_
            rotate_left
            · intro w; go_simp; all_goals (with_reducible rfl)
            refine wpAnyIn_take (i := 12) (v := ?_) rfl rfl (by kernel_rfl) (by kernel_rfl) (by kernel_rfl) (fun _ _ _ h => h) ⟨Or.inl ⟨by rfl, ?_⟩, fun _ => rfl⟩ ?_
            rotate_left
            · intro w; go_simp; all_goals (with_reducible rfl)
            refine wpAnyIn_ready (rs := [11]) (by kernel_rfl) (by simp) ?_
            refine AllReadyIn.cons rfl (fun K hK => ?_) ?_
            · go_simp
              refine hK _ _ ?_
              clear hK K
              refine wpAnyIn_take (i := 13) (v := ?_) rfl rfl (by kernel_rfl) (by kernel_rfl) (by kernel_rfl) (fun _ _ _ h => h) ⟨Or.inl ⟨by rfl, ?_⟩, fun _ => rfl⟩ ?_
              rotate_left
              · intro w; go_simp; all_goals (with_reducible rfl)
              refine wpAnyIn_take (i := 14) (v := ?_) rfl rfl (by kernel_rfl) (by kernel_rfl) (by kernel_rfl) (fun _ _ _ h => h) ⟨Or.inl ⟨by rfl, ?_⟩, fun _ => rfl⟩ ?_
              rotate_left
              · intro w; go_simp; all_goals (with_reducible rfl)
              refine wpAnyIn_done (by kernel_rfl) ?_ _
              rcases Nat.lt_or_ge k n with hkn | hkn
              · have u1 : (k : Int) < n := by omega
                have u2 : (n : Int) - k ≤ 64 := by omega
                have u3 : (0 : Int) ≤ (n : Int) - k := by omega
                have u4 : IntKind.i64.wrap ((n : Int) - k) = (n : Int) - k := by rw [IntKind.wrap_i64]; omega
                have u5 : ((n : Int) - k).toNat = n - k := by omega
                obtain ⟨fn2, tmps2, assign2, body2, hy2, hRR2⟩ := hY [0] 1 W3.drew (hJd _ _ hJ3) (by simp) rfl
                simp [partEnc] at hy2
                gi_wp2
                gi_region_with (refine hRR2.mono ?_; rintro e W4 h4; obtain ⟨r, rfl, h5⟩ : ∃ r, e = .returned (.bool r) ∧ ((r = true ∧ J [0, 1] W4) ∨ (r = false ∧ Jx [0, 1] W4)) := two_ways h4)
                all_goals
                  gi_wp2
                  go_end0
                  refine ⟨⟨_, rfl⟩, ?_⟩
                  rcases h5 with ⟨_, h⟩ | ⟨_, h⟩
                  · first | exact .inl h | exact .inl ⟨_, rfl, h⟩ | exact .inl ⟨_, by simp, h⟩
                  · exact .inr ⟨_, h⟩
              · have u1 : (n : Int) ≤ k := by omega
                gi_wp2
                go_end0
                exact ⟨⟨_, rfl⟩, .inl hJ3⟩
            exact AllReadyIn.nil
          · skip
            refine wpAnyIn_take (i := 10) (v := ?_) rfl rfl (by kernel_rfl) (by kernel_rfl) (by kernel_rfl) (fun _ _ _ h => h) ⟨Or.inl ⟨by rfl, ?_⟩, fun _ => rfl⟩ ?_
            rotate_left
            · intro w; go_simp; all_goals (with_reducible rfl)
            refine wpAnyIn_ready (rs := [11, 12]) (by kernel_rfl) (by simp) ?_
            refine AllReadyIn.cons rfl (fun K hK => ?_) ?_
            · go_simp
              refine hK _ _ ?_
              clear hK K
              refine wpAnyIn_ready (rs := [12]) (by kernel_rfl) (by simp) ?_
              refine AllReadyIn.cons rfl (fun K hK => ?_) ?_
              · go_simp
                refine hK _ _ ?_
                clear hK K
                refine wpAnyIn_ready (rs := [13]) (by kernel_rfl) (by simp) ?_
                refine AllReadyIn.cons rfl (fun K hK => ?_) ?_
                · go_simp
                  refine hK _ _ ?_
                  clear hK K
                  refine wpAnyIn_take (i := 14) (v := ?_) rfl rfl (by kernel_rfl) (by kernel_rfl) (by kernel_rfl) (fun _ _ _ h => h) ⟨Or.inl ⟨by rfl, ?_⟩, fun _ => rfl⟩ ?_
                  rotate_left
                  · intro w; go_simp; all_goals (with_reducible rfl)
                  refine wpAnyIn_done (by kernel_rfl) ?_ _
                  gi_wp2
                  all_goals (go_end0; exact ⟨⟨_, rfl⟩, .inr ⟨_, hJx3⟩⟩)
                exact AllReadyIn.nil
              exact AllReadyIn.nil
            refine AllReadyIn.cons rfl (fun K hK => ?_) ?_
            · go_simp
              refine hK _ _ ?_
              clear hK K
              refine wpAnyIn_ready (rs := [11]) (by kernel_rfl) (by simp) ?_
              refine AllReadyIn.cons rfl (fun K hK => ?_) ?_
              · go_simp
                refine hK _ _ ?_
                clear hK K
                refine wpAnyIn_ready (rs := [13]) (by kernel_rfl) (by simp) ?_
                refine AllReadyIn.cons rfl (fun K hK => ?_) ?_
                · go_simp
                  refine hK _ _ ?_
                  clear hK K
                  refine wpAnyIn_take (i := 14) (v := ?_) rfl rfl (by kernel_rfl) (by kernel_rfl) (by kernel_rfl) (fun _ _ _ h => h) ⟨Or.inl ⟨by rfl, ?_⟩, fun _ => rfl⟩ ?_
                  rotate_left
                  · intro w; go_simp; all_goals (with_reducible rfl)
                  refine wpAnyIn_done (by kernel_rfl) ?_ _
                  gi_wp2
                  all_goals (go_end0; exact ⟨⟨_, rfl⟩, .inr ⟨_, hJx3⟩⟩)
                exact AllReadyIn.nil
              exact AllReadyIn.nil
            exact AllReadyIn.nil
        exact AllReadyIn.nil
      exact AllReadyIn.nil
    refine AllReadyIn.cons rfl (fun K hK => ?_) ?_
    · go_simp
      refine hK _ _ ?_
      clear hK K
      refine wpAnyIn_take (i := 7) (v := ?_) rfl rfl (by kernel_rfl) (by kernel_rfl) (by kernel_rfl) (fun _ _ _ h => h) ⟨Or.inl ⟨by rfl, ?_⟩, fun _ => rfl⟩ ?_
      rotate_left
      · intro w; go_simp; all_goals (with_reducible rfl)
      refine wpAnyIn_ready (rs := [1]) (by kernel_rfl) (by simp) ?_
      refine AllReadyIn.cons rfl (fun K hK => ?_) ?_
      · go_simp
        refine hK _ _ ?_
        clear hK K
        refine wpAnyIn_take (i := 2) (v := ?_) rfl rfl (by kernel_rfl) (by kernel_rfl) (by kernel_rfl) (fun _ _ _ h => h) ⟨Or.inl ⟨by rfl, ?_⟩, fun _ => rfl⟩ ?_
        rotate_left
        · intro w; go_simp; all_goals (with_reducible rfl)
        refine wpAnyIn_take (i := 3) (v := ?_) rfl rfl (by kernel_rfl) (by kernel_rfl) (by kernel_rfl) (fun _ _ _ h => h) ⟨Or.inl ⟨by rfl, ?_⟩, fun _ => rfl⟩ ?_
        rotate_left
        · intro w; go_simp; all_goals (with_reducible rfl)
        refine wpAnyIn_take (i := 8) (v := ?_) rfl rfl (by kernel_rfl) (by kernel_rfl) (by kernel_rfl) (fun _ _ _ h => h) ⟨Or.inl ⟨by rfl, ?_⟩, fun _ => rfl⟩ ?_
        rotate_left
        · intro w; go_simp; all_goals (with_reducible rfl)
        refine wpAnyIn_ready (rs := [9]) (by kernel_rfl) (by simp) ?_
        refine AllReadyIn.cons rfl (fun K hK => ?_) ?_
        · go_simp
          gi_wp2_with (refine hRR.mono ?_; rintro e W3 (⟨rfl, hJ3, hk3⟩ | ⟨rfl, hJx3⟩))
          · have a3 := (hk3.blk hA2 ha0).cell 0
            have r3 := (hk3.blk hR2 hr0).cell 0
            have n3 := (hk3.blk hN2 hnn).cell 0
            simp at a3 r3 n3
            refine wpAnyIn_take (i := 10) (v := ?_) rfl rfl (by kernel_rfl) (by kernel_rfl) (by kernel_rfl) (fun _ _ _ h => h) ⟨Or.inl ⟨by rfl, ?_⟩, fun _ => rfl⟩ ?_
            rotate_left
            · intro w; go_simp; all_goals (with_reducible rfl)
            refine wpAnyIn_take (i := 12) (v := ?_) rfl rfl (by kernel_rfl) (by kernel_rfl) (by kernel_rfl) (fun _ _ _ h => h) ⟨Or.inl ⟨by rfl, ?_⟩, fun _ => rfl⟩ ?_
            rotate_left
            · intro w; go_simp; all_goals (with_reducible rfl)
            refine wpAnyIn_ready (rs := [11]) (by kernel_rfl) (by simp) ?_
            refine AllReadyIn.cons rfl (fun K hK => ?_) ?_
            · go_simp
              refine hK _ _ ?_
              clear hK K
              refine wpAnyIn_take (i := 13) (v := ?_) rfl rfl (by kernel_rfl) (by kernel_rfl) (by kernel_rfl) (fun _ _ _ h => h) ⟨Or.inl ⟨by rfl, ?_⟩, fun _ => rfl⟩ ?_
              rotate_left
              · intro w; go_simp; all_goals (with_reducible rfl)
              refine wpAnyIn_take (i := 14) (v := ?_) rfl rfl (by kernel_rfl) (by kernel_rfl) (by kernel_rfl) (fun _ _ _ h => h) ⟨Or.inl ⟨by rfl, ?_⟩, fun _ => rfl⟩ ?_
              rotate_left
              · intro w; go_simp; all_goals (with_reducible rfl)
              refine wpAnyIn_done (by kernel_rfl) ?_ _
              rcases Nat.lt_or_ge k n with hkn | hkn
              · have u1 : (k : Int) < n := by omega
                have u2 : (n : Int) - k ≤ 64 := by omega
                have u3 : (0 : Int) ≤ (n : Int) - k := by omega
                have u4 : IntKind.i64.wrap ((n : Int) - k) = (n : Int) - k := by rw [IntKind.wrap_i64]; omega
                have u5 : ((n : Int) - k).toNat = n - k := by omega
                obtain ⟨fn2, tmps2, assign2, body2, hy2, hRR2⟩ := hY [0] 1 W3.drew (hJd _ _ hJ3) (by simp) rfl
                simp [partEnc] at hy2
                gi_wp2
                gi_region_with (refine hRR2.mono ?_; rintro e W4 h4; obtain ⟨r, rfl, h5⟩ : ∃ r, e = .returned (.bool r) ∧ ((r = true ∧ J [0, 1] W4) ∨ (r = false ∧ Jx [0, 1] W4)) := two_ways h4)
                all_goals
                  gi_wp2
                  go_end0
                  refine ⟨⟨_, rfl⟩, ?_⟩
                  rcases h5 with ⟨_, h⟩ | ⟨_, h⟩
                  · first | exact .inl h | exact .inl ⟨_, rfl, h⟩ | exact .inl ⟨_, by simp, h⟩
                  · exact .inr ⟨_, h⟩
              · have u1 : (n : Int) ≤ k := by omega
                gi_wp2
                go_end0
                exact ⟨⟨_, rfl⟩, .inl hJ3⟩
            exact AllReadyIn.nil
          · skip
            refine wpAnyIn_take (i := 10) (v := ?_) rfl rfl (by kernel_rfl) (by kernel_rfl) (by kernel_rfl) (fun _ _ _ h => h) ⟨Or.inl ⟨by rfl, ?_⟩, fun _ => rfl⟩ ?_
            rotate_left
            · intro w; go_simp; all_goals (with_reducible rfl)
            refine wpAnyIn_ready (rs := [11, 12]) (by kernel_rfl) (by simp) ?_
            refine AllReadyIn.cons rfl (fun K hK => ?_) ?_
            · go_simp
              refine hK _ _ ?_
              clear hK K
              refine wpAnyIn_ready (rs := [12]) (by kernel_rfl) (by simp) ?_
              refine AllReadyIn.cons rfl (fun K hK => ?_) ?_
              · go_simp
                refine hK _ _ ?_
                clear hK K
                refine wpAnyIn_ready (rs := [13]) (by kernel_rfl) (by simp) ?_
                refine AllReadyIn.cons rfl (fun K hK => ?_) ?_
                · go_simp
                  refine hK _ _ ?_
                  clear hK K
                  refine wpAnyIn_take (i := 14) (v := ?_) rfl rfl (by kernel_rfl) (by kernel_rfl) (by kernel_rfl) (fun _ _ _ h => h) ⟨Or.inl ⟨by rfl, ?_⟩, fun _ => rfl⟩ ?_
                  rotate_left
                  · intro w; go_simp; all_goals (with_reducible rfl)
                  refine wpAnyIn_done (by kernel_rfl) ?_ _
                  gi_wp2
                  all_goals (go_end0; exact ⟨⟨_, rfl⟩, .inr ⟨_, hJx3⟩⟩)
                exact AllReadyIn.nil
              exact AllReadyIn.nil
            refine AllReadyIn.cons rfl (fun K hK => ?_) ?_
            · go_simp
              refine hK _ _ ?_
              clear hK K
              refine wpAnyIn_ready (rs := [11]) (by kernel_rfl) (by simp) ?_
              refine AllReadyIn.cons rfl (fun K hK => ?_) ?_
              · go_simp
                refine hK _ _ ?_
                clear hK K
                refine wpAnyIn_ready (rs := [13]) (by kernel_rfl) (by simp) ?_
                refine AllReadyIn.cons rfl (fun K hK => ?_) ?_
                · go_simp
                  refine hK _ _ ?_
                  clear hK K
                  refine wpAnyIn_take (i := 14) (v := ?_) rfl rfl (by kernel_rfl) (by kernel_rfl) (by kernel_rfl) (fun _ _ _ h => h) ⟨Or.inl ⟨by rfl, ?_⟩, fun _ => rfl⟩ ?_
                  rotate_left
                  · intro w; go_simp; all_goals (with_reducible rfl)
                  refine wpAnyIn_done (by kernel_rfl) ?_ _
                  gi_wp2
                  all_goals (go_end0; exact ⟨⟨_, rfl⟩, .inr ⟨_, hJx3⟩⟩)
                exact AllReadyIn.nil
              exact AllReadyIn.nil
            exact AllReadyIn.nil
        exact AllReadyIn.nil
      exact AllReadyIn.nil
    exact AllReadyIn.nil
  refine AllReadyIn.cons rfl (fun K hK => ?_) ?_
  · go_simp
    refine hK _ _ ?_
    clear hK K
    refine wpAnyIn_take (i := 7) (v := ?_) rfl rfl (by kernel_rfl) (by kernel_rfl) (by kernel_rfl) (fun _ _ _ h => h) ⟨Or.inl ⟨by rfl, ?_⟩, fun _ => rfl⟩ ?_
    rotate_left
    · intro w; go_simp; all_goals (with_reducible rfl)
    refine wpAnyIn_ready (rs := [1, 4]) (by kernel_rfl) (by simp) ?_
    refine AllReadyIn.cons rfl (fun K hK => ?_) ?_
    · go_simp
      refine hK _ _ ?_
      clear hK K
      refine wpAnyIn_take (i := 2) (v := ?_) rfl rfl (by kernel_rfl) (by kernel_rfl) (by kernel_rfl) (fun _ _ _ h => h) ⟨Or.inl ⟨by rfl, ?_⟩, fun _ => rfl⟩ ?_
      rotate_left
      · intro w; go_simp; all_goals (with_reducible rfl)
      refine wpAnyIn_take (i := 3) (v := ?_) rfl rfl (by kernel_rfl) (by kernel_rfl) (by kernel_rfl) (fun _ _ _ h => h) ⟨Or.inl ⟨by rfl, ?_⟩, fun _ => rfl⟩ ?_
      rotate_left
      · intro w; go_simp; all_goals (with_reducible rfl)
      refine wpAnyIn_ready (rs := [4]) (by kernel_rfl) (by simp) ?_
      refine AllReadyIn.cons rfl (fun K hK => ?_) ?_
      · go_simp
        refine hK _ _ ?_
        clear hK K
        refine wpAnyIn_take (i := 8) (v := ?_) rfl rfl (by kernel_rfl) (by kernel_rfl) (by kernel_rfl) (fun _ _ _ h => h) ⟨Or.inl ⟨by rfl, ?_⟩, fun _ => rfl⟩ ?_
        rotate_left
        · intro w; go_simp; all_goals (with_reducible rfl)
        refine wpAnyIn_ready (rs := [9]) (by kernel_rfl) (by simp) ?_
        refine AllReadyIn.cons rfl (fun K hK => ?_) ?_
        · go_simp
          gi_wp2_with (refine hRR.mono ?_; rintro e W3 (⟨rfl, hJ3, hk3⟩ | ⟨rfl, hJx3⟩))
          · have a3 := (hk3.blk hA2 ha0).cell 0
            have r3 := (hk3.blk hR2 hr0).cell 0
            have n3 := (hk3.blk hN2 hnn).cell 0
            simp at a3 r3 n3
            refine wpAnyIn_take (i := 10) (v := ?_) rfl rfl (by kernel_rfl) (by kernel_rfl) (by kernel_rfl) (fun _ _ _ h => h) ⟨Or.inl ⟨by rfl, ?_⟩, fun _ => rfl⟩ ?_
            rotate_left
            · intro w; go_simp; all_goals (with_reducible rfl)
            refine wpAnyIn_take (i := 12) (v := ?_) rfl rfl (by kernel_rfl) (by kernel_rfl) (by kernel_rfl) (fun _ _ _ h => h) ⟨Or.inl ⟨by rfl, ?_⟩, fun _ => rfl⟩ ?_
            rotate_left
            · intro w; go_simp; all_goals (with_reducible rfl)
            refine wpAnyIn_ready (rs := [11]) (by kernel_rfl) (by simp) ?_
            refine AllReadyIn.cons rfl (fun K hK => ?_) ?_
            · go_simp
              refine hK _ _ ?_
              clear hK K
              refine wpAnyIn_take (i := 13) (v := ?_) rfl rfl (by kernel_rfl) (by kernel_rfl) (by kernel_rfl) (fun _ _ _ h => h) ⟨Or.inl ⟨by rfl, ?_⟩, fun _ => rfl⟩ ?_
              rotate_left
              · intro w; go_simp; all_goals (with_reducible rfl)
              refine wpAnyIn_take (i := 14) (v := ?_) rfl rfl (by kernel_rfl) (by kernel_rfl) (by kernel_rfl) (fun _ _ _ h => h) ⟨Or.inl ⟨by rfl, ?_⟩, fun _ => rfl⟩ ?_
              rotate_left
              · intro w; go_simp; all_goals (with_reducible rfl)
              refine wpAnyIn_done (by kernel_rfl) ?_ _
              rcases Nat.lt_or_ge k n with hkn | hkn
              · have u1 : (k : Int) < n := by omega
                have u2 : (n : Int) - k ≤ 64 := by omega
                have u3 : (0 : Int) ≤ (n : Int) - k := by omega
                have u4 : IntKind.i64.wrap ((n : Int) - k) = (n : Int) - k := by rw [IntKind.wrap_i64]; omega
                have u5 : ((n : Int) - k).toNat = n - k := by omega
                obtain ⟨fn2, tmps2, assign2, body2, hy2, hRR2⟩ := hY [0] 1 W3.drew (hJd _ _ hJ3) (by simp) rfl
                simp [partEnc] at hy2
                gi_wp2
                gi_region_with (refine hRR2.mono ?_; rintro e W4 h4; obtain ⟨r, rfl, h5⟩ : ∃ r, e = .returned (.bool r) ∧ ((r = true ∧ J [0, 1] W4) ∨ (r = false ∧ Jx [0, 1] W4)) := two_ways h4)
                all_goals
                  gi_wp2
                  go_end0
                  refine ⟨⟨_, rfl⟩, ?_⟩
                  rcases h5 with ⟨_, h⟩ | ⟨_, h⟩
                  · first | exact .inl h | exact .inl ⟨_, rfl, h⟩ | exact .inl ⟨_, by simp, h⟩
                  · exact .inr ⟨_, h⟩
              · have u1 : (n : Int) ≤ k := by omega
                gi_wp2
                go_end0
                exact ⟨⟨_, rfl⟩, .inl hJ3⟩
            exact AllReadyIn.nil
          · skip
            refine wpAnyIn_take (i := 10) (v := ?_) rfl rfl (by kernel_rfl) (by kernel_rfl) (by kernel_rfl) (fun _ _ _ h => h) ⟨Or.inl ⟨by rfl, ?_⟩, fun _ => rfl⟩ ?_
            rotate_left
            · intro w; go_simp; all_goals (with_reducible rfl)
            refine wpAnyIn_ready (rs := [11, 12]) (by kernel_rfl) (by simp) ?_
            refine AllReadyIn.cons rfl (fun K hK => ?_) ?_
            · go_simp
              refine hK _ _ ?_
              clear hK K
              refine wpAnyIn_ready (rs := [12]) (by kernel_rfl) (by simp) ?_
              refine AllReadyIn.cons rfl (fun K hK => ?_) ?_
              · go_simp
                refine hK _ _ ?_
                clear hK K
                refine wpAnyIn_ready (rs := [13]) (by kernel_rfl) (by simp) ?_
                refine AllReadyIn.cons rfl (fun K hK => ?_) ?_
                · go_simp
                  refine hK _ _ ?_
                  clear hK K
                  refine wpAnyIn_take (i := 14) (v := ?_) rfl rfl (by kernel_rfl) (by kernel_rfl) (by kernel_rfl) (fun _ _ _ h => h) ⟨Or.inl ⟨by rfl, ?_⟩, fun _ => rfl⟩ ?_
                  rotate_left
                  · intro w; go_simp; all_goals (with_reducible rfl)
                  refine wpAnyIn_done (by kernel_rfl) ?_ _
                  gi_wp2
                  all_goals (go_end0; exact ⟨⟨_, rfl⟩, .inr ⟨_, hJx3⟩⟩)
                exact AllReadyIn.nil
              exact AllReadyIn.nil
            refine AllReadyIn.cons rfl (fun K hK => ?_) ?_
            · go_simp
              refine hK _ _ ?_
              clear hK K
              refine wpAnyIn_ready (rs := [11]) (by kernel_rfl) (by simp) ?_
              refine AllReadyIn.cons rfl (fun K hK => ?_) ?_
              · go_simp
                refine hK _ _ ?_
                clear hK K
                refine wpAnyIn_ready (rs := [13]) (by kernel_rfl) (by simp) ?_
                refine AllReadyIn.cons rfl (fun K hK => ?_) ?_
                · go_simp
                  refine hK _ _ ?_
                  clear hK K
                  refine wpAnyIn_take (i := 14) (v := ?_) rfl rfl (by kernel_rfl) (by kernel_rfl) (by kernel_rfl) (fun _ _ _ h => h) ⟨Or.inl ⟨by rfl, ?_⟩, fun _ => rfl⟩ ?_
                  rotate_left
                  · intro w; go_simp; all_goals (with_reducible rfl)
                  refine wpAnyIn_done (by kernel_rfl) ?_ _
                  gi_wp2
                  all_goals (go_end0; exact ⟨⟨_, rfl⟩, .inr ⟨_, hJx3⟩⟩)
                exact AllReadyIn.nil
              exact AllReadyIn.nil
            exact AllReadyIn.nil
        exact AllReadyIn.nil
      exact AllReadyIn.nil
    refine AllReadyIn.cons rfl (fun K hK => ?_) ?_
    · go_simp
      refine hK _ _ ?_
      clear hK K
      refine wpAnyIn_ready (rs := [1]) (by kernel_rfl) (by simp) ?_
      refine AllReadyIn.cons rfl (fun K hK => ?_) ?_
      · go_simp
        refine hK _ _ ?_
        clear hK K
        refine wpAnyIn_take (i := 2) (v := ?_) rfl rfl (by kernel_rfl) (by kernel_rfl) (by kernel_rfl) (fun _ _ _ h => h) ⟨Or.inl ⟨by rfl, ?_⟩, fun _ => rfl⟩ ?_
        rotate_left
        · intro w; go_simp; all_goals (with_reducible rfl)
        refine wpAnyIn_take (i := 3) (v := ?_) rfl rfl (by kernel_rfl) (by kernel_rfl) (by kernel_rfl) (fun _ _ _ h => h) ⟨Or.inl ⟨by rfl, ?_⟩, fun _ => rfl⟩ ?_
        rotate_left
        · intro w; go_simp; all_goals (with_reducible rfl)
        refine wpAnyIn_take (i := 8) (v := ?_) rfl rfl (by kernel_rfl) (by kernel_rfl) (by kernel_rfl) (fun _ _ _ h => h) ⟨Or.inl ⟨by rfl, ?_⟩, fun _ => rfl⟩ ?_
        rotate_left
        · intro w; go_simp; all_goals (with_reducible rfl)
        refine wpAnyIn_ready (rs := [9]) (by kernel_rfl) (by simp) ?_
        refine AllReadyIn.cons rfl (fun K hK => ?_) ?_
        · go_simp
          gi_wp2_with (refine hRR.mono ?_; rintro e W3 (⟨rfl, hJ3, hk3⟩ | ⟨rfl, hJx3⟩))
          · have a3 := (hk3.blk hA2 ha0).cell 0
            have r3 := (hk3.blk hR2 hr0).cell 0
            have n3 := (hk3.blk hN2 hnn).cell 0
            simp at a3 r3 n3
            refine wpAnyIn_take (i := 10) (v := ?_) rfl rfl (by kernel_rfl) (by kernel_rfl) (by kernel_rfl) (fun _ _ _ h => h) ⟨Or.inl ⟨by rfl, ?_⟩, fun _ => rfl⟩ ?_
            rotate_left
            · intro w; go_simp; all_goals (with_reducible rfl)
            refine wpAnyIn_take (i := 12) (v := ?_) rfl rfl (by kernel_rfl) (by kernel_rfl) (by kernel_rfl) (fun _ _ _ h => h) ⟨Or.inl ⟨by rfl, ?_⟩, fun _ => rfl⟩ ?_
            rotate_left
            · intro w; go_simp; all_goals (with_reducible rfl)
            refine wpAnyIn_ready (rs := [11]) (by kernel_rfl) (by simp) ?_
            refine AllReadyIn.cons rfl (fun K hK => ?_) ?_
            · go_simp
              refine hK _ _ ?_
              clear hK K
              refine wpAnyIn_take (i := 13) (v := ?_) rfl rfl (by kernel_rfl) (by kernel_rfl) (by kernel_rfl) (fun _ _ _ h => h) ⟨Or.inl ⟨by rfl, ?_⟩, fun _ => rfl⟩ ?_
              rotate_left
              · intro w; go_simp; all_goals (with_reducible rfl)
              refine wpAnyIn_take (i := 14) (v := ?_) rfl rfl (by kernel_rfl) (by kernel_rfl) (by kernel_rfl) (fun _ _ _ h => h) ⟨Or.inl ⟨by rfl, ?_⟩, fun _ => rfl⟩ ?_
              rotate_left
              · intro w; go_simp; all_goals (with_reducible rfl)
              refine wpAnyIn_done (by kernel_rfl) ?_ _
              rcases Nat.lt_or_ge k n with hkn | hkn
              · have u1 : (k : Int) < n := by omega
                have u2 : (n : Int) - k ≤ 64 := by omega
                have u3 : (0 : Int) ≤ (n : Int) - k := by omega
                have u4 : IntKind.i64.wrap ((n : Int) - k) = (n : Int) - k := by rw [IntKind.wrap_i64]; omega
                have u5 : ((n : Int) - k).toNat = n - k := by omega
                obtain ⟨fn2, tmps2, assign2, body2, hy2, hRR2⟩ := hY [0] 1 W3.drew (hJd _ _ hJ3) (by simp) rfl
                simp [partEnc] at hy2
                gi_wp2
                gi_region_with (refine hRR2.mono ?_; rintro e W4 h4; obtain ⟨r, rfl, h5⟩ : ∃ r, e = .returned (.bool r) ∧ ((r = true ∧ J [0, 1] W4) ∨ (r = false ∧ Jx [0, 1] W4)) := two_ways h4)
                all_goals
                  gi_wp2
                  go_end0
                  refine ⟨⟨_, rfl⟩, ?_⟩
                  rcases h5 with ⟨_, h⟩ | ⟨_, h⟩
                  · first | exact .inl h | exact .inl ⟨_, rfl, h⟩ | exact .inl ⟨_, by simp, h⟩
                  · exact .inr ⟨_, h⟩
              · have u1 : (n : Int) ≤ k := by omega
                gi_wp2
                go_end0
                exact ⟨⟨_, rfl⟩, .inl hJ3⟩
            exact AllReadyIn.nil
          · skip
            refine wpAnyIn_take (i := 10) (v := ?_) rfl rfl (by kernel_rfl) (by kernel_rfl) (by kernel_rfl) (fun _ _ _ h => h) ⟨Or.inl ⟨by rfl, ?_⟩, fun _ => rfl⟩ ?_
            rotate_left
            · intro w; go_simp; all_goals (with_reducible rfl)
            refine wpAnyIn_ready (rs := [11, 12]) (by kernel_rfl) (by simp) ?_
            refine AllReadyIn.cons rfl (fun K hK => ?_) ?_
            · go_simp
              refine hK _ _ ?_
              clear hK K
              refine wpAnyIn_ready (rs := [12]) (by kernel_rfl) (by simp) ?_
              refine AllReadyIn.cons rfl (fun K hK => ?_) ?_
              · go_simp
                refine hK _ _ ?_
                clear hK K
                refine wpAnyIn_ready (rs := [13]) (by kernel_rfl) (by simp) ?_
                refine AllReadyIn.cons rfl (fun K hK => ?_) ?_
                · go_simp
                  refine hK _ _ ?_
                  clear hK K
                  refine wpAnyIn_take (i := 14) (v := ?_) rfl rfl (by kernel_rfl) (by kernel_rfl) (by kernel_rfl) (fun _ _ _ h => h) ⟨Or.inl ⟨by rfl, ?_⟩, fun _ => rfl⟩ ?_
                  rotate_left
                  · intro w; go_simp; all_goals (with_reducible rfl)
                  refine wpAnyIn_done (by kernel_rfl) ?_ _
                  gi_wp2
                  all_goals (go_end0; exact ⟨⟨_, rfl⟩, .inr ⟨_, hJx3⟩⟩)
                exact AllReadyIn.nil
              exact AllReadyIn.nil
            refine AllReadyIn.cons rfl (fun K hK => ?_) ?_
            · go_simp
              refine hK _ _ ?_
              clear hK K
              refine wpAnyIn_ready (rs := [11]) (by kernel_rfl) (by simp) ?_
              refine AllReadyIn.cons rfl (fun K hK => ?_) ?_
              · go_simp
                refine hK _ _ ?_
                clear hK K
                refine wpAnyIn_ready (rs := [13]) (by kernel_rfl) (by simp) ?_
                refine AllReadyIn.cons rfl (fun K hK => ?_) ?_
                · go_simp
                  refine hK _ _ ?_
                  clear hK K
                  refine wpAnyIn_take (i := 14) (v := ?_) rfl rfl (by kernel_rfl) (by kernel_rfl) (by kernel_rfl) (fun _ _ _ h => h) ⟨Or.inl ⟨by rfl, ?_⟩, fun _ => rfl⟩ ?_
                  rotate_left
                  · intro w; go_simp; all_goals (with_reducible rfl)
                  refine wpAnyIn_done (by kernel_rfl) ?_ _
                  gi_wp2
                  all_goals (go_end0; exact ⟨⟨_, rfl⟩, .inr ⟨_, hJx3⟩⟩)
                exact AllReadyIn.nil
              exact AllReadyIn.nil
            exact AllReadyIn.nil
        exact AllReadyIn.nil
      exact AllReadyIn.nil
    exact AllReadyIn.nil
  exact AllReadyIn.nil
end Go.Proofs
