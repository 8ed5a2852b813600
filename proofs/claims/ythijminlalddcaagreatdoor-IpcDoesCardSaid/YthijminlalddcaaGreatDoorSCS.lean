/- Slots of things (string): the iterator, the closures, Add. -/
import Derived.Test.YthijminlalddcaaGreatDoorSB
set_option linter.unusedVariables false
set_option linter.unusedSimpArgs false
namespace Go.Proofs
open Go.RowKit Go.Shelf
attribute [local go_sem] Oper.semAt_some

def zthS : Th ByteArray := ⟨0, 0, 0, 0, 0, 0, ByteArray.empty⟩
theorem cells_zS (S : St ByteArray) : ∀ i, i < 8 → ((((((((cellsOf encS S).setIfInBounds (i * 9 + 1) (.int .i64 0)).setIfInBounds (i * 9 + 1 + 1) (.int .i64 0)).setIfInBounds (i * 9 + 1 + 2) (.int .i64 0)).setIfInBounds (i * 9 + 1 + 3) (.int .i64 0)).setIfInBounds (i * 9 + 1 + 4) (.int .i64 0)).setIfInBounds (i * 9 + 1 + 5) (.int .i64 0)).setIfInBounds (i * 9 + 1 + 6) (.string ByteArray.empty)) = cellsOf encS (S.setT i zthS) := lt8 (by kernel_rfl) (by kernel_rfl) (by kernel_rfl) (by kernel_rfl) (by kernel_rfl) (by kernel_rfl) (by kernel_rfl) (by kernel_rfl)
theorem Sl.factsS {w : World} {b : Nat} {S : St ByteArray} (hb : Sl encS 125 w b S) (i : Nat) (hi : i < 8) : w.cell? ⟨b, i * 9 + 1, none⟩ = some (.int .i64 (S.th i).u) ∧ w.cell? ⟨b, i * 9 + 1 + 1, none⟩ = some (.int .i64 (S.th i).g) ∧ w.cell? ⟨b, i * 9 + 1 + 2, none⟩ = some (.int .i64 (S.th i).cu) ∧ w.cell? ⟨b, i * 9 + 1 + 3, none⟩ = some (.int .i64 (S.th i).cg) ∧ w.cell? ⟨b, i * 9 + 1 + 4, none⟩ = some (.int .i64 (S.th i).m) ∧ w.cell? ⟨b, i * 9 + 1 + 5, none⟩ = some (.int .i64 (S.th i).key) ∧ w.cell? ⟨b, i * 9 + 1 + 6, none⟩ = some (.string (S.th i).v) ∧ w.cell? ⟨b, i * 9 + 8, none⟩ = some (.bool (S.hd i)) :=
  ⟨(Blk.cell hb (i * 9 + 1)).trans (cells_u encS S i hi), (Blk.cell hb (i * 9 + 1 + 1)).trans (cells_g encS S i hi), (Blk.cell hb (i * 9 + 1 + 2)).trans (cells_cu encS S i hi), (Blk.cell hb (i * 9 + 1 + 3)).trans (cells_cg encS S i hi), (Blk.cell hb (i * 9 + 1 + 4)).trans (cells_m encS S i hi), (Blk.cell hb (i * 9 + 1 + 5)).trans (cells_key encS S i hi), (Blk.cell hb (i * 9 + 1 + 6)).trans (cells_v encS S i hi), (Blk.cell hb (i * 9 + 8)).trans (cells_hd encS S i hi)⟩
def slotEncS (b : Nat) (S : St ByteArray) (i : Nat) : Array Value := #[.int .i64 (idOf S i), .pointer (some ⟨b, i * 9, none⟩)]

set_option maxRecDepth 100000 in
set_option maxHeartbeats 1000000 in
theorem all1_inS (n l b bs : Nat) (hn : 1 ≤ n) (S : St ByteArray) (hS : S.ok)
    (X : Nat → Prop) (J Jx : List (Fin 8) → World → Prop) (W : World)
    (hY : ∀ pre x W, J pre W → pre.length < 8 → YieldAt Fence.wide (n - 1) Tryz.prog l (slotEncS b S x.1) W fun e W' =>
      (e = .returned (.bool true) ∧ J (pre ++ [x]) W' ∧ KeptX X W W') ∨ (e = .returned (.bool false) ∧ Jx (pre ++ [x]) W'))
    (hb : Sl encS 125 W b S) (hbs : Blk W bs 79 #[.pointer (some ⟨b, 0, none⟩)])
    (hb0 : ¬ X b) (hs0 : ¬ X bs) (hJ0 : J [] W) :
    CallsIn Fence.wide n Tryz.prog 87 #[.func (.yield l) #[] #[], .pointer (some ⟨bs, 0, none⟩)] W fun e W' => (∃ v, e = .returned v) ∧
      ((∃ xs : List (Fin 8), xs.map Fin.val = List.range 8 ∧ J xs W') ∨ (∃ (i : Nat) (xs : List (Fin 8)), i < 8 ∧ xs.map Fin.val = List.range (i + 1) ∧ Jx xs W')) := by
  refine callsIn_of_wp Tryz.func87 rfl trivial ?_ rfl
  simp only [Tryz.ntmps87, List.size_toArray, List.length_cons, List.length_nil, Nat.reduceAdd, Nat.reduceSub, Array.replicate_succ, Array.replicate_zero, List.push_toArray, List.append_toArray, List.nil_append, List.cons_append]
  gi_wp2
  gi_loopw [5] (fun i wr => ∃ (k : Nat) (xs : List (Fin 8)), k ≤ 8 ∧ i = .int .i64 k ∧ xs.map Fin.val = List.range k ∧ J xs wr ∧ Sl encS 125 wr b S ∧ Blk wr bs 79 #[.pointer (some ⟨b, 0, none⟩)]) (fun i _ => 8 - (intOf i).toNat)
  case atStart => exact ⟨0, [], by omega, rfl, rfl, hJ0, hb, hbs⟩
  case round =>
    obtain ⟨k, xs, hk, rfl, hxs, hJs, hs, hp⟩ := hrel
    have HX := Lib.hid hxs
    have hlen : xs.length = k := by have := congrArg List.length hxs; simpa using this
    have HL := Lib.hid hlen
    clear hxs hlen
    by_cases hlt : k < 8
    · have c0 := (Blk.cell hs (k * 9)).trans (cells_sq encS S k hlt)
      have p0 := hp.cell 0
      simp at p0
      obtain ⟨q0, q1⟩ := hS k hlt
      obtain ⟨fn, tmps, assign, body, hy, hR⟩ := hY xs ⟨k, hlt⟩ wr hJs (by rw [HL.out]; exact hlt)
      dsimp only [slotEncS, idOf] at hy
      have HS := Lib.hid hs
      have HP := Lib.hid hp
      clear hs hp hb hbs
      generalize hq : S.sq k = q at *
      have HQ := Lib.hid hq
      clear hq
      gi_wp2
      refine hR.mono ?_
      rintro e W3 (⟨rfl, hJ3, hk3⟩ | ⟨rfl, hJx3⟩)
      · gi_wp2
        go_roundw
        case rel => exact ⟨k + 1, xs ++ [⟨k, hlt⟩], by omega, by go_num, by rw [List.range_succ, List.map_append, HX.out]; rfl, hJ3, hk3.blk HS.out hb0, hk3.blk HP.out hs0⟩
        case measure => simp [intOf]; omega
      · gi_wp2
        refine bodyPost_ret (results_none rfl _ _ _) rfl ?_
        exact ⟨⟨_, rfl⟩, .inr ⟨k, xs ++ [⟨k, hlt⟩], hlt, by rw [List.range_succ, List.map_append, HX.out]; rfl, hJx3⟩⟩
    · obtain rfl : k = 8 := by omega
      gi_wp2
      go_end0
      exact ⟨⟨_, rfl⟩, .inl ⟨xs, HX.out, hJs⟩⟩

theorem all_anyS (b : Nat) (w : World) :
    Calls Tryz.prog 68 #[.pointer (some ⟨b, 0, none⟩)] w fun e w' =>
      e = .returned (.func (.func 87) #[] #[.pointer (some ⟨w.heap.size, 0, none⟩)]) ∧ Same w w' ∧ Blk w' w.heap.size 79 #[.pointer (some ⟨b, 0, none⟩)] := by
  go_enter Tryz.func68, Tryz.ntmps68
  go_wp2
  go_ret
  exact ⟨rfl, Gr.a1 _ _, Blk.new _ _ _ _ rfl⟩

theorem all_stopsS (n b bs : Nat) (hn : 1 ≤ n) (S : St ByteArray) (hS : S.ok) (X : Nat → Prop) (w : World) (hb : Sl encS 125 w b S) (hbs : Blk w bs 79 #[.pointer (some ⟨b, 0, none⟩)]) (hb0 : ¬ X b) (hs0 : ¬ X bs) :
    SeqStopsK Fence.wide n Tryz.prog 87 #[.pointer (some ⟨bs, 0, none⟩)] (fun x : Fin 8 => #[.int .i64 (idOf S x.1), .pointer (some ⟨b, x.1 * 9, none⟩)]) (KeptX X) (fun xs => xs.map Fin.val = List.range 8) (fun pre => ∃ i, i < 8 ∧ pre.map Fin.val = List.range (i + 1)) 8 w :=
  fun l J Jx W hW hJ _ hY hJ0 =>
  (all1_inS n l b bs hn S hS X J Jx W hY (Blk.below hb hW (Blk.lt hb)) (hbs.below hW hbs.lt) hb0 hs0 hJ0).mono fun e W' ⟨he, h⟩ => ⟨he, h.imp (fun h => h) (fun ⟨i, xs, hi, hx, h⟩ => ⟨xs, ⟨i, hi, hx⟩, h⟩)⟩

theorem get1_anyS (b i Bo : Nat) (S : St ByteArray) (o : Th ByteArray) (w : World) (hi : i < 8) (hb : Sl encS 125 w b S) (ho : Blk w Bo 82 #[.int .i64 o.u, .int .i64 o.g, .int .i64 o.cu, .int .i64 o.cg, .int .i64 o.m, .int .i64 o.key, .string o.v]) (hne : Bo ≠ b) :
    Calls Tryz.prog 88 #[.pointer (some ⟨b, i * 9, none⟩), .pointer (some ⟨Bo, 0, none⟩)] w fun e w' => e = .returned (.tuple #[]) ∧ Gr w w' (fun k => k = Bo) ∧ Blk w' Bo 82 #[.int .i64 (S.th i).u, .int .i64 (S.th i).g, .int .i64 (S.th i).cu, .int .i64 (S.th i).cg, .int .i64 (S.th i).m, .int .i64 (S.th i).key, .string (S.th i).v] := by
  obtain ⟨c0, c1, c2, c3, c4, c5, c6, ch⟩ := Sl.factsS hb i hi
  have d0 := ho.cell 0
  have d1 := ho.cell 1
  have d2 := ho.cell 2
  have d3 := ho.cell 3
  have d4 := ho.cell 4
  have d5 := ho.cell 5
  have d6 := ho.cell 6
  have f := fun o => ho.frozen o
  simp at d0 d1 d2 d3 d4 d5 d6
  have HO := Lib.hid ho
  clear ho hb
  go_enter Tryz.func88, Tryz.ntmps88
  go_wp2
  go_end0
  refine ⟨rfl, ?_, ?_⟩
  · repeat (first | (with_reducible exact Gr.refl _ _) | (with_reducible refine Gr.set1 ?_ _ _))
  · simpa using (Blk.set_ (Blk.set_ (Blk.set_ (Blk.set_ (Blk.set_ (Blk.set_ (Blk.set_ HO.out (0) (.int .i64 (S.th i).u)) (1) (.int .i64 (S.th i).g)) (2) (.int .i64 (S.th i).cu)) (3) (.int .i64 (S.th i).cg)) (4) (.int .i64 (S.th i).m)) (5) (.int .i64 (S.th i).key)) (6) (.string (S.th i).v))

set_option maxHeartbeats 1000000 in
theorem remove1_anyS (b i Bo Bz : Nat) (S : St ByteArray) (o : Th ByteArray) (w : World) (hi : i < 8) (hS : S.ok) (hb : Sl encS 125 w b S) (ho : Blk w Bo 82 #[.int .i64 o.u, .int .i64 o.g, .int .i64 o.cu, .int .i64 o.cg, .int .i64 o.m, .int .i64 o.key, .string o.v]) (hz : Blk w Bz 82 #[.int .i64 0, .int .i64 0, .int .i64 0, .int .i64 0, .int .i64 0, .int .i64 0, .string ByteArray.empty]) (hne : Bo ≠ b) (hne2 : Bo ≠ Bz) (hne3 : Bz ≠ b) :
    Calls Tryz.prog 71 #[.pointer (some ⟨b, i * 9, none⟩), .pointer (some ⟨Bz, 0, none⟩), .pointer (some ⟨Bo, 0, none⟩)] w fun e w' => e = .returned (.tuple #[]) ∧ Gr w w' (fun k => k = b ∨ k = Bo) ∧ Blk w' Bo 82 #[.int .i64 (S.th i).u, .int .i64 (S.th i).g, .int .i64 (S.th i).cu, .int .i64 (S.th i).cg, .int .i64 (S.th i).m, .int .i64 (S.th i).key, .string (S.th i).v] ∧ Sl encS 125 w' b (S.rm i zthS) := by
  obtain ⟨c0, c1, c2, c3, c4, c5, c6, ch⟩ := Sl.factsS hb i hi
  have f := fun o => Blk.frozen hb o
  have d0 := ho.cell 0
  have d1 := ho.cell 1
  have d2 := ho.cell 2
  have d3 := ho.cell 3
  have d4 := ho.cell 4
  have d5 := ho.cell 5
  have d6 := ho.cell 6
  have z0 := hz.cell 0
  have z1 := hz.cell 1
  have z2 := hz.cell 2
  have z3 := hz.cell 3
  have z4 := hz.cell 4
  have z5 := hz.cell 5
  have z6 := hz.cell 6
  have fo := fun o => ho.frozen o
  simp at d0 d1 d2 d3 d4 d5 d6 z0 z1 z2 z3 z4 z5 z6
  have HO := Lib.hid ho
  have HB := Lib.hid hb
  clear ho hb hz
  go_enter Tryz.func71, Tryz.ntmps71
  go_wp2
  go_region
  have hok : St.ok ((S.setT i zthS).setH i false) := hS
  have hB1 : Sl encS 125 (((((((((((((((w.setCell ⟨Bo, 0, none⟩ (.int .i64 (S.th i).u)).setCell ⟨Bo, 1, none⟩ (.int .i64 (S.th i).g)).setCell ⟨Bo, 2, none⟩ (.int .i64 (S.th i).cu)).setCell ⟨Bo, 3, none⟩ (.int .i64 (S.th i).cg)).setCell ⟨Bo, 4, none⟩ (.int .i64 (S.th i).m)).setCell ⟨Bo, 5, none⟩ (.int .i64 (S.th i).key)).setCell ⟨Bo, 6, none⟩ (.string (S.th i).v)).setCell ⟨b, i * 9 + 1, none⟩ (.int .i64 0)).setCell ⟨b, i * 9 + 1 + 1, none⟩ (.int .i64 0)).setCell ⟨b, i * 9 + 1 + 2, none⟩ (.int .i64 0)).setCell ⟨b, i * 9 + 1 + 3, none⟩ (.int .i64 0)).setCell ⟨b, i * 9 + 1 + 4, none⟩ (.int .i64 0)).setCell ⟨b, i * 9 + 1 + 5, none⟩ (.int .i64 0)).setCell ⟨b, i * 9 + 1 + 6, none⟩ (.string ByteArray.empty)).setCell ⟨b, i * 9 + 8, none⟩ (.bool false)).drew b ((S.setT i zthS).setH i false) := by
    have h := (Blk.set_ (Blk.set_ (Blk.set_ (Blk.set_ (Blk.set_ (Blk.set_ (Blk.set_ (Blk.set_ (Blk.far (Blk.far (Blk.far (Blk.far (Blk.far (Blk.far (Blk.far HB.out (p := ⟨Bo, 0, none⟩) (by dsimp only; omega) (.int .i64 (S.th i).u)) (p := ⟨Bo, 1, none⟩) (by dsimp only; omega) (.int .i64 (S.th i).g)) (p := ⟨Bo, 2, none⟩) (by dsimp only; omega) (.int .i64 (S.th i).cu)) (p := ⟨Bo, 3, none⟩) (by dsimp only; omega) (.int .i64 (S.th i).cg)) (p := ⟨Bo, 4, none⟩) (by dsimp only; omega) (.int .i64 (S.th i).m)) (p := ⟨Bo, 5, none⟩) (by dsimp only; omega) (.int .i64 (S.th i).key)) (p := ⟨Bo, 6, none⟩) (by dsimp only; omega) (.string (S.th i).v)) (i * 9 + 1) (.int .i64 0)) (i * 9 + 1 + 1) (.int .i64 0)) (i * 9 + 1 + 2) (.int .i64 0)) (i * 9 + 1 + 3) (.int .i64 0)) (i * 9 + 1 + 4) (.int .i64 0)) (i * 9 + 1 + 5) (.int .i64 0)) (i * 9 + 1 + 6) (.string ByteArray.empty)) (i * 9 + 8) (.bool false))
    rw [cells_zS _ _ hi, cells_setH _ _ _ _ hi] at h
    exact Blk.drew h
  have hO1 : Blk (((((((((((((((w.setCell ⟨Bo, 0, none⟩ (.int .i64 (S.th i).u)).setCell ⟨Bo, 1, none⟩ (.int .i64 (S.th i).g)).setCell ⟨Bo, 2, none⟩ (.int .i64 (S.th i).cu)).setCell ⟨Bo, 3, none⟩ (.int .i64 (S.th i).cg)).setCell ⟨Bo, 4, none⟩ (.int .i64 (S.th i).m)).setCell ⟨Bo, 5, none⟩ (.int .i64 (S.th i).key)).setCell ⟨Bo, 6, none⟩ (.string (S.th i).v)).setCell ⟨b, i * 9 + 1, none⟩ (.int .i64 0)).setCell ⟨b, i * 9 + 1 + 1, none⟩ (.int .i64 0)).setCell ⟨b, i * 9 + 1 + 2, none⟩ (.int .i64 0)).setCell ⟨b, i * 9 + 1 + 3, none⟩ (.int .i64 0)).setCell ⟨b, i * 9 + 1 + 4, none⟩ (.int .i64 0)).setCell ⟨b, i * 9 + 1 + 5, none⟩ (.int .i64 0)).setCell ⟨b, i * 9 + 1 + 6, none⟩ (.string ByteArray.empty)).setCell ⟨b, i * 9 + 8, none⟩ (.bool false)).drew Bo 82 #[.int .i64 (S.th i).u, .int .i64 (S.th i).g, .int .i64 (S.th i).cu, .int .i64 (S.th i).cg, .int .i64 (S.th i).m, .int .i64 (S.th i).key, .string (S.th i).v] := by
    have h := (Blk.far (Blk.far (Blk.far (Blk.far (Blk.far (Blk.far (Blk.far (Blk.far (Blk.set_ (Blk.set_ (Blk.set_ (Blk.set_ (Blk.set_ (Blk.set_ (Blk.set_ HO.out (0) (.int .i64 (S.th i).u)) (1) (.int .i64 (S.th i).g)) (2) (.int .i64 (S.th i).cu)) (3) (.int .i64 (S.th i).cg)) (4) (.int .i64 (S.th i).m)) (5) (.int .i64 (S.th i).key)) (6) (.string (S.th i).v)) (p := ⟨b, i * 9 + 1, none⟩) (by dsimp only; omega) (.int .i64 0)) (p := ⟨b, i * 9 + 1 + 1, none⟩) (by dsimp only; omega) (.int .i64 0)) (p := ⟨b, i * 9 + 1 + 2, none⟩) (by dsimp only; omega) (.int .i64 0)) (p := ⟨b, i * 9 + 1 + 3, none⟩) (by dsimp only; omega) (.int .i64 0)) (p := ⟨b, i * 9 + 1 + 4, none⟩) (by dsimp only; omega) (.int .i64 0)) (p := ⟨b, i * 9 + 1 + 5, none⟩) (by dsimp only; omega) (.int .i64 0)) (p := ⟨b, i * 9 + 1 + 6, none⟩) (by dsimp only; omega) (.string ByteArray.empty)) (p := ⟨b, i * 9 + 8, none⟩) (by dsimp only; omega) (.bool false))
    refine Blk.drew ?_
    simpa using h
  have hG1 : Gr w (((((((((((((((w.setCell ⟨Bo, 0, none⟩ (.int .i64 (S.th i).u)).setCell ⟨Bo, 1, none⟩ (.int .i64 (S.th i).g)).setCell ⟨Bo, 2, none⟩ (.int .i64 (S.th i).cu)).setCell ⟨Bo, 3, none⟩ (.int .i64 (S.th i).cg)).setCell ⟨Bo, 4, none⟩ (.int .i64 (S.th i).m)).setCell ⟨Bo, 5, none⟩ (.int .i64 (S.th i).key)).setCell ⟨Bo, 6, none⟩ (.string (S.th i).v)).setCell ⟨b, i * 9 + 1, none⟩ (.int .i64 0)).setCell ⟨b, i * 9 + 1 + 1, none⟩ (.int .i64 0)).setCell ⟨b, i * 9 + 1 + 2, none⟩ (.int .i64 0)).setCell ⟨b, i * 9 + 1 + 3, none⟩ (.int .i64 0)).setCell ⟨b, i * 9 + 1 + 4, none⟩ (.int .i64 0)).setCell ⟨b, i * 9 + 1 + 5, none⟩ (.int .i64 0)).setCell ⟨b, i * 9 + 1 + 6, none⟩ (.string ByteArray.empty)).setCell ⟨b, i * 9 + 8, none⟩ (.bool false)).drew (fun k => k = b ∨ k = Bo) := by
    refine Gr.drew ?_
    repeat (first | (with_reducible exact Gr.refl _ _) | (with_reducible refine Gr.setCell ?_ (.inl (by first | exact .inl rfl | exact .inr rfl)) _))
  go_wp2_with fail
  refine (next_any encS _ _ _ _ hi hok 125 hB1).mono ?_
  rintro e w1 ⟨rfl, hG2, hB2⟩
  go_wp2
  go_end0
  exact ⟨rfl, hG1.trans hG2 (fun j _ h => .inl h), hG2.blk hO1 hne, hB2⟩

/-- What Add leaves. -/
def AddPostS (b : Nat) (S : St ByteArray) (t : Th ByteArray) (w : World) (e : Ending) (w' : World) : Prop :=
  (e = .returned (.tuple #[.int .i64 0, .int .i64 101]) ∧ (∀ j, j < 8 → S.hd j = true) ∧ Same w w') ∨
  (∃ i, i < 8 ∧ (∀ j, j < i → S.hd j = true) ∧ S.hd i = false ∧ e = .returned (.tuple #[.int .i64 (idOf S i), .int .i64 0]) ∧ Gr w w' (fun k => k = b) ∧ Sl encS 125 w' b ((S.setT i t).setH i true))

set_option maxRecDepth 100000 in
set_option maxHeartbeats 2000000 in
theorem add_anyS (b : Nat) (S : St ByteArray) (hS : S.ok) (t : Th ByteArray) (w : World) (hb : Sl encS 125 w b S) :
    Calls Tryz.prog 43 #[.pointer (some ⟨b, 0, none⟩), .agg #[.int .i64 t.u, .int .i64 t.g, .int .i64 t.cu, .int .i64 t.cg, .int .i64 t.m, .int .i64 t.key, .string t.v]] w (AddPostS b S t w) := by
  have hlt := Blk.lt hb
  refine (callsIn_wide (n := 9)).1 ?_
  refine callsIn_of_wp_marks Tryz.func43 rfl trivial ?_ rfl
  simp only [Tryz.ntmps43, List.size_toArray, List.length_cons, List.length_nil, Nat.reduceAdd, Nat.reduceSub, Array.replicate_succ, Array.replicate_zero, List.push_toArray, List.append_toArray, List.nil_append, List.cons_append]
  gi_wp2_with (refine ⟨trivial, ?_⟩; gi_at_call 68; refine (callsIn_wide.2 (all_anyS _ _)).mono ?_; rintro e w1 ⟨rfl, hG, hBs⟩)
  have hv0 : Blk w1 w.heap.size 82 #[.int .i64 t.u, .int .i64 t.g, .int .i64 t.cu, .int .i64 t.cg, .int .i64 t.m, .int .i64 t.key, .string t.v] := hG.blk (((Blk.new _ _ _ _ rfl).alloc _).alloc _) (fun f => f)
  have hr1 : Blk w1 (w.heap.size + 1) 3 #[.int .i64 0] := hG.blk ((Blk.new _ _ _ _ (by simp)).alloc _) (fun f => f)
  have hr2 : Blk w1 (w.heap.size + 1 + 1) 44 #[.int .i64 0] := hG.blk (Blk.new _ _ _ _ (by simp)) (fun f => f)
  have hGw : Same w w1 := (Gr.a3 _ _ _ _).next hG
  have hb1 : Sl encS 125 w1 b S := hGw.blk hb (fun f => f)
  have hsz := hGw.size
  have hBs' : Blk w1 (w.heap.size + 1 + 1 + 1) 79 #[.pointer (some ⟨b, 0, none⟩)] := by simpa using hBs
  clear hBs
  refine wpIn_rangeFunc_ownG rfl (by omega) (gf := 87) (lb := #[.pointer (some ⟨w.heap.size + 1 + 1 + 1, 0, none⟩)]) rfl trivial (enters_of Tryz.func87 (by kernel_rfl) rfl)
    (all_stopsS _ b _ (by omega) S hS (fun _ => False) _ hb1 hBs' (fun f => f) (fun f => f)) keptX_t keptX_b (Below.refl _ _) (fun _ => rfl)
    (fun pre W => (∀ j ∈ pre, S.hd j.1 = true) ∧ Same w1 W)
    (fun c pre W => c = .ret ∧ (∃ x, Came S pre x ∧ Sl encS 125 W b ((S.setT x.1 t).setH x.1 true) ∧ Blk W (w.heap.size + 1) 3 #[.int .i64 (idOf S x.1)]) ∧ Blk W (w.heap.size + 1 + 1) 44 #[.int .i64 0] ∧ Gr w1 W (fun k => k = b ∨ w.heap.size ≤ k))
    (OwnFrom.and (ownFrom_pure _ _) (ownFrom_gr _ (Nat.le_refl _)))
    (fun c => OwnFrom.and (ownFrom_pure _ _) (OwnFrom.and (ownFrom_ex fun x => OwnFrom.and (ownFrom_pure _ _) (OwnFrom.and (ownFrom_blk _ _ _) (ownFrom_blk _ _ _))) (OwnFrom.and (ownFrom_blk _ _ _) (ownFrom_gr _ (Nat.le_refl _)))))
    ⟨by simp, Gr.refl _ _⟩
    (fun x => { tmps := #[.pointer (some ⟨b, 0, none⟩), .agg #[.int .i64 t.u, .int .i64 t.g, .int .i64 t.cu, .int .i64 t.cg, .int .i64 t.m, .int .i64 t.key, .string t.v], undef, .pointer (some ⟨w.heap.size, 0, none⟩), .pointer (some ⟨w.heap.size + 1, 0, none⟩), .pointer (some ⟨w.heap.size + 1 + 1, 0, none⟩), .int .i64 (idOf S x.1), .pointer (some ⟨b, x.1 * 9, none⟩), .pointer (some ⟨b, 0, none⟩), .bool false, .pointer (some ⟨b, 0, none⟩), .func (Fn.func 87) #[] #[.pointer (some ⟨w.heap.size + 1 + 1 + 1, 0, none⟩)], .int .i64 (idOf S x.1), .pointer (some ⟨b, x.1 * 9, none⟩), undef, undef, undef, undef, undef, undef, undef, undef, undef, undef, undef, undef, undef], defers := [] }) ?assign ?body ?done ?stop
  case assign =>
    intro l x W K hK
    gi_wp2
    exact hK
  case body =>
    rintro l pre x W ⟨hpre, hW⟩ hl8
    have hBx := hW.blk hb1 (fun f => f)
    obtain ⟨c0, c1, c2, c3, c4, c5, c6, ch⟩ := Sl.factsS hBx x.1 x.2
    have HPRE := Lib.hid hpre
    clear hpre
    cases hx : S.hd x.1
    · rw [hx] at ch
      have hf1 := fun o => Blk.frozen hBx o
      have hv0W := hW.blk hv0 (fun f => f)
      have d0 := hv0W.cell 0
      have d1 := hv0W.cell 1
      have d2 := hv0W.cell 2
      have d3 := hv0W.cell 3
      have d4 := hv0W.cell 4
      have d5 := hv0W.cell 5
      have d6 := hv0W.cell 6
      have k1 := (hW.blk hr1 (fun f => f)).cell 0
      have k2 := (hW.blk hr2 (fun f => f)).cell 0
      have f1 := (hW.blk hr1 (fun f => f)).frozen 0
      have f2 := (hW.blk hr2 (fun f => f)).frozen 0
      simp at d0 d1 d2 d3 d4 d5 d6 k1 k2
      have HB := Lib.hid hBx
      clear hBx hv0W
      gi_wp2
      refine ⟨(KeepsOthers.trans (KeepsOthers.trans (KeepsOthers.trans (KeepsOthers.trans (KeepsOthers.trans (KeepsOthers.trans (KeepsOthers.trans (KeepsOthers.trans (KeepsOthers.trans (KeepsOthers.setCell _ _ _) (KeepsOthers.setCell _ _ _)) (KeepsOthers.setCell _ _ _)) (KeepsOthers.setCell _ _ _)) (KeepsOthers.setCell _ _ _)) (KeepsOthers.setCell _ _ _)) (KeepsOthers.setCell _ _ _)) (KeepsOthers.setCell _ _ _)) (KeepsOthers.setCell _ _ _)) (KeepsOthers.setCell _ _ _)).from _, rfl, ⟨x, ⟨pre, rfl, HPRE.out, hx⟩, ?_, ?_⟩, ?_, ?_⟩
      · have h := (Blk.far (Blk.far (Blk.set_ (Blk.set_ (Blk.set_ (Blk.set_ (Blk.set_ (Blk.set_ (Blk.set_ (Blk.set_ HB.out (x.1 * 9 + 1) (.int .i64 t.u)) (x.1 * 9 + 1 + 1) (.int .i64 t.g)) (x.1 * 9 + 1 + 2) (.int .i64 t.cu)) (x.1 * 9 + 1 + 3) (.int .i64 t.cg)) (x.1 * 9 + 1 + 4) (.int .i64 t.m)) (x.1 * 9 + 1 + 5) (.int .i64 t.key)) (x.1 * 9 + 1 + 6) (encS t.v)) (x.1 * 9 + 8) (.bool true)) (p := ⟨w.heap.size + 1, 0, none⟩) (by dsimp only; omega) (.int .i64 (idOf S x.1))) (p := ⟨w.heap.size + 1 + 1, 0, none⟩) (by dsimp only; omega) (.int .i64 0))
        rw [cells_setT _ _ _ _ x.2, cells_setH _ _ _ _ x.2] at h
        exact h
      · have h := (Blk.far (Blk.set_ (Blk.far (Blk.far (Blk.far (Blk.far (Blk.far (Blk.far (Blk.far (Blk.far (hW.blk hr1 (fun f => f)) (p := ⟨b, x.1 * 9 + 1, none⟩) (by dsimp only; omega) (.int .i64 t.u)) (p := ⟨b, x.1 * 9 + 1 + 1, none⟩) (by dsimp only; omega) (.int .i64 t.g)) (p := ⟨b, x.1 * 9 + 1 + 2, none⟩) (by dsimp only; omega) (.int .i64 t.cu)) (p := ⟨b, x.1 * 9 + 1 + 3, none⟩) (by dsimp only; omega) (.int .i64 t.cg)) (p := ⟨b, x.1 * 9 + 1 + 4, none⟩) (by dsimp only; omega) (.int .i64 t.m)) (p := ⟨b, x.1 * 9 + 1 + 5, none⟩) (by dsimp only; omega) (.int .i64 t.key)) (p := ⟨b, x.1 * 9 + 1 + 6, none⟩) (by dsimp only; omega) (.string t.v)) (p := ⟨b, x.1 * 9 + 8, none⟩) (by dsimp only; omega) (.bool true)) (0) (.int .i64 (idOf S x.1))) (p := ⟨w.heap.size + 1 + 1, 0, none⟩) (by dsimp only; omega) (.int .i64 0))
        simpa using h
      · have h := (Blk.set_ (Blk.far (Blk.far (Blk.far (Blk.far (Blk.far (Blk.far (Blk.far (Blk.far (Blk.far (hW.blk hr2 (fun f => f)) (p := ⟨b, x.1 * 9 + 1, none⟩) (by dsimp only; omega) (.int .i64 t.u)) (p := ⟨b, x.1 * 9 + 1 + 1, none⟩) (by dsimp only; omega) (.int .i64 t.g)) (p := ⟨b, x.1 * 9 + 1 + 2, none⟩) (by dsimp only; omega) (.int .i64 t.cu)) (p := ⟨b, x.1 * 9 + 1 + 3, none⟩) (by dsimp only; omega) (.int .i64 t.cg)) (p := ⟨b, x.1 * 9 + 1 + 4, none⟩) (by dsimp only; omega) (.int .i64 t.m)) (p := ⟨b, x.1 * 9 + 1 + 5, none⟩) (by dsimp only; omega) (.int .i64 t.key)) (p := ⟨b, x.1 * 9 + 1 + 6, none⟩) (by dsimp only; omega) (.string t.v)) (p := ⟨b, x.1 * 9 + 8, none⟩) (by dsimp only; omega) (.bool true)) (p := ⟨w.heap.size + 1, 0, none⟩) (by dsimp only; omega) (.int .i64 (idOf S x.1))) (0) (.int .i64 0))
        simpa using h
      · exact (Gr.setCell (Gr.setCell (Gr.setCell (Gr.setCell (Gr.setCell (Gr.setCell (Gr.setCell (Gr.setCell (Gr.setCell (Gr.setCell (hW.mono (fun _ _ f => f.elim)) (p := ⟨b, x.1 * 9 + 1, none⟩) (X := fun k => k = b ∨ w.heap.size ≤ k) (.inl (.inl rfl)) _) (p := ⟨b, x.1 * 9 + 1 + 1, none⟩) (X := fun k => k = b ∨ w.heap.size ≤ k) (.inl (.inl rfl)) _) (p := ⟨b, x.1 * 9 + 1 + 2, none⟩) (X := fun k => k = b ∨ w.heap.size ≤ k) (.inl (.inl rfl)) _) (p := ⟨b, x.1 * 9 + 1 + 3, none⟩) (X := fun k => k = b ∨ w.heap.size ≤ k) (.inl (.inl rfl)) _) (p := ⟨b, x.1 * 9 + 1 + 4, none⟩) (X := fun k => k = b ∨ w.heap.size ≤ k) (.inl (.inl rfl)) _) (p := ⟨b, x.1 * 9 + 1 + 5, none⟩) (X := fun k => k = b ∨ w.heap.size ≤ k) (.inl (.inl rfl)) _) (p := ⟨b, x.1 * 9 + 1 + 6, none⟩) (X := fun k => k = b ∨ w.heap.size ≤ k) (.inl (.inl rfl)) _) (p := ⟨b, x.1 * 9 + 8, none⟩) (X := fun k => k = b ∨ w.heap.size ≤ k) (.inl (.inl rfl)) _) (p := ⟨w.heap.size + 1, 0, none⟩) (X := fun k => k = b ∨ w.heap.size ≤ k) (.inl (.inr (by dsimp only; omega))) _) (p := ⟨w.heap.size + 1 + 1, 0, none⟩) (X := fun k => k = b ∨ w.heap.size ≤ k) (.inl (.inr (by dsimp only; omega))) _)
    · rw [hx] at ch
      gi_wp2
      refine ⟨KeepsFrom.refl _ _, KeptX.refl _ _, ?_, hW⟩
      intro j hj
      rcases List.mem_append.1 hj with h | h
      · exact HPRE.out j h
      · rw [List.mem_singleton.1 h]; exact hx
  case done =>
    rintro D ys W hD hys ⟨hpre, hW⟩ hK
    have k1 := (hW.blk hr1 (fun f => f)).cell 0
    have k2 := (hW.blk hr2 (fun f => f)).cell 0
    have f1 := (hW.blk hr1 (fun f => f)).frozen 0
    have f2 := (hW.blk hr2 (fun f => f)).frozen 0
    simp at k1 k2
    have HP := Lib.hid hpre
    have HY := Lib.hid hys
    clear hpre hys
    gi_wp2
    have hK' : ((W.setCell ⟨w.heap.size + 1, 0, none⟩ (.int .i64 0)).setCell ⟨w.heap.size + 1 + 1, 0, none⟩ (.int .i64 101)).heap[D]? = some (.deferred (some [])) := ((KeepsOthers.setCell _ _ _).trans (KeepsOthers.setCell _ _ _)).same D _ hK rfl
    have e1 : Blk ((W.setCell ⟨w.heap.size + 1, 0, none⟩ (.int .i64 0)).setCell ⟨w.heap.size + 1 + 1, 0, none⟩ (.int .i64 101)) (w.heap.size + 1) 3 #[.int .i64 0] := by
      have h := ((hW.blk hr1 (fun f => f)).set_ 0 (.int .i64 0)).far (p := ⟨w.heap.size + 1 + 1, 0, none⟩) (by dsimp only; omega) (.int .i64 101)
      simpa using h
    have e2 : Blk ((W.setCell ⟨w.heap.size + 1, 0, none⟩ (.int .i64 0)).setCell ⟨w.heap.size + 1 + 1, 0, none⟩ (.int .i64 101)) (w.heap.size + 1 + 1) 44 #[.int .i64 101] := by
      have h := ((hW.blk hr2 (fun f => f)).far (p := ⟨w.heap.size + 1, 0, none⟩) (by dsimp only; omega) (.int .i64 0)).set_ 0 (.int .i64 101)
      simpa using h
    refine ⟨by simp, .inl ⟨_, _, rfl, run_takeDeferred hK', ?_⟩⟩
    refine ⟨_, res_int_errno rfl rfl rfl (e1.put _ hK' rfl) (e2.put _ hK' rfl), .inl ⟨rfl, ?_, ?_⟩⟩
    · intro j hj
      have : j ∈ ys.map Fin.val := by rw [HY.out]; simpa using hj
      obtain ⟨y, hy, rfl⟩ := List.mem_map.1 this
      exact HP.out y hy
    · refine Gr.put ?_ _ (by omega)
      exact ((hGw.next hW).setCell (p := ⟨w.heap.size + 1, 0, none⟩) (.inr (by dsimp only; omega)) _).setCell (p := ⟨w.heap.size + 1 + 1, 0, none⟩) (.inr (by dsimp only; omega)) _
  case stop =>
    rintro D c pre W hD ⟨i, hi, hpi⟩ ⟨rfl, ⟨x, hx, hBx, hR1⟩, hR2, hW⟩ hK
    gi_wp2
    obtain ⟨hxi, hall, hno⟩ := came_at hx hpi
    rw [hxi] at hBx hR1
    refine ⟨by simp, .inl ⟨_, _, rfl, run_takeDeferred hK, ?_⟩⟩
    refine ⟨_, res_int_errno rfl rfl rfl (hR1.put _ hK rfl) (hR2.put _ hK rfl), .inr ⟨i, hi, hall, hno, rfl, ?_, Blk.put hBx _ hK rfl⟩⟩
    refine Gr.put ?_ _ (by omega)
    exact hGw.no.trans hW (fun j hj h => by rcases h with h | h; exact h; omega)
theorem add_fS (b : Nat) (S : St ByteArray) (hS : S.ok) (t : Th ByteArray) (w : World) (hb : Sl encS 125 w b S) :
    Calls Tryz.prog 43 #[.pointer (some ⟨b, 0, none⟩), .agg #[.int .i64 t.u, .int .i64 t.g, .int .i64 t.cu, .int .i64 t.cg, .int .i64 t.m, .int .i64 t.key, .string t.v]] w fun e w' => e = .returned (.tuple #[.int .i64 S.addId, .int .i64 S.addE]) ∧ Gr w w' (fun k => k = b) ∧ Sl encS 125 w' b (S.addS t) := by
  refine (add_anyS b S hS t w hb).mono ?_
  unfold St.addId St.addE St.addS
  rintro e w' (⟨rfl, h1, hG⟩ | ⟨i, hi, h1, h2, rfl, hG, hB⟩)
  · rw [free_none h1]
    exact ⟨rfl, hG.no, hG.blk hb (fun f => f)⟩
  · rw [free_some hi h2 h1]
    exact ⟨rfl, hG, hB⟩
end Go.Proofs
