/- SlotsTexts: slots of numbers and slots of texts, side by side. -/
import Derived.Test.YtmboefajlfgffaaM
import Derived.Test.YtmboefajlfgffaaSC
import Derived.Deep.RegionHeld3
set_option linter.unusedVariables false
set_option linter.unusedSimpArgs false
namespace Go.Proofs
open Go.RowKit Go.Shelf
attribute [local go_sem] Oper.semAt_some

theorem and3 (x : Int) : 0 ≤ bits .and .i64 x 3 ∧ bits .and .i64 x 3 ≤ 3 := by
  have e : bits .and .i64 x 3 = IntKind.i64.wrap ((BitVec.ofInt 64 x &&& BitVec.ofInt 64 3).toNat : Int) := rfl
  have h : (BitVec.ofInt 64 x &&& BitVec.ofInt 64 3).toNat = (BitVec.ofInt 64 x).toNat % 4 := by
    rw [BitVec.toNat_and]; exact Nat.and_two_pow_sub_one_eq_mod _ 2
  rw [e, h, IntKind.wrap_i64]
  omega
theorem and3_small {x : Int} (h0 : 0 ≤ x) (h1 : x ≤ 3) : bits .and .i64 x 3 = x := by
  rcases (show x = 0 ∨ x = 1 ∨ x = 2 ∨ x = 3 by omega) with rfl | rfl | rfl | rfl <;> rfl

def nm (x : Int) : ByteArray := if x = 0 then ByteArray.empty else if x = 1 then ⟨#[97]⟩ else if x = 2 then ⟨#[98]⟩ else ⟨#[97, 98]⟩
def tr : Value → Value | .int _ x => .string (nm x) | v => v
def St.map (f : Value → Value) (S : St) : St := ⟨S.sq, fun i => f (S.vv i), S.hd⟩
theorem map_addS (f : Value → Value) (S : St) (v : Value) : (S.addS v).map f = (S.map f).addS (f v) := by
  unfold St.addS
  rw [show (S.map f).free = S.free from rfl]
  split
  · rename_i i _
    unfold St.map St.setH St.setV
    simp only [St.mk.injEq, true_and, and_true]
    funext j; by_cases h : j = i <;> simp [h]
  · rfl
theorem map_setS (f : Value → Value) (S : St) (id : Int) (v : Value) : (S.setS' id v).map f = (S.map f).setS' id (f v) := by
  unfold St.setS'
  rw [show (S.map f).place id = S.place id from rfl]
  split
  · rename_i i _
    unfold St.map St.setV
    simp only [St.mk.injEq, true_and, and_true]
    funext j; by_cases h : j = i <;> simp [h]
  · rfl
theorem map_rmS (f : Value → Value) (S : St) (id : Int) (z : Value) : (S.rmS id z).map f = (S.map f).rmS id (f z) := by
  unfold St.rmS
  rw [show (S.map f).place id = S.place id from rfl]
  split
  · rename_i i _
    unfold St.map St.rm St.setH St.setV St.setS
    simp only [St.mk.injEq, true_and, and_true]
    funext j; by_cases h : j = i <;> simp [h]
  · rfl
abbrev Small (v : Value) : Prop := ∃ x : Int, v = .int .i64 x ∧ 0 ≤ x ∧ x ≤ 3
theorem small_vals {S : St} (h : S.all Small) : SVals' S := fun i hi => by obtain ⟨x, e, _⟩ := h i hi; exact ⟨x, e⟩
theorem small_tr {S : St} (h : S.all Small) : Str.SVals' (S.map tr) := fun i hi => by
  obtain ⟨x, e, _⟩ := h i hi
  exact ⟨nm x, by show tr (S.vv i) = _; rw [e]; rfl⟩
theorem small_get {S : St} (h : S.all Small) (id : Int) : 0 ≤ getI S id ∧ getI S id ≤ 3 := by
  obtain ⟨x, e, h0, h1⟩ := all_getV (Q := Small) h id (z := .int .i64 0) ⟨0, rfl, by omega, by omega⟩
  have : getI S id = x := by unfold getI; rw [e]; rfl
  omega
theorem get_tr {S : St} (h : S.all Small) (id : Int) : Str.getI (S.map tr) id = nm (getI S id) := by
  have e : (S.map tr).getV id (.string ByteArray.empty) = tr (S.getV id (.int .i64 0)) := by
    unfold St.getV
    rw [show (S.map tr).place id = S.place id from rfl]
    split <;> rfl
  unfold Str.getI
  rw [e, getI_eq (small_vals h) id]
  rfl
theorem get_two (S : St) (id : Int) : S.getE id = 0 ∨ (S.getE id = 100 ∧ getI S id = 0) := by
  unfold St.getE getI St.getV
  cases S.place id
  · exact .inr ⟨rfl, rfl⟩
  · exact .inl rfl

theorem ids_t (b : Nat) (S : St) (hS : S.ok) (w : World) (hb : Sl 70 w b S) :
    Calls Try.prog 28 #[.pointer (some ⟨b, 0, none⟩)] w fun e w' => ∃ A c, e = .returned (.slice A S.ids.length c) ∧ RdI w' w'.heap.size A S.ids ∧ Same w w' :=
  (Str.ids_any b S hS w hb).mono fun e w' ⟨v, he, hr, hG⟩ => by
    obtain ⟨A, c, rfl, h⟩ := own_slice hr
    exact ⟨A, c, he, h, hG⟩

theorem addT (b : Nat) (S : St) (hS : S.ok) (m : Int) (w : World) (hb : Sl 70 w b (S.map tr)) : Calls Try.prog 24 #[.pointer (some ⟨b, 0, none⟩), .string (nm m)] w fun e w' =>
    e = .returned (.tuple #[.int .i64 S.addId, .int .i64 S.addE]) ∧ Gr w w' (fun k => k = b) ∧ Sl 70 w' b ((S.addS (.int .i64 m)).map tr) := by
  rw [map_addS]; exact Str.add_f b (S.map tr) hS (nm m) w hb
theorem setT (b : Nat) (S : St) (hS : S.ok) (hV : S.all Small) (id m : Int) (w : World) (hb : Sl 70 w b (S.map tr)) : Calls Try.prog 25 #[.pointer (some ⟨b, 0, none⟩), .int .i64 id, .string (nm m)] w fun e w' =>
    e = .returned (.int .i64 (S.getE id)) ∧ Gr w w' (fun k => k = b) ∧ Sl 70 w' b ((S.setS' id (.int .i64 m)).map tr) := by
  rw [map_setS]; exact Str.set_f b (S.map tr) hS (small_tr hV) id (nm m) w hb
theorem getT (b : Nat) (S : St) (hS : S.ok) (hV : S.all Small) (id : Int) (w : World) (hb : Sl 70 w b (S.map tr)) : Calls Try.prog 26 #[.pointer (some ⟨b, 0, none⟩), .int .i64 id] w fun e w' =>
    e = .returned (.tuple #[.string (nm (getI S id)), .int .i64 (S.getE id)]) ∧ Same w w' := by
  rw [← get_tr hV]; exact Str.get_f b (S.map tr) hS (small_tr hV) id w hb
theorem rmT (b : Nat) (S : St) (hS : S.ok) (hV : S.all Small) (id : Int) (w : World) (hb : Sl 70 w b (S.map tr)) : Calls Try.prog 27 #[.pointer (some ⟨b, 0, none⟩), .int .i64 id] w fun e w' =>
    e = .returned (.tuple #[.string (nm (getI S id)), .int .i64 (S.getE id)]) ∧ Gr w w' (fun k => k = b) ∧ Sl 70 w' b ((S.rmS id (.int .i64 0)).map tr) := by
  rw [map_rmS, ← get_tr hV]; exact Str.remove_f b (S.map tr) hS (small_tr hV) id w hb
theorem ids_tr (b : Nat) (S : St) (hS : S.ok) (w : World) (hb : Sl 70 w b (S.map tr)) :
    Calls Try.prog 28 #[.pointer (some ⟨b, 0, none⟩)] w fun e w' => ∃ A c, e = .returned (.slice A S.ids.length c) ∧ RdI w' w'.heap.size A S.ids ∧ Same w w' := ids_t b (S.map tr) hS w hb
theorem nb_cell {w : World} {g : Nat} (h : Blk w g 9 #[.string ⟨#[]⟩, .string ⟨#[97]⟩, .string ⟨#[98]⟩, .string ⟨#[97, 98]⟩]) {x : Int} (h0 : 0 ≤ x) (h1 : x ≤ 3) : w.cell? ⟨g, x.toNat, none⟩ = some (.string (nm x)) := by
  rw [h.cell]
  rcases (show x = 0 ∨ x = 1 ∨ x = 2 ∨ x = 3 by omega) with rfl | rfl | rfl | rfl <;> rfl
theorem nm0 : nm 0 = ByteArray.empty := rfl

set_option maxRecDepth 100000 in
set_option maxHeartbeats 4000000 in
theorem slotsTexts_walk (A : Option Addr) (n cap : Nat) (D I : Nat → Int) (Pl : Nat → Bool) (V0 : Nat → Int) (w : World) (ha : Acts w A n D I Pl V0) (hn : n ≤ maxLen) :
    Calls Try.prog 7 #[.slice A n cap] w fun e w' => e = .returned (.bool true) ∧ Below w.heap.size w w' := by
  unfold maxLen at hn
  go_enter Try.func7, Try.ntmps7
  go_wp2_with fail
  refine (shown_s _).mono ?_
  rintro e w1 ⟨rfl, hG1⟩
  go_wp2_with fail
  have hN0 := Blk.new w1 9 #[.string ⟨#[]⟩, .string ⟨#[97]⟩, .string ⟨#[98]⟩, .string ⟨#[97, 98]⟩] _ rfl
  have hG2 : Same w (w1.alloc (.cells #[.string ⟨#[]⟩, .string ⟨#[97]⟩, .string ⟨#[98]⟩, .string ⟨#[97, 98]⟩] 9)) := hG1.alloc _
  have hs2 : w1.heap.size < (w1.alloc (.cells #[.string ⟨#[]⟩, .string ⟨#[97]⟩, .string ⟨#[98]⟩, .string ⟨#[97, 98]⟩] 9)).heap.size := by simp
  generalize w1.alloc (.cells #[.string ⟨#[]⟩, .string ⟨#[97]⟩, .string ⟨#[98]⟩, .string ⟨#[97, 98]⟩] 9) = w2 at *
  refine (new_any _).mono ?_
  rintro e w3 ⟨rfl, hG3, hB3⟩
  go_wp2_with fail
  refine (Str.new_any _).mono ?_
  rintro e w4 ⟨rfl, hG4, hT0⟩
  have hz1 := hG1.size
  have hz3 := hG3.size
  have hl3 := hB3.lt
  have hl4 := hT0.lt
  have hB0 := hG4.blk hB3 (fun f => f)
  have hN1 := hG4.blk (hG3.blk hN0 (fun f => f)) (fun f => f)
  have hS0 : Same w w4 := (hG2.next hG3).next hG4
  clear hG1 hG2 hG3 hG4 hN0 hB3
  go_wp2
  go_loopw [7, 8, 9, 10, 11, 12, 13, 14, 15, 16, 17, 18, 19, 20, 21, 22] (fun i _ _ _ _ _ _ _ _ _ _ _ _ _ _ _ wr => ∃ (k : Nat) (S : St), k ≤ n ∧ i = .int .i64 k ∧ S.ok ∧ S.all Small ∧ Sl 58 wr w2.heap.size S ∧ Sl 70 wr w3.heap.size (S.map tr) ∧ Blk wr w1.heap.size 9 #[.string ⟨#[]⟩, .string ⟨#[97]⟩, .string ⟨#[98]⟩, .string ⟨#[97, 98]⟩] ∧ Same w wr) (fun i _ _ _ _ _ _ _ _ _ _ _ _ _ _ _ _ => n - (intOf i).toNat)
  case atStart => exact ⟨0, St.zero (.int .i64 0), by omega, rfl, ok_zero _, all_zero ⟨0, rfl, by omega, by omega⟩, hB0, hT0, hN1, hS0⟩
  case round =>
    obtain ⟨k, S, hk, rfl, hO, hV, hB, hT, hN, hG⟩ := hrel
    by_cases hlt : k < n ∧ k < 150
    · obtain ⟨hlt, hlt2⟩ := hlt
      obtain ⟨g, off, rfl, hg, hc⟩ := ha (by omega)
      obtain ⟨d0, d1, d2, d3⟩ := hc k hlt
      have hzr := hG.size
      have x0 := (hG.cell (p := ⟨g, off + k * 4, none⟩) hg (fun f => f)).trans d0
      have x1 := (hG.cell (p := ⟨g, off + k * 4 + 1, none⟩) hg (fun f => f)).trans d1
      have x2 := (hG.cell (p := ⟨g, off + k * 4 + 2, none⟩) hg (fun f => f)).trans d2
      have x3 := (hG.cell (p := ⟨g, off + k * 4 + 3, none⟩) hg (fun f => f)).trans d3
      clear d0 d1 d2 d3 hc ha
      go_wp2_with fail
      obtain ⟨W, hW⟩ : ∃ W, (wr.alloc (.cells #[.int .i64 (D k), .int .i64 (I k), .bool (Pl k), .int .i64 (V0 k)] 36)).drew = W := ⟨_, rfl⟩
      have y0 : W.cell? ⟨wr.heap.size, 0, none⟩ = some (.int .i64 (D k)) := by rw [← hW]; simp [go_sem]
      have y1 : W.cell? ⟨wr.heap.size, 1, none⟩ = some (.int .i64 (I k)) := by rw [← hW]; simp [go_sem]
      have y2 : W.cell? ⟨wr.heap.size, 2, none⟩ = some (.bool (Pl k)) := by rw [← hW]; simp [go_sem]
      have y3 : W.cell? ⟨wr.heap.size, 3, none⟩ = some (.int .i64 (V0 k)) := by rw [← hW]; simp [go_sem]
      have yB : Sl 58 W w2.heap.size S := by rw [← hW]; exact hB.alloc _
      have yT : Sl 70 W w3.heap.size (S.map tr) := by rw [← hW]; exact hT.alloc _
      have yN : Blk W w1.heap.size 9 #[.string ⟨#[]⟩, .string ⟨#[97]⟩, .string ⟨#[98]⟩, .string ⟨#[97, 98]⟩] := by rw [← hW]; exact hN.alloc _
      have yG : Same w W := by rw [← hW]; exact hG.alloc _
      have yz : wr.heap.size < W.heap.size := by rw [← hW]; show _ < (World.alloc _ _).heap.size; simp
      have yl := hT.lt
      clear hB hT hN hG x0 x1 x2 x3
      subst hW
      go_region_held3 (fun W => W.cell? ⟨wr.heap.size, 0, none⟩ = some (.int .i64 (D k)) ∧ W.cell? ⟨wr.heap.size, 1, none⟩ = some (.int .i64 (I k)) ∧ W.cell? ⟨wr.heap.size, 2, none⟩ = some (.bool (Pl k)) ∧ W.cell? ⟨wr.heap.size, 3, none⟩ = some (.int .i64 (V0 k)) ∧ Sl 58 W w2.heap.size S ∧ Sl 70 W w3.heap.size (S.map tr) ∧ Blk W w1.heap.size 9 #[.string ⟨#[]⟩, .string ⟨#[97]⟩, .string ⟨#[98]⟩, .string ⟨#[97, 98]⟩] ∧ Same w W ∧ wr.heap.size < W.heap.size)
        (first | ((repeat' (with_reducible apply And.intro)) <;> assumption))
        (first | (go_at_call 14; refine (ids_s _ _ hO _ yB).mono ?_; rintro e w6 ⟨A6, c6, rfl, hr6, hG6⟩; have y0' := (hG6.cell (p := ⟨wr.heap.size, 0, none⟩) yz (fun f => f)).trans y0; have y1' := (hG6.cell (p := ⟨wr.heap.size, 1, none⟩) yz (fun f => f)).trans y1; have y2' := (hG6.cell (p := ⟨wr.heap.size, 2, none⟩) yz (fun f => f)).trans y2; have y3' := (hG6.cell (p := ⟨wr.heap.size, 3, none⟩) yz (fun f => f)).trans y3; have yB' := hG6.blk yB (fun f => f); have yT' := hG6.blk yT (fun f => f); have yN' := hG6.blk yN (fun f => f); have yG' := yG.next hG6; have yz' := Nat.lt_of_lt_of_le yz hG6.size) | (go_at_call 15; refine (number_any _ _ _ _ _ _ _ _ _ hr6 (ids8 _)).mono ?_; rintro e w7 ⟨rfl, hG7⟩; have z0 := (hG7.cell (p := ⟨wr.heap.size, 0, none⟩) yz' (fun f => f)).trans y0'; have z1 := (hG7.cell (p := ⟨wr.heap.size, 1, none⟩) yz' (fun f => f)).trans y1'; have z2 := (hG7.cell (p := ⟨wr.heap.size, 2, none⟩) yz' (fun f => f)).trans y2'; have z3 := (hG7.cell (p := ⟨wr.heap.size, 3, none⟩) yz' (fun f => f)).trans y3'; have zB := hG7.blk yB' (fun f => f); have zT := hG7.blk yT' (fun f => f); have zN := hG7.blk yN' (fun f => f); have zG := yG'.next hG7; have zz := Nat.lt_of_lt_of_le yz' hG7.size))
      clear y0 y1 y2 y3 yB yT yN yG yz y0' y1' y2' y3' yB' yT' yN' yG' yz'
      generalize numI S.ids (I k) (Pl k) = id
      obtain ⟨hm0, hm1⟩ := and3 (V0 k)
      generalize bits .and .i64 (V0 k) 3 = m at *
      have zc := nb_cell zN hm0 hm1
      have hm4 : m < 4 := by omega
      have zlow : w1.heap.size < wr.heap.size := by omega
      rcases six_cases (D k) with h6 | h6 | h6 | h6 | h6 | h6
      all_goals unfold six at h6
      · go_wp2_with fail
        refine (add_f _ S hO m _ zB).mono ?_
        rintro e w8 ⟨rfl, hG8, hB8⟩
        have q3 := (hG8.cell (p := ⟨w1.heap.size, m.toNat, none⟩) (by dsimp only; omega) (fun h => by dsimp only at h; omega)).trans zc
        go_wp2_with fail
        refine (addT _ S hO m _ (hG8.blk zT (by omega))).mono ?_
        rintro e w9 ⟨rfl, hG9, hT9⟩
        have hBq := hG9.blk hB8 (by omega)
        have hNq := hG9.blk (hG8.blk zN (by omega)) (by omega)
        have hGq : Same w w9 := (zG.trans hG8 (fun j hj h => by omega)).trans hG9 (fun j hj h => by omega)
        clear zB zT zN zG z0 z1 z2 z3 zc q3 hG8 hG9 hB8
        go_wp2
        go_roundw
        case rel => exact ⟨k + 1, _, by omega, by go_num, ok_addS hO _, all_addS hV ⟨m, rfl, hm0, hm1⟩, hBq, hT9, hNq, hGq⟩
        case measure => simp [intOf]; omega
      · go_wp2_with fail
        refine (add_f _ S hO m _ zB).mono ?_
        rintro e w8 ⟨rfl, hG8, hB8⟩
        have q3 := (hG8.cell (p := ⟨w1.heap.size, m.toNat, none⟩) (by dsimp only; omega) (fun h => by dsimp only at h; omega)).trans zc
        go_wp2_with fail
        refine (addT _ S hO m _ (hG8.blk zT (by omega))).mono ?_
        rintro e w9 ⟨rfl, hG9, hT9⟩
        have hBq := hG9.blk hB8 (by omega)
        have hNq := hG9.blk (hG8.blk zN (by omega)) (by omega)
        have hGq : Same w w9 := (zG.trans hG8 (fun j hj h => by omega)).trans hG9 (fun j hj h => by omega)
        clear zB zT zN zG z0 z1 z2 z3 zc q3 hG8 hG9 hB8
        go_wp2
        go_roundw
        case rel => exact ⟨k + 1, _, by omega, by go_num, ok_addS hO _, all_addS hV ⟨m, rfl, hm0, hm1⟩, hBq, hT9, hNq, hGq⟩
        case measure => simp [intOf]; omega
      · go_wp2_with fail
        go_region_held3 (fun W => W.cell? ⟨w1.heap.size, m.toNat, none⟩ = some (.string (nm m))) (first | exact zc | assumption) (first | (go_at_call 19; refine (set_f _ S hO (small_vals hV) id m _ (by first | exact cB | exact zB)).mono ?_; rintro e wA ⟨rfl, hGA, hBA⟩; have aX := (hGA.cell (p := ⟨w1.heap.size, m.toNat, none⟩) (by dsimp only; first | exact Nat.lt_trans zlow cz | exact Nat.lt_trans zlow zz) (fun h => by dsimp only at h; omega)).trans (by first | exact cX | exact zc); have aT := hGA.blk zT (fun h => by omega); have az := Nat.lt_of_lt_of_le zz hGA.size) | (go_at_call 25; refine (setT _ S hO hV id m _ aT).mono ?_; rintro e wC ⟨rfl, hGC, hTC⟩; have cX := (hGC.cell (p := ⟨w1.heap.size, m.toNat, none⟩) (by dsimp only; exact Nat.lt_trans zlow az) (fun h => by dsimp only at h; omega)).trans aX))
        have hBq := hGC.blk hBA (fun h => by omega)
        have hNq := hGC.blk (hGA.blk zN (fun h => by omega)) (fun h => by omega)
        have hGq : Same w wC := (zG.trans hGA (fun j hj h => by omega)).trans hGC (fun j hj h => by omega)
        have hO2 := ok_setS' hO id (.int .i64 m)
        have hV2 := all_setS' hV id (Q := Small) (v := .int .i64 m) ⟨m, rfl, hm0, hm1⟩
        clear zB zT zN zG z0 z1 z2 z3 zc hGA hGC hBA aX aT az cX
        generalize S.setS' id (.int .i64 m) = S2 at *
        go_wp2_with fail
        refine (get_f _ S2 hO2 (small_vals hV2) id _ hBq).mono ?_
        rintro e w8 ⟨rfl, hG8⟩
        go_wp2_with fail
        refine (getT _ S2 hO2 hV2 id _ (hG8.blk hTC (fun f => f))).mono ?_
        rintro e w9 ⟨rfl, hG9⟩
        have hBr := hG9.blk (hG8.blk hBq (fun f => f)) (fun f => f)
        have hTr := hG9.blk (hG8.blk hTC (fun f => f)) (fun f => f)
        have hNr := hG9.blk (hG8.blk hNq (fun f => f)) (fun f => f)
        have HF := Lib.hid ((hGq.next hG8).next hG9)
        obtain ⟨ga, gb⟩ := small_get hV2 id
        have g4 : getI S2 id < 4 := by omega
        have gc := nb_cell hNr ga gb
        have gd := and3_small ga gb
        clear hBq hTC hNq hGq hG8 hG9
        rcases get_two S2 id with ge | ⟨ge, gi⟩
        · generalize getI S2 id = x at *
          go_wp2
          go_roundw
          case rel => exact ⟨k + 1, _, by omega, by go_num, hO2, hV2, hBr, hTr, hNr, HF.out⟩
          case measure => simp [intOf]; omega
        · have gn : nm 0 = ⟨#[]⟩ := rfl
          go_wp2
          go_roundw
          case rel => exact ⟨k + 1, _, by omega, by go_num, hO2, hV2, hBr, hTr, hNr, HF.out⟩
          case measure => simp [intOf]; omega
      · go_wp2_with fail
        go_region_held3 (fun W => W.cell? ⟨w1.heap.size, m.toNat, none⟩ = some (.string (nm m))) (first | exact zc | assumption) (first | (go_at_call 19; refine (set_f _ S hO (small_vals hV) id m _ (by first | exact cB | exact zB)).mono ?_; rintro e wA ⟨rfl, hGA, hBA⟩; have aX := (hGA.cell (p := ⟨w1.heap.size, m.toNat, none⟩) (by dsimp only; first | exact Nat.lt_trans zlow cz | exact Nat.lt_trans zlow zz) (fun h => by dsimp only at h; omega)).trans (by first | exact cX | exact zc); have aT := hGA.blk zT (fun h => by omega); have az := Nat.lt_of_lt_of_le zz hGA.size) | (go_at_call 25; refine (setT _ S hO hV id m _ aT).mono ?_; rintro e wC ⟨rfl, hGC, hTC⟩; have cX := (hGC.cell (p := ⟨w1.heap.size, m.toNat, none⟩) (by dsimp only; exact Nat.lt_trans zlow az) (fun h => by dsimp only at h; omega)).trans aX))
        have hBq := hGC.blk hBA (fun h => by omega)
        have hNq := hGC.blk (hGA.blk zN (fun h => by omega)) (fun h => by omega)
        have hGq : Same w wC := (zG.trans hGA (fun j hj h => by omega)).trans hGC (fun j hj h => by omega)
        have hO2 := ok_setS' hO id (.int .i64 m)
        have hV2 := all_setS' hV id (Q := Small) (v := .int .i64 m) ⟨m, rfl, hm0, hm1⟩
        clear zB zT zN zG z0 z1 z2 z3 zc hGA hGC hBA aX aT az cX
        generalize S.setS' id (.int .i64 m) = S2 at *
        go_wp2_with fail
        refine (get_f _ S2 hO2 (small_vals hV2) id _ hBq).mono ?_
        rintro e w8 ⟨rfl, hG8⟩
        go_wp2_with fail
        refine (getT _ S2 hO2 hV2 id _ (hG8.blk hTC (fun f => f))).mono ?_
        rintro e w9 ⟨rfl, hG9⟩
        have hBr := hG9.blk (hG8.blk hBq (fun f => f)) (fun f => f)
        have hTr := hG9.blk (hG8.blk hTC (fun f => f)) (fun f => f)
        have hNr := hG9.blk (hG8.blk hNq (fun f => f)) (fun f => f)
        have HF := Lib.hid ((hGq.next hG8).next hG9)
        obtain ⟨ga, gb⟩ := small_get hV2 id
        have g4 : getI S2 id < 4 := by omega
        have gc := nb_cell hNr ga gb
        have gd := and3_small ga gb
        clear hBq hTC hNq hGq hG8 hG9
        rcases get_two S2 id with ge | ⟨ge, gi⟩
        · generalize getI S2 id = x at *
          go_wp2
          go_roundw
          case rel => exact ⟨k + 1, _, by omega, by go_num, hO2, hV2, hBr, hTr, hNr, HF.out⟩
          case measure => simp [intOf]; omega
        · have gn : nm 0 = ⟨#[]⟩ := rfl
          go_wp2
          go_roundw
          case rel => exact ⟨k + 1, _, by omega, by go_num, hO2, hV2, hBr, hTr, hNr, HF.out⟩
          case measure => simp [intOf]; omega
      · go_wp2_with fail
        refine (remove_f _ S hO (small_vals hV) id _ zB).mono ?_
        rintro e w8 ⟨rfl, hG8, hB8⟩
        go_wp2_with fail
        refine (rmT _ S hO hV id _ (hG8.blk zT (by omega))).mono ?_
        rintro e w9 ⟨rfl, hG9, hT9⟩
        have hBq := hG9.blk hB8 (by omega)
        have hNq := hG9.blk (hG8.blk zN (by omega)) (by omega)
        have hGq : Same w w9 := (zG.trans hG8 (fun j hj h => by omega)).trans hG9 (fun j hj h => by omega)
        clear zB zT zN zG z0 z1 z2 z3 zc hG8 hG9 hB8
        obtain ⟨ga, gb⟩ := small_get hV id
        have g4 : getI S id < 4 := by omega
        have gc := nb_cell hNq ga gb
        have gd := and3_small ga gb
        have HF := Lib.hid hGq
        clear hGq
        rcases get_two S id with ge | ⟨ge, gi⟩
        · generalize getI S id = x at *
          go_wp2
          go_roundw
          case rel => exact ⟨k + 1, _, by omega, by go_num, ok_rmS hO _ _, all_rmS hV _ ⟨0, rfl, by omega, by omega⟩, hBq, hT9, hNq, HF.out⟩
          case measure => simp [intOf]; omega
        · go_wp2
          go_roundw
          case rel => exact ⟨k + 1, _, by omega, by go_num, ok_rmS hO _ _, all_rmS hV _ ⟨0, rfl, by omega, by omega⟩, hBq, hT9, hNq, HF.out⟩
          case measure => simp [intOf]; omega
      · go_wp2_with fail
        refine (remove_f _ S hO (small_vals hV) id _ zB).mono ?_
        rintro e w8 ⟨rfl, hG8, hB8⟩
        go_wp2_with fail
        refine (rmT _ S hO hV id _ (hG8.blk zT (by omega))).mono ?_
        rintro e w9 ⟨rfl, hG9, hT9⟩
        have hBq := hG9.blk hB8 (by omega)
        have hNq := hG9.blk (hG8.blk zN (by omega)) (by omega)
        have hGq : Same w w9 := (zG.trans hG8 (fun j hj h => by omega)).trans hG9 (fun j hj h => by omega)
        clear zB zT zN zG z0 z1 z2 z3 zc hG8 hG9 hB8
        obtain ⟨ga, gb⟩ := small_get hV id
        have g4 : getI S id < 4 := by omega
        have gc := nb_cell hNq ga gb
        have gd := and3_small ga gb
        have HF := Lib.hid hGq
        clear hGq
        rcases get_two S id with ge | ⟨ge, gi⟩
        · generalize getI S id = x at *
          go_wp2
          go_roundw
          case rel => exact ⟨k + 1, _, by omega, by go_num, ok_rmS hO _ _, all_rmS hV _ ⟨0, rfl, by omega, by omega⟩, hBq, hT9, hNq, HF.out⟩
          case measure => simp [intOf]; omega
        · go_wp2
          go_roundw
          case rel => exact ⟨k + 1, _, by omega, by go_num, ok_rmS hO _ _, all_rmS hV _ ⟨0, rfl, by omega, by omega⟩, hBq, hT9, hNq, HF.out⟩
          case measure => simp [intOf]; omega
    · go_wp2_with fail
      all_goals
        refine (ids_s _ _ hO _ hB).mono ?_
        rintro e w11 ⟨A1, c1, rfl, hr1, hG11⟩
        have hT1 := hG11.blk hT (fun f => f)
        go_wp2_with fail
        refine (ids_tr _ S hO _ hT1).mono ?_
        rintro e w12 ⟨A2, c2, rfl, hr2, hG12⟩
        have hr1' := hr1.same hG12
        go_wp2_with fail
        refine (ints_same A1 A2 c1 c2 _ _ _ _ hr1' hr2 (ids8 _)).mono ?_
        rintro e w13 ⟨rfl, hG13⟩
        have hGz := ((hG.next hG11).next hG12).next hG13
        go_wp2
        go_ret
        exact ⟨rfl, hGz.below⟩
end Go.Proofs
