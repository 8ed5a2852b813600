/- The reference's slots, inside the reference's Names. -/
import Derived.Test.YthijminlalddcaaGreatDoorSF
import Derived.RegionTactic
import Derived.ChangeAlike
set_option linter.unusedVariables false
set_option linter.unusedSimpArgs false
namespace Go.Proofs
open Go.RowKit Go.Shelf
attribute [local go_sem] Oper.semAt_some

/-- The reference's Names: its slots, three lists. -/
def refCells (S : St Int) (V : Nat → Int) (K P U : Value) : Array Value := #[.bool (S.hd 0), .bool (S.hd 1), .bool (S.hd 2), .bool (S.hd 3), .bool (S.hd 4), .bool (S.hd 5), .bool (S.hd 6), .bool (S.hd 7), .int .i64 (V 0), .int .i64 (V 1), .int .i64 (V 2), .int .i64 (V 3), .int .i64 (V 4), .int .i64 (V 5), .int .i64 (V 6), .int .i64 (V 7), .int .i64 (S.sq 0), .int .i64 (S.sq 1), .int .i64 (S.sq 2), .int .i64 (S.sq 3), .int .i64 (S.sq 4), .int .i64 (S.sq 5), .int .i64 (S.sq 6), .int .i64 (S.sq 7), K, P, U]
section
variable (S : St Int) (V : Nat → Int) (K P U : Value)
theorem rc_hd : ∀ i, i < 8 → (refCells S V K P U)[i]? = some (.bool (S.hd i)) := lt8 rfl rfl rfl rfl rfl rfl rfl rfl
theorem rc_v : ∀ i, i < 8 → (refCells S V K P U)[8 + i]? = some (.int .i64 (V i)) := lt8 rfl rfl rfl rfl rfl rfl rfl rfl
theorem rc_sq : ∀ i, i < 8 → (refCells S V K P U)[16 + i]? = some (.int .i64 (S.sq i)) := lt8 rfl rfl rfl rfl rfl rfl rfl rfl
def upd (V : Nat → Int) (i : Nat) (n : Int) : Nat → Int := fun j => if j = i then n else V j
theorem rc_setH (b : Bool) : ∀ i, i < 8 → (refCells S V K P U).setIfInBounds i (.bool b) = refCells (S.setH i b) V K P U := lt8 rfl rfl rfl rfl rfl rfl rfl rfl
theorem rc_setV (n : Int) : ∀ i, i < 8 → (refCells S V K P U).setIfInBounds (8 + i) (.int .i64 n) = refCells S (upd V i n) K P U := lt8 rfl rfl rfl rfl rfl rfl rfl rfl
theorem rc_setS (n : Int) : ∀ i, i < 8 → (refCells S V K P U).setIfInBounds (16 + i) (.int .i64 n) = refCells (S.setS i n) V K P U := lt8 rfl rfl rfl rfl rfl rfl rfl rfl
theorem rc_setK (v : Value) : (refCells S V K P U).setIfInBounds 24 v = refCells S V v P U := rfl
theorem rc_setP (v : Value) : (refCells S V K P U).setIfInBounds 25 v = refCells S V K v U := rfl
theorem rc_setU (v : Value) : (refCells S V K P U).setIfInBounds 26 v = refCells S V K P v := rfl
end
def Rf (w : World) (b : Nat) (S : St Int) (V : Nat → Int) (K P U : Value) : Prop := Blk w b 34 (refCells S V K P U)

theorem ret_int {k : IntKind} {a b : Int} (h : a = b) : Ending.returned (.int k a) = .returned (.int k b) := by rw [h]
theorem rid (b i : Nat) (S : St Int) (V : Nat → Int) (K P U : Value) (hS : S.ok) (hi : i < 8) (w : World) (hb : Rf w b S V K P U) :
    Calls Tryz.prog 28 #[.pointer (some ⟨b, 0, none⟩), .int .i64 i] w fun e w' => e = .returned (.int .i64 (idOf S i)) ∧ w = w' := by
  have c := (Blk.cell hb (16 + i)).trans (rc_sq S V K P U i hi)
  obtain ⟨q0, q1⟩ := hS i hi
  unfold idOf
  clear hb
  generalize S.sq i = q at *
  go_enter Tryz.func28, Tryz.ntmps28
  go_wp2
  go_ret
  exact ⟨rfl, rfl⟩

def placeI (S : St Int) (id : Int) : Int := match S.place id with | some i => i | none => -1
theorem placeI_lt {S : St Int} {id : Int} : -1 ≤ placeI S id ∧ placeI S id < 8 := by
  unfold placeI
  split
  · rename_i i h; have := (place_get h).1; omega
  · omega

set_option maxHeartbeats 1000000 in
theorem rat (b : Nat) (S : St Int) (V : Nat → Int) (K P U : Value) (hS : S.ok) (id : Int) (w : World) (hb : Rf w b S V K P U) :
    Calls Tryz.prog 63 #[.pointer (some ⟨b, 0, none⟩), .int .i64 id] w fun e w' => e = .returned (.int .i64 (placeI S id)) ∧ w = w' := by
  have HB := Lib.hid hb
  clear hb
  go_enter Tryz.func63, Tryz.ntmps63
  go_wp2
  go_loop [5] (fun i => ∃ k : Nat, k ≤ 8 ∧ i = .int .i64 k ∧ ∀ j, j < k → S.hd j = true → idOf S j ≠ id) (fun i => 8 - (intOf i).toNat)
  case atStart => exact ⟨0, by omega, rfl, fun j hj => by omega⟩
  case round =>
    obtain ⟨k, hk, rfl, hno⟩ := hrel
    have HN := Lib.hid hno
    clear hno
    by_cases hlt : k < 8
    · have c := (Blk.cell HB.out k).trans (rc_hd S V K P U k hlt)
      cases hd : S.hd k
      · rw [hd] at c
        go_wp2
        go_round
        case rel =>
          refine ⟨k + 1, by omega, by go_num, fun j hj hh => ?_⟩
          by_cases hjk : j = k
          · rw [hjk, hd] at hh; cases hh
          · exact HN.out j (by omega) hh
        case measure => simp [intOf]; omega
      · rw [hd] at c
        by_cases hid : idOf S k = id
        · have hid' : (idOf S k == id) = true := by simp [hid]
          have hp : placeI S id = k := by unfold placeI; rw [place_some hlt hd hid]
          have HP := Lib.hid hp
          clear hid hp hd
          go_wp2_with (go_at_call 28; refine (rid b k S V K P U hS hlt _ HB.out).mono ?_; rintro e w' ⟨rfl, rfl⟩)
          go_ret
          exact ⟨ret_int (by rw [HP.out]), rfl⟩
        · have hid' : (idOf S k == id) = false := by simp [hid]
          have HI := Lib.hid hid
          clear hid hd
          go_wp2_with (go_at_call 28; refine (rid b k S V K P U hS hlt _ HB.out).mono ?_; rintro e w' ⟨rfl, rfl⟩)
          go_round
          case rel =>
            refine ⟨k + 1, by omega, by go_num, fun j hj hh => ?_⟩
            by_cases hjk : j = k
            · rw [hjk]; exact HI.out
            · exact HN.out j (by omega) hh
          case measure => simp [intOf]; omega
    · have hp : placeI S id = -1 := by
        unfold placeI
        rw [place_none (fun j hj => HN.out j (by omega))]
      have HP := Lib.hid hp
      clear hp
      go_wp2
      go_ret
      exact ⟨ret_int (by rw [HP.out]), rfl⟩

def rV (S : St Int) (V : Nat → Int) (v : Int) : Nat → Int := match S.free with | some i => upd V i v | none => V
set_option maxHeartbeats 1000000 in
theorem radd (b : Nat) (S : St Int) (V : Nat → Int) (K P U : Value) (hS : S.ok) (v : Int) (z : Th Int) (w : World) (hb : Rf w b S V K P U) :
    Calls Tryz.prog 51 #[.pointer (some ⟨b, 0, none⟩), .int .i64 v] w fun e w' => e = .returned (.tuple #[.int .i64 S.addId, .int .i64 S.addE]) ∧ Gr w w' (fun k => k = b) ∧ Rf w' b (S.addS z) (rV S V v) K P U := by
  have HB := Lib.hid hb
  clear hb
  go_enter Tryz.func51, Tryz.ntmps51
  go_wp2
  go_loop [6] (fun i => ∃ k : Nat, k ≤ 8 ∧ i = .int .i64 k ∧ ∀ j, j < k → S.hd j = true) (fun i => 8 - (intOf i).toNat)
  case atStart => exact ⟨0, by omega, rfl, fun j hj => by omega⟩
  case round =>
    obtain ⟨k, hk, rfl, hno⟩ := hrel
    have HN := Lib.hid hno
    clear hno
    by_cases hlt : k < 8
    · have c := (Blk.cell HB.out k).trans (rc_hd S V K P U k hlt)
      have c2 := (Blk.cell HB.out (8 + k)).trans (rc_v S V K P U k hlt)
      have f := Blk.frozen HB.out k
      have f2 := Blk.frozen HB.out (8 + k)
      cases hd : S.hd k
      · rw [hd] at c
        have hf := free_some hlt hd HN.out
        have hB2 : Rf ((w.setCell ⟨b, k, none⟩ (.bool true)).setCell ⟨b, 8 + k, none⟩ (.int .i64 v)) b (S.setH k true) (upd V k v) K P U := by
          have h := (Blk.set_ HB.out k (.bool true)).set_ (8 + k) (.int .i64 v)
          rw [rc_setH _ _ _ _ _ _ _ hlt, rc_setV _ _ _ _ _ _ _ hlt] at h
          exact h
        have HF := Lib.hid hf
        have hok : St.ok (S.setH k true) := hS
        clear hf hd
        go_wp2_with (go_at_call 28; refine (rid b k (S.setH k true) (upd V k v) K P U hok hlt _ hB2).mono ?_; rintro e w' ⟨rfl, rfl⟩)
        go_ret2
        refine ⟨?_, ((Gr.refl w (fun j => j = b)).set1 k _).set1 (8 + k) _, ?_⟩
        · unfold St.addId St.addE; rw [HF.out]; rfl
        · unfold St.addS rV; rw [HF.out]; exact hB2
      · rw [hd] at c
        go_wp2
        go_round
        case rel =>
          refine ⟨k + 1, by omega, by go_num, fun j hj => ?_⟩
          by_cases hjk : j = k
          · rw [hjk]; exact hd
          · exact HN.out j (by omega)
        case measure => simp [intOf]; omega
    · have hf := free_none (S := S) (fun j hj => HN.out j (by omega))
      have HF := Lib.hid hf
      clear hf
      go_wp2
      go_ret2
      refine ⟨by unfold St.addId St.addE; rw [HF.out]; rfl, Gr.refl _ _, ?_⟩
      unfold St.addS rV
      rw [HF.out]
      exact HB.out

def rG (S : St Int) (V : Nat → Int) (id : Int) : Int := match S.place id with | some i => V i | none => 0
theorem place_cases (S : St Int) (id : Int) : (∃ i, i < 8 ∧ S.place id = some i ∧ placeI S id = i) ∨ (S.place id = none ∧ placeI S id = -1) := by
  unfold placeI
  cases h : S.place id with
  | none => exact .inr ⟨rfl, rfl⟩
  | some i => exact .inl ⟨i, (place_get h).1, rfl, rfl⟩

set_option maxHeartbeats 1000000 in
theorem rget (b : Nat) (S : St Int) (V : Nat → Int) (K P U : Value) (hS : S.ok) (id : Int) (w : World) (hb : Rf w b S V K P U) :
    Calls Tryz.prog 34 #[.pointer (some ⟨b, 0, none⟩), .int .i64 id] w fun e w' => e = .returned (.tuple #[.int .i64 (rG S V id), .int .i64 (S.getE id)]) ∧ Same w w' := by
  rcases place_cases S id with ⟨i, hi, hp, hpi⟩ | ⟨hp, hpi⟩
  · have e1 : rG S V id = V i := by unfold rG; rw [hp]
    have e2 : S.getE id = 0 := by unfold St.getE; rw [hp]
    rw [e1, e2]
    have c := (Blk.cell hb (8 + i)).trans (rc_v S V K P U i hi)
    clear hp e1 e2
    go_enter Tryz.func34, Tryz.ntmps34
    go_wp2_with (go_at_call 63; refine (rat b S V K P U hS id _ hb).mono ?_; rintro e w' ⟨rfl, rfl⟩)
    go_ret2
    exact ⟨rfl, Gr.refl _ _⟩
  · have e1 : rG S V id = 0 := by unfold rG; rw [hp]
    have e2 : S.getE id = 100 := by unfold St.getE; rw [hp]
    rw [e1, e2]
    clear hp e1 e2
    go_enter Tryz.func34, Tryz.ntmps34
    go_wp2_with (go_at_call 63; refine (rat b S V K P U hS id _ hb).mono ?_; rintro e w' ⟨rfl, rfl⟩)
    go_ret2
    exact ⟨rfl, Gr.refl _ _⟩

set_option maxHeartbeats 1000000 in
theorem rremove (b : Nat) (S : St Int) (V : Nat → Int) (K P U : Value) (hS : S.ok) (id : Int) (z : Th Int) (w : World) (hb : Rf w b S V K P U) :
    Calls Tryz.prog 58 #[.pointer (some ⟨b, 0, none⟩), .int .i64 id] w fun e w' => e = .returned (.tuple #[.int .i64 (rG S V id), .int .i64 (S.getE id)]) ∧ Gr w w' (fun k => k = b) ∧ Rf w' b (S.rmI id z) V K P U := by
  rcases place_cases S id with ⟨i, hi, hp, hpi⟩ | ⟨hp, hpi⟩
  · have e1 : rG S V id = V i := by unfold rG; rw [hp]
    have e2 : S.getE id = 0 := by unfold St.getE; rw [hp]
    rw [e1, e2]
    have c0 := (Blk.cell hb i).trans (rc_hd S V K P U i hi)
    have c := (Blk.cell hb (8 + i)).trans (rc_v S V K P U i hi)
    have c2 := (Blk.cell hb (16 + i)).trans (rc_sq S V K P U i hi)
    have f0 := Blk.frozen hb i
    have f := Blk.frozen hb (16 + i)
    obtain ⟨q0, q1⟩ := hS i hi
    have HP := Lib.hid hp
    have hB2 : Rf ((w.setCell ⟨b, i, none⟩ (.bool false)).setCell ⟨b, 16 + i, none⟩ (.int .i64 ((S.sq i + 1) % 4096))) b ((S.setH i false).setS i ((S.sq i + 1) % 4096)) V K P U := by
      have h := (Blk.set_ hb i (.bool false)).set_ (16 + i) (.int .i64 ((S.sq i + 1) % 4096))
      rw [rc_setH _ _ _ _ _ _ _ hi, rc_setS _ _ _ _ _ _ _ hi] at h
      exact h
    have HB2 := Lib.hid hB2
    clear hp e1 e2 hB2
    generalize hq : S.sq i = q at *
    have HQ := Lib.hid hq
    clear hq
    go_enter Tryz.func58, Tryz.ntmps58
    go_wp2_with (go_at_call 63; refine (rat b S V K P U hS id _ hb).mono ?_; rintro e w' ⟨rfl, rfl⟩)
    go_region
    go_wp2
    go_ret2
    refine ⟨rfl, (((Gr.refl w (fun j => j = b)).set1 i _).set1 (16 + i) _).drew, ?_⟩
    unfold St.rmI
    rw [HP.out]
    have h := HB2.out
    rw [← HQ.out] at h
    have h2 : Rf ((w.setCell ⟨b, i, none⟩ (.bool false)).setCell ⟨b, 16 + i, none⟩ (.int .i64 ((S.sq i + 1) % 4096))) b (S.rm i z) V K P U := h
    rw [HQ.out] at h2
    exact h2
  · have e1 : rG S V id = 0 := by unfold rG; rw [hp]
    have e2 : S.getE id = 100 := by unfold St.getE; rw [hp]
    rw [e1, e2]
    have HP := Lib.hid hp
    clear hp e1 e2
    go_enter Tryz.func58, Tryz.ntmps58
    go_wp2_with (go_at_call 63; refine (rat b S V K P U hS id _ hb).mono ?_; rintro e w' ⟨rfl, rfl⟩)
    go_ret2
    refine ⟨rfl, Gr.refl _ _, ?_⟩
    unfold St.rmI
    rw [HP.out]
    exact hb
theorem own_ge {w : World} {base : Nat} {e : TypeId} {size n : Nat} {v : Value} {xs : List Value} (h : w.ownsRow base e size v n xs) {j : Nat} (ej : v.ownBlock = some j) : base ≤ j := by
  rcases h.2 with ⟨rfl, _⟩ | ⟨g, cap, cur, rfl, hb, _⟩
  · simp [Value.ownBlock] at ej
  · obtain rfl : g = j := by simpa [Value.ownBlock] using ej
    exact hb

set_option maxRecDepth 100000 in
set_option maxHeartbeats 2000000 in
theorem rids (b : Nat) (S : St Int) (V : Nat → Int) (K P U : Value) (hS : S.ok) (w : World) (hb : Rf w b S V K P U) :
    Calls Tryz.prog 7 #[.pointer (some ⟨b, 0, none⟩)] w fun e w' => ∃ v, e = .returned v ∧ w'.ownsRow w.heap.size 3 1 v S.ids.length (Ints S.ids) ∧ Same w w' := by
  have hlt := Blk.lt hb
  obtain ⟨i0, hi, hz0, hz1, hz2⟩ := info_parts info3
  have HB := Lib.hid hb
  clear hb
  go_enter Tryz.func7, Tryz.ntmps7
  go_wp2
  go_loopw [3, 4] (fun v i wr => ∃ k : Nat, k ≤ 8 ∧ i = .int .i64 k ∧ wr.ownsRow w.heap.size 3 1 v (idsOf S (List.range k)).length (Ints (idsOf S (List.range k))) ∧ Same w wr) (fun _ i _ => 8 - (intOf i).toNat)
  case atStart => exact ⟨0, by omega, rfl, World.ownsRow_nil _ _ _ _, Gr.refl _ _⟩
  case round =>
    obtain ⟨k, hk, rfl, hrow, hG⟩ := hrel
    by_cases hlt8 : k < 8
    · have hB := hG.blk HB.out (fun f => f)
      have c := (Blk.cell hB k).trans (rc_hd S V K P U k hlt8)
      have hle := ids_le S (List.range k)
      simp at hle
      have hzW := hG.size
      cases hd : S.hd k
      · rw [hd] at c
        have HE : Hid (idsOf S (List.range (k + 1)) = idsOf S (List.range k)) := by rw [List.range_succ]; exact ids_miss _ _ _ hd
        clear hd
        go_wp2
        go_roundw
        case rel => exact ⟨k + 1, by omega, by go_num, by rw [HE.out]; exact hrow, hG⟩
        case measure => simp [intOf]; omega
      · rw [hd] at c
        have HE : Hid (idsOf S (List.range (k + 1)) = idsOf S (List.range k) ++ [idOf S k]) := by rw [List.range_succ]; exact ids_hit _ _ _ hd
        clear hd
        go_wp2_with first
          | (go_at_call 28; refine (rid b k S V K P U hS hlt8 _ hB).mono ?_; rintro e w' ⟨rfl, rfl⟩)
          | (at_builtin; refine wpList_append_own _ rfl _ _ 31 rfl w.heap.size 3 i0 (.int .i64 0) 1 8 Tryz.underlying31 hi hz0 hz1 hz2 rfl (by decide) _ _ _ rfl (hrow.alloc _) ⟨wr.heap.size, 0, none⟩ 1 1 [.int .i64 (idOf S k)] rfl rfl (cell_one_new _ _ _) (by simp [Value.oneCell']) (by unfold maxLen; omega) (by omega) (by simp; omega) ?_; intro v' w2 hown' hgrow _)
        go_roundw
        case rel => exact ⟨k + 1, by omega, by go_num, by rw [HE.out]; simpa [Ints] using hown', (hG.alloc _).trans (Gr.of_grownBy (X := fun j => w.heap.size ≤ j) hgrow (fun j ej => .inl (own_ge hrow ej))) (fun j hj h => by omega)⟩
        case measure => simp [intOf]; omega
    · obtain rfl : k = 8 := by omega
      go_wp2
      go_ret
      exact ⟨_, rfl, hrow, hG⟩

end Go.Proofs
