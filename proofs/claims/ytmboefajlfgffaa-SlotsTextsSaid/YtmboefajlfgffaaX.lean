/- The reference's slots. -/
import Derived.Test.YtmboefajlfgffaaJ
import Derived.RegionTactic
import Derived.ChangeAlike
set_option linter.unusedVariables false
set_option linter.unusedSimpArgs false
namespace Go.Proofs
open Go.RowKit Go.Shelf

def refCells (S : St) (V : Nat → Int) : Array Value := #[.bool (S.hd 0), .bool (S.hd 1), .bool (S.hd 2), .bool (S.hd 3), .bool (S.hd 4), .bool (S.hd 5), .bool (S.hd 6), .bool (S.hd 7), .int .i64 (V 0), .int .i64 (V 1), .int .i64 (V 2), .int .i64 (V 3), .int .i64 (V 4), .int .i64 (V 5), .int .i64 (V 6), .int .i64 (V 7), .int .i64 (S.sq 0), .int .i64 (S.sq 1), .int .i64 (S.sq 2), .int .i64 (S.sq 3), .int .i64 (S.sq 4), .int .i64 (S.sq 5), .int .i64 (S.sq 6), .int .i64 (S.sq 7)]
theorem rc_hd (S : St) (V : Nat → Int) : ∀ i, i < 8 → (refCells S V)[i]? = some (.bool (S.hd i)) := lt8 rfl rfl rfl rfl rfl rfl rfl rfl
theorem rc_v (S : St) (V : Nat → Int) : ∀ i, i < 8 → (refCells S V)[8 + i]? = some (.int .i64 (V i)) := lt8 rfl rfl rfl rfl rfl rfl rfl rfl
theorem rc_sq (S : St) (V : Nat → Int) : ∀ i, i < 8 → (refCells S V)[16 + i]? = some (.int .i64 (S.sq i)) := lt8 rfl rfl rfl rfl rfl rfl rfl rfl
def upd (V : Nat → Int) (i : Nat) (n : Int) : Nat → Int := fun j => if j = i then n else V j
theorem rc_setH (S : St) (V : Nat → Int) (b : Bool) : ∀ i, i < 8 → (refCells S V).setIfInBounds i (.bool b) = refCells (S.setH i b) V := lt8 rfl rfl rfl rfl rfl rfl rfl rfl
theorem rc_setV (S : St) (V : Nat → Int) (n : Int) : ∀ i, i < 8 → (refCells S V).setIfInBounds (8 + i) (.int .i64 n) = refCells S (upd V i n) := lt8 rfl rfl rfl rfl rfl rfl rfl rfl
theorem rc_setS (S : St) (V : Nat → Int) (n : Int) : ∀ i, i < 8 → (refCells S V).setIfInBounds (16 + i) (.int .i64 n) = refCells (S.setS i n) V := lt8 rfl rfl rfl rfl rfl rfl rfl rfl
def Rf (w : World) (b : Nat) (S : St) (V : Nat → Int) : Prop := Blk w b 42 (refCells S V)

theorem ret_int {k : IntKind} {a b : Int} (h : a = b) : Ending.returned (.int k a) = .returned (.int k b) := by rw [h]
theorem rid (b i : Nat) (S : St) (V : Nat → Int) (hS : S.ok) (hi : i < 8) (w : World) (hb : Rf w b S V) :
    Calls Try.prog 34 #[.pointer (some ⟨b, 0, none⟩), .int .i64 i] w fun e w' => e = .returned (.int .i64 (idOf S i)) ∧ w = w' := by
  have c := (Blk.cell hb (16 + i)).trans (rc_sq S V i hi)
  obtain ⟨q0, q1⟩ := hS i hi
  unfold idOf
  clear hb
  generalize S.sq i = q at *
  go_enter Try.func34, Try.ntmps34
  go_wp2
  go_ret
  exact ⟨rfl, rfl⟩

def placeI (S : St) (id : Int) : Int := match S.place id with | some i => i | none => -1
theorem placeI_lt {S : St} {id : Int} : -1 ≤ placeI S id ∧ placeI S id < 8 := by
  unfold placeI
  split
  · rename_i i h; have := (place_lt h).1; omega
  · omega

set_option maxHeartbeats 1000000 in
theorem rat (b : Nat) (S : St) (V : Nat → Int) (hS : S.ok) (id : Int) (w : World) (hb : Rf w b S V) :
    Calls Try.prog 35 #[.pointer (some ⟨b, 0, none⟩), .int .i64 id] w fun e w' => e = .returned (.int .i64 (placeI S id)) ∧ w = w' := by
  have HB := Lib.hid hb
  clear hb
  go_enter Try.func35, Try.ntmps35
  go_wp2
  go_loop [5] (fun i => ∃ k : Nat, k ≤ 8 ∧ i = .int .i64 k ∧ ∀ j, j < k → S.hd j = true → idOf S j ≠ id) (fun i => 8 - (intOf i).toNat)
  case atStart => exact ⟨0, by omega, rfl, fun j hj => by omega⟩
  case round =>
    obtain ⟨k, hk, rfl, hno⟩ := hrel
    have HN := Lib.hid hno
    clear hno
    by_cases hlt : k < 8
    · have c := (Blk.cell HB.out k).trans (rc_hd S V k hlt)
      cases hd : S.hd k
      · rw [hd] at c
        go_wp2
        go_round
        case rel =>
          refine ⟨k + 1, by omega, by go_num, fun j hj hh => ?_⟩
          by_cases hjk : j = k
          · rw [hjk, hd] at hh; cases hh
          · exact HN.out j (by omega) hh
        case measure => simp [intOf]; omega
      · rw [hd] at c
        by_cases hid : idOf S k = id
        · have hid' : (idOf S k == id) = true := by simp [hid]
          have hp : placeI S id = k := by unfold placeI; rw [place_some hlt hd hid]
          have HP := Lib.hid hp
          clear hid hp hd
          go_wp2_with (go_at_call 34; refine (rid b k S V hS hlt _ HB.out).mono ?_; rintro e w' ⟨rfl, rfl⟩)
          go_ret
          exact ⟨ret_int (by rw [HP.out]), rfl⟩
        · have hid' : (idOf S k == id) = false := by simp [hid]
          have HI := Lib.hid hid
          clear hid hd
          go_wp2_with (go_at_call 34; refine (rid b k S V hS hlt _ HB.out).mono ?_; rintro e w' ⟨rfl, rfl⟩)
          go_round
          case rel =>
            refine ⟨k + 1, by omega, by go_num, fun j hj hh => ?_⟩
            by_cases hjk : j = k
            · rw [hjk]; exact HI.out
            · exact HN.out j (by omega) hh
          case measure => simp [intOf]; omega
    · have hp : placeI S id = -1 := by
        unfold placeI
        rw [place_none (fun j hj => HN.out j (by omega))]
      have HP := Lib.hid hp
      clear hp
      go_wp2
      go_ret
      exact ⟨ret_int (by rw [HP.out]), rfl⟩

def rV (S : St) (V : Nat → Int) (v : Int) : Nat → Int := match S.free with | some i => upd V i v | none => V
set_option maxHeartbeats 1000000 in
theorem radd (b : Nat) (S : St) (V : Nat → Int) (hS : S.ok) (v : Int) (z : Value) (w : World) (hb : Rf w b S V) :
    Calls Try.prog 17 #[.pointer (some ⟨b, 0, none⟩), .int .i64 v] w fun e w' => e = .returned (.tuple #[.int .i64 S.addId, .int .i64 S.addE]) ∧ Gr w w' (fun k => k = b) ∧ Rf w' b (S.addS z) (rV S V v) := by
  have HB := Lib.hid hb
  clear hb
  go_enter Try.func17, Try.ntmps17
  go_wp2
  go_loop [6] (fun i => ∃ k : Nat, k ≤ 8 ∧ i = .int .i64 k ∧ ∀ j, j < k → S.hd j = true) (fun i => 8 - (intOf i).toNat)
  case atStart => exact ⟨0, by omega, rfl, fun j hj => by omega⟩
  case round =>
    obtain ⟨k, hk, rfl, hno⟩ := hrel
    have HN := Lib.hid hno
    clear hno
    by_cases hlt : k < 8
    · have c := (Blk.cell HB.out k).trans (rc_hd S V k hlt)
      have c2 := (Blk.cell HB.out (8 + k)).trans (rc_v S V k hlt)
      have f := Blk.frozen HB.out k
      have f2 := Blk.frozen HB.out (8 + k)
      cases hd : S.hd k
      · rw [hd] at c
        have hf := free_some hlt hd HN.out
        have hB2 : Rf ((w.setCell ⟨b, k, none⟩ (.bool true)).setCell ⟨b, 8 + k, none⟩ (.int .i64 v)) b (S.setH k true) (upd V k v) := by
          have h := (Blk.set_ HB.out k (.bool true)).set_ (8 + k) (.int .i64 v)
          rw [rc_setH _ _ _ _ hlt, rc_setV _ _ _ _ hlt] at h
          exact h
        have HF := Lib.hid hf
        have hok : St.ok (S.setH k true) := hS
        clear hf hd
        go_wp2_with (go_at_call 34; refine (rid b k (S.setH k true) (upd V k v) hok hlt _ hB2).mono ?_; rintro e w' ⟨rfl, rfl⟩)
        go_ret2
        refine ⟨?_, ((Gr.refl w (fun j => j = b)).set1 k _).set1 (8 + k) _, ?_⟩
        · unfold St.addId St.addE; rw [HF.out]; rfl
        · unfold St.addS rV; rw [HF.out]; exact hB2
      · rw [hd] at c
        go_wp2
        go_round
        case rel =>
          refine ⟨k + 1, by omega, by go_num, fun j hj => ?_⟩
          by_cases hjk : j = k
          · rw [hjk]; exact hd
          · exact HN.out j (by omega)
        case measure => simp [intOf]; omega
    · have hf := free_none (S := S) (fun j hj => HN.out j (by omega))
      have HF := Lib.hid hf
      clear hf
      go_wp2
      go_ret2
      refine ⟨by unfold St.addId St.addE; rw [HF.out]; rfl, Gr.refl _ _, ?_⟩
      unfold St.addS rV
      rw [HF.out]
      exact HB.out

def rG (S : St) (V : Nat → Int) (id : Int) : Int := match S.place id with | some i => V i | none => 0
theorem place_cases (S : St) (id : Int) : (∃ i, i < 8 ∧ S.place id = some i ∧ placeI S id = i) ∨ (S.place id = none ∧ placeI S id = -1) := by
  unfold placeI
  cases h : S.place id with
  | none => exact .inr ⟨rfl, rfl⟩
  | some i => exact .inl ⟨i, (place_lt h).1, rfl, rfl⟩

set_option maxHeartbeats 1000000 in
theorem rget (b : Nat) (S : St) (V : Nat → Int) (hS : S.ok) (id : Int) (w : World) (hb : Rf w b S V) :
    Calls Try.prog 18 #[.pointer (some ⟨b, 0, none⟩), .int .i64 id] w fun e w' => e = .returned (.tuple #[.int .i64 (rG S V id), .int .i64 (S.getE id)]) ∧ Same w w' := by
  rcases place_cases S id with ⟨i, hi, hp, hpi⟩ | ⟨hp, hpi⟩
  · have e1 : rG S V id = V i := by unfold rG; rw [hp]
    have e2 : S.getE id = 0 := by unfold St.getE; rw [hp]
    rw [e1, e2]
    have c := (Blk.cell hb (8 + i)).trans (rc_v S V i hi)
    clear hp e1 e2
    go_enter Try.func18, Try.ntmps18
    go_wp2_with (go_at_call 35; refine (rat b S V hS id _ hb).mono ?_; rintro e w' ⟨rfl, rfl⟩)
    go_ret2
    exact ⟨rfl, Gr.refl _ _⟩
  · have e1 : rG S V id = 0 := by unfold rG; rw [hp]
    have e2 : S.getE id = 100 := by unfold St.getE; rw [hp]
    rw [e1, e2]
    clear hp e1 e2
    go_enter Try.func18, Try.ntmps18
    go_wp2_with (go_at_call 35; refine (rat b S V hS id _ hb).mono ?_; rintro e w' ⟨rfl, rfl⟩)
    go_ret2
    exact ⟨rfl, Gr.refl _ _⟩

def rVs (S : St) (V : Nat → Int) (id v : Int) : Nat → Int := match S.place id with | some i => upd V i v | none => V
set_option maxHeartbeats 1000000 in
theorem rset (b : Nat) (S : St) (V : Nat → Int) (hS : S.ok) (id v : Int) (z : Value) (w : World) (hb : Rf w b S V) :
    Calls Try.prog 20 #[.pointer (some ⟨b, 0, none⟩), .int .i64 id, .int .i64 v] w fun e w' => e = .returned (.int .i64 (S.getE id)) ∧ Gr w w' (fun k => k = b) ∧ Rf w' b (S.setS' id z) (rVs S V id v) := by
  rcases place_cases S id with ⟨i, hi, hp, hpi⟩ | ⟨hp, hpi⟩
  · have e2 : S.getE id = 0 := by unfold St.getE; rw [hp]
    rw [e2]
    have c := (Blk.cell hb (8 + i)).trans (rc_v S V i hi)
    have f := Blk.frozen hb (8 + i)
    have HP := Lib.hid hp
    clear hp e2
    go_enter Try.func20, Try.ntmps20
    go_wp2_with (go_at_call 35; refine (rat b S V hS id _ hb).mono ?_; rintro e w' ⟨rfl, rfl⟩)
    go_ret
    refine ⟨rfl, (Gr.refl w (fun j => j = b)).set1 (8 + i) _, ?_⟩
    unfold St.setS' rVs
    rw [HP.out]
    have h := Blk.set_ hb (8 + i) (.int .i64 v)
    rw [rc_setV _ _ _ _ hi] at h
    exact h
  · have e2 : S.getE id = 100 := by unfold St.getE; rw [hp]
    rw [e2]
    have HP := Lib.hid hp
    clear hp e2
    go_enter Try.func20, Try.ntmps20
    go_wp2_with (go_at_call 35; refine (rat b S V hS id _ hb).mono ?_; rintro e w' ⟨rfl, rfl⟩)
    go_ret
    refine ⟨rfl, Gr.refl _ _, ?_⟩
    unfold St.setS' rVs
    rw [HP.out]
    exact hb

set_option maxHeartbeats 1000000 in
theorem rremove (b : Nat) (S : St) (V : Nat → Int) (hS : S.ok) (id : Int) (z : Value) (w : World) (hb : Rf w b S V) :
    Calls Try.prog 21 #[.pointer (some ⟨b, 0, none⟩), .int .i64 id] w fun e w' => e = .returned (.tuple #[.int .i64 (rG S V id), .int .i64 (S.getE id)]) ∧ Gr w w' (fun k => k = b) ∧ Rf w' b (S.rmS id z) V := by
  rcases place_cases S id with ⟨i, hi, hp, hpi⟩ | ⟨hp, hpi⟩
  · have e1 : rG S V id = V i := by unfold rG; rw [hp]
    have e2 : S.getE id = 0 := by unfold St.getE; rw [hp]
    rw [e1, e2]
    have c0 := (Blk.cell hb i).trans (rc_hd S V i hi)
    have c := (Blk.cell hb (8 + i)).trans (rc_v S V i hi)
    have c2 := (Blk.cell hb (16 + i)).trans (rc_sq S V i hi)
    have f0 := Blk.frozen hb i
    have f := Blk.frozen hb (16 + i)
    obtain ⟨q0, q1⟩ := hS i hi
    have HP := Lib.hid hp
    have hB2 : Rf ((w.setCell ⟨b, i, none⟩ (.bool false)).setCell ⟨b, 16 + i, none⟩ (.int .i64 ((S.sq i + 1) % 4096))) b ((S.setH i false).setS i ((S.sq i + 1) % 4096)) V := by
      have h := (Blk.set_ hb i (.bool false)).set_ (16 + i) (.int .i64 ((S.sq i + 1) % 4096))
      rw [rc_setH _ _ _ _ hi, rc_setS _ _ _ _ hi] at h
      exact h
    have HB2 := Lib.hid hB2
    clear hp e1 e2 hB2
    generalize hq : S.sq i = q at *
    have HQ := Lib.hid hq
    clear hq
    go_enter Try.func21, Try.ntmps21
    go_wp2_with (go_at_call 35; refine (rat b S V hS id _ hb).mono ?_; rintro e w' ⟨rfl, rfl⟩)
    go_region
    go_wp2
    go_ret2
    refine ⟨rfl, (((Gr.refl w (fun j => j = b)).set1 i _).set1 (16 + i) _).drew, ?_⟩
    unfold St.rmS
    rw [HP.out]
    have h := HB2.out
    rw [← HQ.out] at h
    have h2 : Rf ((w.setCell ⟨b, i, none⟩ (.bool false)).setCell ⟨b, 16 + i, none⟩ (.int .i64 ((S.sq i + 1) % 4096))) b (S.rm i z) V := h
    rw [HQ.out] at h2
    exact h2
  · have e1 : rG S V id = 0 := by unfold rG; rw [hp]
    have e2 : S.getE id = 100 := by unfold St.getE; rw [hp]
    rw [e1, e2]
    have HP := Lib.hid hp
    clear hp e1 e2
    go_enter Try.func21, Try.ntmps21
    go_wp2_with (go_at_call 35; refine (rat b S V hS id _ hb).mono ?_; rintro e w' ⟨rfl, rfl⟩)
    go_ret2
    refine ⟨rfl, Gr.refl _ _, ?_⟩
    unfold St.rmS
    rw [HP.out]
    exact hb
end Go.Proofs
