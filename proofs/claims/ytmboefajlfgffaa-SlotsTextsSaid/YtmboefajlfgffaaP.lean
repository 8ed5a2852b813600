/- Slots, as plain functions. -/
import Derived.Test.YtmboefajlfgffaaA
import Derived.Test.YtmboefajlfgffaaF
set_option linter.unusedVariables false
set_option linter.unusedSimpArgs false
namespace Go.Proofs
open Go.RowKit

def St.free (S : St) : Option Nat := (List.range 8).find? fun i => !S.hd i
def St.place (S : St) (id : Int) : Option Nat := (List.range 8).find? fun i => S.hd i && idOf S i == id

theorem find_range {p : Nat → Bool} {i : Nat} (hi : i < 8) (hp : p i = true) (hl : ∀ j, j < i → p j = false) : (List.range 8).find? p = some i := by
  rw [List.find?_range_eq_some]
  exact ⟨hp, by simpa using hi, by simpa using hl⟩
theorem find_range_none {p : Nat → Bool} (h : ∀ j, j < 8 → p j = false) : (List.range 8).find? p = none := by
  rw [List.find?_eq_none]
  intro x hx
  rw [h x (by simpa using hx)]
  simp

theorem free_some {S : St} {i : Nat} (hi : i < 8) (h : S.hd i = false) (hl : ∀ j, j < i → S.hd j = true) : S.free = some i := find_range hi (by simp [h]) (fun j hj => by simp [hl j hj])
theorem free_none {S : St} (h : ∀ j, j < 8 → S.hd j = true) : S.free = none := find_range_none (fun j hj => by simp [h j hj])
theorem free_lt {S : St} {i : Nat} (h : S.free = some i) : i < 8 ∧ S.hd i = false ∧ ∀ j, j < i → S.hd j = true := by
  unfold St.free at h
  rw [List.find?_range_eq_some] at h
  exact ⟨by simpa using h.2.1, by simpa using h.1, by simpa using h.2.2⟩
theorem free_all {S : St} (h : S.free = none) : ∀ j, j < 8 → S.hd j = true := by
  unfold St.free at h
  rw [List.find?_eq_none] at h
  intro j hj
  simpa using h j (by simpa using hj)

theorem id_mod {S : St} {i : Nat} (hi : i < 8) : idOf S i % 8 = i := by unfold idOf; omega
theorem place_some {S : St} {id : Int} {i : Nat} (hi : i < 8) (h : S.hd i = true) (hid : idOf S i = id) : S.place id = some i := by
  refine find_range hi (by simp [h, hid]) (fun j hj => ?_)
  have h1 := id_mod (S := S) hi
  have h2 := id_mod (S := S) (i := j) (by omega)
  simp only [Bool.and_eq_false_iff, beq_eq_false_iff_ne]
  refine .inr fun e => ?_
  rw [e, ← hid, h1] at h2
  omega
theorem place_none {S : St} {id : Int} (h : ∀ j, j < 8 → S.hd j = true → idOf S j ≠ id) : S.place id = none := by
  refine find_range_none (fun j hj => ?_)
  simp only [Bool.and_eq_false_iff, beq_eq_false_iff_ne]
  cases hd : S.hd j
  · exact .inl rfl
  · exact .inr (h j hj hd)
theorem place_lt {S : St} {id : Int} {i : Nat} (h : S.place id = some i) : i < 8 ∧ S.hd i = true ∧ idOf S i = id := by
  unfold St.place at h
  rw [List.find?_range_eq_some] at h
  have := h.1
  simp at this
  exact ⟨by simpa using h.2.1, this.1, this.2⟩
theorem place_no {S : St} {id : Int} (h : S.place id = none) : ∀ j, j < 8 → S.hd j = true → idOf S j ≠ id := by
  unfold St.place at h
  rw [List.find?_eq_none] at h
  intro j hj hd e
  have := h j (by simpa using hj)
  simp [hd, e] at this

def St.addId (S : St) : Int := match S.free with | some i => idOf S i | none => 0
def St.addE (S : St) : Int := match S.free with | some _ => 0 | none => 101
def St.addS (S : St) (v : Value) : St := match S.free with | some i => (S.setV i v).setH i true | none => S
def St.getE (S : St) (id : Int) : Int := match S.place id with | some _ => 0 | none => 100
def St.getV (S : St) (id : Int) (z : Value) : Value := match S.place id with | some i => S.vv i | none => z
def St.setS' (S : St) (id : Int) (v : Value) : St := match S.place id with | some i => S.setV i v | none => S
def St.rmS (S : St) (id : Int) (z : Value) : St := match S.place id with | some i => S.rm i z | none => S

theorem ok_zero (z : Value) : (St.zero z).ok := fun i _ => by simp [St.zero]
theorem ok_addS {S : St} (h : S.ok) (v : Value) : (S.addS v).ok := by unfold St.addS; split <;> exact h
theorem ok_setS' {S : St} (h : S.ok) (id : Int) (v : Value) : (S.setS' id v).ok := by unfold St.setS'; split <;> exact h
theorem ok_rm {S : St} (h : S.ok) (i : Nat) (z : Value) : (S.rm i z).ok := fun j hj => by
  have := h j hj
  show 0 ≤ (if j = i then (S.sq i + 1) % 4096 else S.sq j) ∧ (if j = i then (S.sq i + 1) % 4096 else S.sq j) ≤ 4095
  split <;> omega
theorem ok_rmS {S : St} (h : S.ok) (id : Int) (z : Value) : (S.rmS id z).ok := by unfold St.rmS; split; exact ok_rm h _ _; exact h

section
variable {Q : Value → Prop}
def St.all (Q : Value → Prop) (S : St) : Prop := ∀ i, i < 8 → Q (S.vv i)
theorem all_zero {z : Value} (hz : Q z) : (St.zero z).all Q := fun _ _ => hz
theorem all_setV {S : St} (h : S.all Q) {v : Value} (hv : Q v) (i : Nat) : (S.setV i v).all Q := fun j hj => by
  show Q (if j = i then v else S.vv j)
  split; exact hv; exact h j hj
theorem all_addS {S : St} (h : S.all Q) {v : Value} (hv : Q v) : (S.addS v).all Q := by unfold St.addS; split; exact all_setV h hv _; exact h
theorem all_setS' {S : St} (h : S.all Q) (id : Int) {v : Value} (hv : Q v) : (S.setS' id v).all Q := by unfold St.setS'; split; exact all_setV h hv _; exact h
theorem all_rmS {S : St} (h : S.all Q) (id : Int) {z : Value} (hz : Q z) : (S.rmS id z).all Q := by unfold St.rmS; split; exact all_setV (v := z) h hz _; exact h
theorem all_getV {S : St} (h : S.all Q) (id : Int) {z : Value} (hz : Q z) : Q (S.getV id z) := by
  unfold St.getV
  split
  · rename_i i hi; exact h i (place_lt hi).1
  · exact hz
end

theorem add_fun {T : TypeId} {b : Nat} {S : St} {v : Value} {w : World} {e : Ending} {w' : World} (hb : Sl T w b S) (h : AddPost T b S v w e w') :
    e = .returned (.tuple #[.int .i64 S.addId, .int .i64 S.addE]) ∧ Gr w w' (fun k => k = b) ∧ Sl T w' b (S.addS v) := by
  rcases h with ⟨rfl, hall, hG⟩ | ⟨i, hi, hl, h0, rfl, hG, hB⟩
  · have := free_none hall
    refine ⟨by simp [St.addId, St.addE, this], hG.no, ?_⟩
    simp only [St.addS, this]
    exact hG.blk hb (fun f => f)
  · have := free_some hi h0 hl
    refine ⟨by simp [St.addId, St.addE, this], hG, ?_⟩
    simp only [St.addS, this]
    exact hB
theorem get_fun {S : St} {id : Int} {z : Value} {w : World} {e : Ending} {w' : World} (h : GetPost S id z w e w') :
    e = .returned (.tuple #[S.getV id z, .int .i64 (S.getE id)]) ∧ Same w w' := by
  obtain ⟨hG, ⟨rfl, hno⟩ | ⟨i, hi, h1, h2, rfl⟩⟩ := h
  · have := place_none hno
    exact ⟨by simp [St.getV, St.getE, this], hG⟩
  · have := place_some hi h1 h2
    exact ⟨by simp [St.getV, St.getE, this], hG⟩
theorem set_fun {T : TypeId} {b : Nat} {S : St} {id : Int} {v : Value} {w : World} {e : Ending} {w' : World} (hb : Sl T w b S) (h : SetPost T b S id v w e w') :
    e = .returned (.int .i64 (S.getE id)) ∧ Gr w w' (fun k => k = b) ∧ Sl T w' b (S.setS' id v) := by
  rcases h with ⟨rfl, hno, hG⟩ | ⟨i, hi, h1, h2, rfl, hG, hB⟩
  · have := place_none hno
    refine ⟨by simp [St.getE, this], hG.no, ?_⟩
    simp only [St.setS', this]
    exact hG.blk hb (fun f => f)
  · have := place_some hi h1 h2
    refine ⟨by simp [St.getE, this], hG, ?_⟩
    simp only [St.setS', this]
    exact hB
theorem remove_fun {T : TypeId} {b : Nat} {S : St} {id : Int} {z : Value} {w : World} {e : Ending} {w' : World} (hb : Sl T w b S) (h : RemovePost T b S id z w e w') :
    e = .returned (.tuple #[S.getV id z, .int .i64 (S.getE id)]) ∧ Gr w w' (fun k => k = b) ∧ Sl T w' b (S.rmS id z) := by
  rcases h with ⟨rfl, hno, hG⟩ | ⟨i, hi, h1, h2, rfl, hG, hB⟩
  · have := place_none hno
    refine ⟨by simp [St.getV, St.getE, this], hG.no, ?_⟩
    simp only [St.rmS, this]
    exact hG.blk hb (fun f => f)
  · have := place_some hi h1 h2
    refine ⟨by simp [St.getV, St.getE, this], hG, ?_⟩
    simp only [St.rmS, this]
    exact hB
end Go.Proofs
