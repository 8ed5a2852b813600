/- Slots of things: small words, the plain law. -/
import Derived.Test.YthijminlalddcaaGreatDoorSA
import Derived.RegionTactic
import Derived.ChangeAlike
set_option linter.unusedVariables false
set_option linter.unusedSimpArgs false
namespace Go.Proofs
open Go.RowKit Go.Shelf
attribute [local go_sem] Oper.semAt_some

theorem Gr.no' {w w' : World} {X : Nat → Prop} (h : Gr w w' (fun _ => False)) : Gr w w' X := h.mono (fun _ _ f => f.elim)
theorem Gr.nextX {a b c : World} {X : Nat → Prop} (h1 : Gr a b (fun _ => False)) (h2 : Gr b c X) : Gr a c X := (h1.mono (fun _ _ f => f.elim)).trans h2 (fun _ _ h => h)
/-- isOf(id, n): one number. -/
theorem isOf_one (a c : Int) (b : Nat) (w : World) (hb : Blk w b 3 #[.int .i64 c]) :
    Calls Tryz.prog 89 #[.int .i64 a, .slice (some ⟨b, 0, none⟩) 1 1] w fun e w' => e = .returned (.bool (c == a)) ∧ w = w' := by
  have c0 := hb.cell 0
  simp at c0
  clear hb
  cases hca : (c == a)
  · go_enter Tryz.func89, Tryz.ntmps89
    go_wp2
    go_loop [4, 9] (fun r i => r = .bool false ∧ (i = .int .i64 0 ∨ i = .int .i64 1)) (fun _ i => 1 - (intOf i).toNat)
    case atStart => exact ⟨rfl, .inl rfl⟩
    case round =>
      obtain ⟨rfl, rfl | rfl⟩ := hrel
      · go_wp2
        go_round
        case rel => exact ⟨rfl, .inr rfl⟩
        case measure => simp [intOf]
      · go_wp2
        go_ret
        exact ⟨rfl, rfl⟩
  · go_enter Tryz.func89, Tryz.ntmps89
    go_wp2
    go_loop [4, 9] (fun r i => r = .bool false ∧ i = .int .i64 0) (fun _ i => 1 - (intOf i).toNat)
    case atStart => exact ⟨rfl, rfl⟩
    case round =>
      obtain ⟨rfl, rfl⟩ := hrel
      go_wp2
      go_ret
      exact ⟨rfl, rfl⟩
section
variable {α : Type}
/-- what came: all but the last were held, the last was not -/
def Came (S : St α) (pre : List (Fin 8)) (x : Fin 8) : Prop := ∃ q, pre = q ++ [x] ∧ (∀ j ∈ q, S.hd j.1 = true) ∧ S.hd x.1 = false
theorem came_at {S : St α} {pre : List (Fin 8)} {x : Fin 8} {i : Nat} (h : Came S pre x) (hp : pre.map Fin.val = List.range (i + 1)) : x.1 = i ∧ (∀ j, j < i → S.hd j = true) ∧ S.hd i = false := by
  obtain ⟨q, rfl, hq, hx⟩ := h
  rw [List.map_append, List.range_succ] at hp
  obtain ⟨h1, h2⟩ := List.append_inj' hp rfl
  have hxi : x.1 = i := by simpa using h2
  refine ⟨hxi, fun j hj => ?_, hxi ▸ hx⟩
  have : j ∈ q.map Fin.val := by rw [h1]; simpa using hj
  obtain ⟨y, hy, rfl⟩ := List.mem_map.1 this
  exact hq y hy
/-- what came: none but the last was held under that number -/
def Met (S : St α) (id : Int) (pre : List (Fin 8)) (x : Fin 8) : Prop := ∃ q, pre = q ++ [x] ∧ (∀ j ∈ q, S.hd j.1 = true → idOf S j.1 ≠ id) ∧ S.hd x.1 = true ∧ idOf S x.1 = id
theorem met_at {S : St α} {id : Int} {pre : List (Fin 8)} {x : Fin 8} {i : Nat} (h : Met S id pre x) (hp : pre.map Fin.val = List.range (i + 1)) : x.1 = i ∧ S.hd i = true ∧ idOf S i = id := by
  obtain ⟨q, rfl, hq, hx, hid⟩ := h
  rw [List.map_append, List.range_succ] at hp
  obtain ⟨h1, h2⟩ := List.append_inj' hp rfl
  have hxi : x.1 = i := by simpa using h2
  exact ⟨hxi, hxi ▸ hx, hxi ▸ hid⟩
def St.rm (S : St α) (i : Nat) (z : Th α) : St α := ((S.setT i z).setH i false).setS i ((S.sq i + 1) % 4096)

/-! ### What the slots' functions answer -/
def St.free (S : St α) : Option Nat := (List.range 8).find? fun i => !S.hd i
def St.place (S : St α) (id : Int) : Option Nat := (List.range 8).find? fun i => S.hd i && idOf S i == id
theorem find8_some {p : Nat → Bool} {i : Nat} (hi : i < 8) (h : p i = true) (hb : ∀ j, j < i → p j = false) : (List.range 8).find? p = some i := by
  rw [List.find?_range_eq_some]
  exact ⟨h, List.mem_range.2 hi, fun j hj => by simp [hb j hj]⟩
theorem find8_none {p : Nat → Bool} (h : ∀ j, j < 8 → p j = false) : (List.range 8).find? p = none := by
  rw [List.find?_eq_none]
  intro j hj
  simp [h j (List.mem_range.1 hj)]
theorem find8_get {p : Nat → Bool} {i : Nat} (h : (List.range 8).find? p = some i) : i < 8 ∧ p i = true ∧ ∀ j, j < i → p j = false := by
  rw [List.find?_range_eq_some] at h
  exact ⟨List.mem_range.1 h.2.1, h.1, fun j hj => by simpa using h.2.2 j hj⟩
theorem find8_no {p : Nat → Bool} (h : (List.range 8).find? p = none) : ∀ j, j < 8 → p j = false := by
  rw [List.find?_eq_none] at h
  intro j hj
  simpa using h j (List.mem_range.2 hj)
theorem id_inj {S : St α} {i j : Nat} (hi : i < 8) (hj : j < 8) (h : idOf S i = idOf S j) : i = j := by unfold idOf at h; omega
theorem free_some {S : St α} {i : Nat} (hi : i < 8) (h : S.hd i = false) (hb : ∀ j, j < i → S.hd j = true) : S.free = some i := find8_some hi (by simp [h]) (fun j hj => by simp [hb j hj])
theorem free_none {S : St α} (h : ∀ j, j < 8 → S.hd j = true) : S.free = none := find8_none (fun j hj => by simp [h j hj])
theorem place_some {S : St α} {id : Int} {i : Nat} (hi : i < 8) (h : S.hd i = true) (hd : idOf S i = id) : S.place id = some i :=
  find8_some hi (by simp [h, hd]) (fun j hj => by
    cases hh : S.hd j
    · simp
    · have : idOf S j ≠ id := fun e => by have := id_inj (by omega) hi (e.trans hd.symm); omega
      simp [this])
theorem place_none {S : St α} {id : Int} (h : ∀ j, j < 8 → S.hd j = true → idOf S j ≠ id) : S.place id = none := find8_none (fun j hj => by
    cases hh : S.hd j
    · simp
    · simp [h j hj hh])
theorem place_get {S : St α} {id : Int} {i : Nat} (h : S.place id = some i) : i < 8 ∧ S.hd i = true ∧ idOf S i = id := by
  obtain ⟨h1, h2, _⟩ := find8_get h
  simp at h2
  exact ⟨h1, h2.1, h2.2⟩
theorem free_get {S : St α} {i : Nat} (h : S.free = some i) : i < 8 ∧ S.hd i = false := by
  obtain ⟨h1, h2, _⟩ := find8_get h
  simp at h2
  exact ⟨h1, h2⟩
def St.addS (S : St α) (t : Th α) : St α := match S.free with | some i => (S.setT i t).setH i true | none => S
def St.addId (S : St α) : Int := match S.free with | some i => idOf S i | none => 0
def St.addE (S : St α) : Int := match S.free with | some _ => 0 | none => 101
def St.getE (S : St α) (id : Int) : Int := match S.place id with | some _ => 0 | none => 100
def St.getT (S : St α) (id : Int) (z : Th α) : Th α := match S.place id with | some i => S.th i | none => z
def St.setI (S : St α) (id : Int) (t : Th α) : St α := match S.place id with | some i => S.setT i t | none => S
def St.rmI (S : St α) (id : Int) (z : Th α) : St α := match S.place id with | some i => S.rm i z | none => S
/-- the numbers of those that have come and are held -/
def idsOf (S : St α) (pre : List Nat) : List Int := (pre.filter fun i => S.hd i).map (idOf S)
def St.ids (S : St α) : List Int := idsOf S (List.range 8)
theorem ids_hit (S : St α) (pre : List Nat) (x : Nat) (h : S.hd x = true) : idsOf S (pre ++ [x]) = idsOf S pre ++ [idOf S x] := by simp [idsOf, h]
theorem ids_miss (S : St α) (pre : List Nat) (x : Nat) (h : S.hd x = false) : idsOf S (pre ++ [x]) = idsOf S pre := by simp [idsOf, h]
theorem ids_le (S : St α) (pre : List Nat) : (idsOf S pre).length ≤ pre.length := by unfold idsOf; rw [List.length_map]; exact List.length_filter_le _ _
theorem ids8 (S : St α) : S.ids.length ≤ 8 := by have := ids_le S (List.range 8); rw [List.length_range] at this; exact this
theorem St.ok.addS {S : St α} (h : S.ok) (t : Th α) : (S.addS t).ok := by
  unfold St.addS
  cases hf : S.free with
  | none => exact h
  | some i => exact h
theorem St.ok.setI {S : St α} (h : S.ok) (id : Int) (t : Th α) : (S.setI id t).ok := by
  unfold St.setI
  cases hf : S.place id with
  | none => exact h
  | some i => exact h
theorem St.ok.rmI {S : St α} (h : S.ok) (id : Int) (z : Th α) : (S.rmI id z).ok := by
  unfold St.rmI
  cases hf : S.place id with
  | none => exact h
  | some i =>
    intro j hj
    obtain ⟨a, b⟩ := h j hj
    obtain ⟨c, d⟩ := h i (place_get hf).1
    show 0 ≤ (if j = i then (S.sq i + 1) % 4096 else S.sq j) ∧ (if j = i then (S.sq i + 1) % 4096 else S.sq j) ≤ 4095
    split <;> omega
def Ints (l : List Int) : List Value := l.map (Value.int .i64)
end
theorem own_low {W : World} {base base' : Nat} {e : TypeId} {size : Nat} {v : Value} {n : Nat} {xs : List Value} (h : W.ownsRow base e size v n xs) (hb : base' ≤ base) : W.ownsRow base' e size v n xs := by
  obtain ⟨h1, h2⟩ := h
  refine ⟨h1, ?_⟩
  rcases h2 with h2 | ⟨g, cap, cur, hv, hg, r⟩
  · exact .inl h2
  · exact .inr ⟨g, cap, cur, hv, Nat.le_trans hb hg, r⟩
theorem info3 : (Tryz.prog.info? 3).map (fun i => (i.zero, i.size, i.bytes)) = some (some (.int .i64 0), 1, 8) := by kernel_rfl
theorem res_int_errno {fn : Func} (h : fn.results = #[.cell 4 3, .cell 5 44]) {tmps : Array Value} {w : World} {b1 b2 : Nat} {x y : Int}
    (a1 : tmps.getD 4 undef = .pointer (some ⟨b1, 0, none⟩)) (a2 : tmps.getD 5 undef = .pointer (some ⟨b2, 0, none⟩))
    (h1 : Blk w b1 3 #[.int .i64 x]) (h2 : Blk w b2 44 #[.int .i64 y]) : (results fn tmps).run Tryz.prog w = .ok (.tuple #[.int .i64 x, .int .i64 y]) w := by
  have c1 := h1.cell 0
  have c2 := h2.cell 0
  simp at c1 c2
  simp only [Array.getD_eq_getD_getElem?] at a1 a2
  simp [results, h, go_sem, a1, a2, c1, c2]
theorem next_any {α : Type} (enc : α → Value) (b i : Nat) (S : St α) (w : World) (hi : i < 8) (hS : S.ok) (T : TypeId) (hb : Sl enc T w b S) :
    Calls Tryz.prog 72 #[.pointer (some ⟨b, i * 9, none⟩)] w fun e w' => e = .returned (.tuple #[]) ∧ Gr w w' (fun k => k = b) ∧ Sl enc T w' b (S.setS i ((S.sq i + 1) % 4096)) := by
  have c := (Blk.cell hb (i * 9)).trans (cells_sq enc S i hi)
  have f := Blk.frozen hb (i * 9)
  obtain ⟨q0, q1⟩ := hS i hi
  have HB := Lib.hid hb
  clear hb
  generalize hq : S.sq i = q at *
  have HQ := Lib.hid hq
  clear hq
  go_enter Tryz.func72, Tryz.ntmps72
  go_wp2
  go_end0
  refine ⟨rfl, (Gr.refl _ _).set1 _ _, ?_⟩
  have h := Blk.set_ HB.out (i * 9) (.int .i64 ((q + 1) % 4096))
  rw [cells_setS _ _ _ _ hi] at h
  exact h
end Go.Proofs
