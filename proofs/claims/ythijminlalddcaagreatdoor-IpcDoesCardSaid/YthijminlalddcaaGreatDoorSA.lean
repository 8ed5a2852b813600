/- Slots of things in memory: each a count, a thing of seven cells, a mark. -/
import Derived.Test.YthijminlalddcaaGreatDoorC
set_option linter.unusedVariables false
set_option linter.unusedSimpArgs false
namespace Go.Proofs
open Go.RowKit Go.Shelf

/-- A thing: its permission, its key, what it is. -/
structure Th (α : Type) where
  u : Int
  g : Int
  cu : Int
  cg : Int
  m : Int
  key : Int
  v : α
/-- Eight slots: how often each was removed from, what lies there, whether something does. -/
structure St (α : Type) where
  sq : Nat → Int
  th : Nat → Th α
  hd : Nat → Bool
section
variable {α : Type} (enc : α → Value)
def Th.cells (t : Th α) : Array Value := #[.int .i64 t.u, .int .i64 t.g, .int .i64 t.cu, .int .i64 t.cg, .int .i64 t.m, .int .i64 t.key, enc t.v]
def cellsOf (S : St α) : Array Value := #[.int .i64 (S.sq 0), .int .i64 (S.th 0).u, .int .i64 (S.th 0).g, .int .i64 (S.th 0).cu, .int .i64 (S.th 0).cg, .int .i64 (S.th 0).m, .int .i64 (S.th 0).key, enc (S.th 0).v, .bool (S.hd 0), .int .i64 (S.sq 1), .int .i64 (S.th 1).u, .int .i64 (S.th 1).g, .int .i64 (S.th 1).cu, .int .i64 (S.th 1).cg, .int .i64 (S.th 1).m, .int .i64 (S.th 1).key, enc (S.th 1).v, .bool (S.hd 1), .int .i64 (S.sq 2), .int .i64 (S.th 2).u, .int .i64 (S.th 2).g, .int .i64 (S.th 2).cu, .int .i64 (S.th 2).cg, .int .i64 (S.th 2).m, .int .i64 (S.th 2).key, enc (S.th 2).v, .bool (S.hd 2), .int .i64 (S.sq 3), .int .i64 (S.th 3).u, .int .i64 (S.th 3).g, .int .i64 (S.th 3).cu, .int .i64 (S.th 3).cg, .int .i64 (S.th 3).m, .int .i64 (S.th 3).key, enc (S.th 3).v, .bool (S.hd 3), .int .i64 (S.sq 4), .int .i64 (S.th 4).u, .int .i64 (S.th 4).g, .int .i64 (S.th 4).cu, .int .i64 (S.th 4).cg, .int .i64 (S.th 4).m, .int .i64 (S.th 4).key, enc (S.th 4).v, .bool (S.hd 4), .int .i64 (S.sq 5), .int .i64 (S.th 5).u, .int .i64 (S.th 5).g, .int .i64 (S.th 5).cu, .int .i64 (S.th 5).cg, .int .i64 (S.th 5).m, .int .i64 (S.th 5).key, enc (S.th 5).v, .bool (S.hd 5), .int .i64 (S.sq 6), .int .i64 (S.th 6).u, .int .i64 (S.th 6).g, .int .i64 (S.th 6).cu, .int .i64 (S.th 6).cg, .int .i64 (S.th 6).m, .int .i64 (S.th 6).key, enc (S.th 6).v, .bool (S.hd 6), .int .i64 (S.sq 7), .int .i64 (S.th 7).u, .int .i64 (S.th 7).g, .int .i64 (S.th 7).cu, .int .i64 (S.th 7).cg, .int .i64 (S.th 7).m, .int .i64 (S.th 7).key, enc (S.th 7).v, .bool (S.hd 7)]
theorem lt8 {P : Nat → Prop} (h0 : P 0) (h1 : P 1) (h2 : P 2) (h3 : P 3) (h4 : P 4) (h5 : P 5) (h6 : P 6) (h7 : P 7) (i : Nat) (hi : i < 8) : P i := by
  match i, hi with
  | 0, _ => exact h0
  | 1, _ => exact h1
  | 2, _ => exact h2
  | 3, _ => exact h3
  | 4, _ => exact h4
  | 5, _ => exact h5
  | 6, _ => exact h6
  | 7, _ => exact h7
theorem cells_sq (S : St α) : ∀ i, i < 8 → (cellsOf enc S)[i * 9]? = some (.int .i64 (S.sq i)) := lt8 rfl rfl rfl rfl rfl rfl rfl rfl
theorem cells_hd (S : St α) : ∀ i, i < 8 → (cellsOf enc S)[i * 9 + 8]? = some (.bool (S.hd i)) := lt8 rfl rfl rfl rfl rfl rfl rfl rfl
theorem cells_u (S : St α) : ∀ i, i < 8 → (cellsOf enc S)[i * 9 + 1]? = some (.int .i64 (S.th i).u) := lt8 rfl rfl rfl rfl rfl rfl rfl rfl
theorem cells_g (S : St α) : ∀ i, i < 8 → (cellsOf enc S)[i * 9 + 1 + 1]? = some (.int .i64 (S.th i).g) := lt8 rfl rfl rfl rfl rfl rfl rfl rfl
theorem cells_cu (S : St α) : ∀ i, i < 8 → (cellsOf enc S)[i * 9 + 1 + 2]? = some (.int .i64 (S.th i).cu) := lt8 rfl rfl rfl rfl rfl rfl rfl rfl
theorem cells_cg (S : St α) : ∀ i, i < 8 → (cellsOf enc S)[i * 9 + 1 + 3]? = some (.int .i64 (S.th i).cg) := lt8 rfl rfl rfl rfl rfl rfl rfl rfl
theorem cells_m (S : St α) : ∀ i, i < 8 → (cellsOf enc S)[i * 9 + 1 + 4]? = some (.int .i64 (S.th i).m) := lt8 rfl rfl rfl rfl rfl rfl rfl rfl
theorem cells_key (S : St α) : ∀ i, i < 8 → (cellsOf enc S)[i * 9 + 1 + 5]? = some (.int .i64 (S.th i).key) := lt8 rfl rfl rfl rfl rfl rfl rfl rfl
theorem cells_v (S : St α) : ∀ i, i < 8 → (cellsOf enc S)[i * 9 + 1 + 6]? = some (enc (S.th i).v) := lt8 rfl rfl rfl rfl rfl rfl rfl rfl
def St.setT (S : St α) (i : Nat) (t : Th α) : St α := { S with th := fun j => if j = i then t else S.th j }
def St.setH (S : St α) (i : Nat) (b : Bool) : St α := { S with hd := fun j => if j = i then b else S.hd j }
def St.setS (S : St α) (i : Nat) (n : Int) : St α := { S with sq := fun j => if j = i then n else S.sq j }
theorem cells_setT (S : St α) (t : Th α) : ∀ i, i < 8 → ((((((((cellsOf enc S).setIfInBounds (i * 9 + 1) (.int .i64 t.u)).setIfInBounds (i * 9 + 1 + 1) (.int .i64 t.g)).setIfInBounds (i * 9 + 1 + 2) (.int .i64 t.cu)).setIfInBounds (i * 9 + 1 + 3) (.int .i64 t.cg)).setIfInBounds (i * 9 + 1 + 4) (.int .i64 t.m)).setIfInBounds (i * 9 + 1 + 5) (.int .i64 t.key)).setIfInBounds (i * 9 + 1 + 6) (enc t.v)) = cellsOf enc (S.setT i t) := lt8 (by kernel_rfl) (by kernel_rfl) (by kernel_rfl) (by kernel_rfl) (by kernel_rfl) (by kernel_rfl) (by kernel_rfl) (by kernel_rfl)
theorem cells_setH (S : St α) (b : Bool) : ∀ i, i < 8 → (cellsOf enc S).setIfInBounds (i * 9 + 8) (.bool b) = cellsOf enc (S.setH i b) := lt8 rfl rfl rfl rfl rfl rfl rfl rfl
theorem cells_setS (S : St α) (n : Int) : ∀ i, i < 8 → (cellsOf enc S).setIfInBounds (i * 9) (.int .i64 n) = cellsOf enc (S.setS i n) := lt8 rfl rfl rfl rfl rfl rfl rfl rfl
/-- Block b holds the slots S. -/
def Sl (T : TypeId) (w : World) (b : Nat) (S : St α) : Prop := Blk w b T (cellsOf enc S)
end
section
variable {α : Type}
def St.ok (S : St α) : Prop := ∀ i, i < 8 → 0 ≤ S.sq i ∧ S.sq i ≤ 4095
def idOf (S : St α) (i : Nat) : Int := 8 * S.sq i + i
end
def encI : Int → Value := fun n => .int .i64 n
def encS : ByteArray → Value := fun s => .string s
end Go.Proofs
