/- Words shared by this seat's texts: blocks, worlds that have grown, a range over a function in a plain form. -/
import Derived.RangeFuncNested
import Derived.RangeFuncBound
import Derived.RangeFuncCalls
import Derived.RangeFuncLeaves
import Derived.Shelf.Abstract
import Derived.Shelf.RegionOpen
import Derived.WalkKit
import Derived.WalkLawsBesides
import Derived.WalkSpells
import Derived.OwnWalkIn
import Derived.TacticsInMore
import Derived.LoopNIn
import Derived.LoopIn
import Derived.Outline
import Derived.Below
import Derived.Lib.Hide
import Derived.Scope
import Derived.Laws.BitsAllLaws
import Derived.Laws.BitsLemmas
import Derived.WalkMore
import Derived.Test.YthijminlalddcaaGreatDoorProg
set_option linter.unusedVariables false
set_option linter.unusedSimpArgs false
namespace Go.Proofs
open Go.RowKit Go.Shelf

/-! ### Bits of small numbers -/
theorem ofInt_i64 (a : Nat) (ha : a < 9223372036854775808) : (BitVec.ofInt 64 (a : Int)).toNat = a := by
  rw [BitVec.ofInt_natCast, BitVec.toNat_ofNat]; exact Nat.mod_eq_of_lt (by omega)
theorem i64_and_nat (a b : Nat) (ha : a < 9223372036854775808) (hb : b < 9223372036854775808) : bits .and .i64 (a : Int) (b : Int) = ((a &&& b : Nat) : Int) := by
  have hx : a &&& b < 2 ^ 63 := Nat.and_lt_two_pow _ (by omega)
  show IntKind.i64.wrap ((BitVec.ofInt 64 (a : Int) &&& BitVec.ofInt 64 (b : Int)).toNat : Int) = _
  rw [BitVec.toNat_and, ofInt_i64 a ha, ofInt_i64 b hb, IntKind.wrap_i64]
  omega
theorem i64_or_nat (a b : Nat) (ha : a < 9223372036854775808) (hb : b < 9223372036854775808) : bits .or .i64 (a : Int) (b : Int) = ((a ||| b : Nat) : Int) := by
  have hx : a ||| b < 2 ^ 63 := Nat.or_lt_two_pow (by omega) (by omega)
  show IntKind.i64.wrap ((BitVec.ofInt 64 (a : Int) ||| BitVec.ofInt 64 (b : Int)).toNat : Int) = _
  rw [BitVec.toNat_or, ofInt_i64 a ha, ofInt_i64 b hb, IntKind.wrap_i64]
  omega
theorem bits_and7 (x : Int) (h0 : 0 ≤ x) (h1 : x ≤ 1000000) : bits .and .i64 x 7 = x % 8 := by
  obtain ⟨n, rfl⟩ := Int.eq_ofNat_of_zero_le h0
  have := i64_and_nat n 7 (by omega) (by omega)
  rw [show ((7 : Nat) : Int) = 7 from rfl] at this
  rw [this, show n &&& 7 = n % 8 from Nat.and_two_pow_sub_one_eq_mod n 3]
  omega

/-! ### A scope, inside a fence -/
section
variable {F : Fence} {n : Nat} {P : Program} {Q : Exit → Act → World → Prop} {a : Act} {w : World}
theorem stepR_scope {b : Frame} {k : List Item} {cs : List Frame} {c : Code} : step P (lone (b.atR a (.code (.scope c) :: k)) cs w) = .next (lone (b.atR a (.code c :: .inScope c :: k)) cs w) :=
  step_lone_go (by simp [stepG, stepG.exec, Frame.atR])
theorem stepR_inScope {b : Frame} {k : List Item} {cs : List Frame} {c : Code} : step P (lone (b.atR a (.inScope c :: k)) cs w) = .next (lone (b.atR a k) cs w) :=
  step_lone_go (by simp [stepG, stepG.exec, Frame.atR])
theorem wpIn_scope {c : Code} (h : c.wpIn F n P (Exit.noGoto Q) a w) : (Code.scope c).wpIn F n P Q a w := by
  intro b k cs hro hb hr
  have h0 : (lone (b.atR a (.code (.scope c) :: k)) cs w).fenced P F := fenced_calm hb hr rfl
  obtain ⟨e, a₁, w₁, hq, harr⟩ := h b (.inScope c :: k) cs hro hb hr
  cases e with
  | normal => exact ⟨.normal, a₁, w₁, hq, .head h0 stepR_scope (StepsIn.trans harr (.one (fenced_calm hb hr rfl) stepR_inScope))⟩
  | exit id =>
    have hx : exitTo id (.inScope c :: k) = exitTo id k := by simp [exitTo]
    exact ⟨.exit id, a₁, w₁, hq, fun k' hk => .head h0 stepR_scope (harr.1 k' (by rw [hx]; exact hk)),
      fun hr' hk => let ⟨k₁, h1, h2⟩ := harr.2 hr' (by rw [hx]; exact hk); ⟨k₁, h1, .head h0 stepR_scope h2⟩⟩
  | goto l => exact hq.elim
  | ret => exact ⟨_, a₁, w₁, hq, .of_steps (.one h0 stepR_scope) harr⟩
  | panic ch => exact ⟨_, a₁, w₁, hq, .of_steps (.one h0 stepR_scope) harr⟩
  | outgrown => exact ⟨_, a₁, w₁, hq, .of_steps (.one h0 stepR_scope) harr⟩
/-- 'label' at the head of a sequence. -/
theorem wpIn_label_seq {l : Nat} {c : Code} (h : c.wpIn F n P Q a w) : ((Code.label l).seq c).wpIn F n P Q a w := wpIn_seq (wpIn_label h)
end

/-! ### Blocks -/
def Blk (w : World) (g : Nat) (t : TypeId) (cs : Array Value) : Prop := w.heap[g]? = some (.cells cs t (0, 0))

section
variable {w w' : World} {g : Nat} {t : TypeId} {cs : Array Value}
theorem Blk.lt (h : Blk w g t cs) : g < w.heap.size := (Array.getElem?_eq_some_iff.1 h).1
theorem Blk.cell (h : Blk w g t cs) (i : Nat) : w.cell? ⟨g, i, none⟩ = cs[i]? := by
  unfold Blk at h; simp [World.cell?, h]
theorem Blk.frozen (h : Blk w g t cs) (i : Nat) : w.frozen? ⟨g, i, none⟩ = false := by
  unfold Blk at h; simp [World.frozen?, h]
theorem heap_at (W : World) (o : Obj) (b : Nat) (h : W.heap.size = b) : (W.alloc o).heap[b]? = some o := by
  subst h
  show (W.heap.push o)[W.heap.size]? = some o
  simp
theorem Blk.new (W : World) (t : TypeId) (cs : Array Value) (b : Nat) (h : W.heap.size = b) : Blk (W.alloc (.cells cs t)) b t cs := heap_at W _ b h
theorem Blk.alloc (h : Blk w g t cs) (o : Obj) : Blk (w.alloc o) g t cs := (Below.heap_alloc w o g h.lt).trans h
theorem Blk.drew (h : Blk w g t cs) : Blk w.drew g t cs := h
theorem Blk.set_ (h : Blk w g t cs) (i : Nat) (u : Value) : Blk (w.setCell ⟨g, i, none⟩ u) g t (cs.setIfInBounds i u) := by
  unfold Blk at h ⊢
  simp [World.setCell, Array.getElem?_modify, h]
theorem Blk.far (h : Blk w g t cs) {p : Addr} (hp : g ≠ p.block) (u : Value) : Blk (w.setCell p u) g t cs := (Below.heap_setCell w p u g hp).trans h
theorem Blk.below {B : Nat} (h : Blk w g t cs) (hb : Below B w w') (hg : g < B) : Blk w' g t cs := (hb.block g hg).trans h
theorem Blk.grown {row : Option Nat} (h : Blk w g t cs) (hb : w.grownBy w' row) (hg : some g ≠ row) : Blk w' g t cs := (hb.block g h.lt hg).trans h
theorem Blk.put (h : Blk w g t cs) {l : Nat} {o : Obj} (o' : Obj) (hl : w.heap[l]? = some o) (ho : o.isCells = false) : Blk (w.putObj l o') g t cs :=
  h.grown (grownBy_putObj' w l o') (fun e => by cases e; rw [show w.heap[g]? = _ from h] at hl; cases hl; cases ho)
end

/-! ### A world that has grown: blocks named in a list may have turned; all others that lay lie as they lay -/
def Gr (w w' : World) (X : Nat → Prop) : Prop :=
  w'.os = w.os ∧ w'.tape = w.tape ∧ w'.output = w.output ∧ w.heap.size ≤ w'.heap.size ∧ ∀ k, k < w.heap.size → ¬ X k → w'.heap[k]? = w.heap[k]?

section
variable {a b c w w' : World} {X Y : Nat → Prop}
theorem Gr.refl (w : World) (X : Nat → Prop) : Gr w w X := ⟨rfl, rfl, rfl, Nat.le_refl _, fun _ _ _ => rfl⟩
theorem Gr.trans (h : Gr a b X) (k : Gr b c Y) (hY : ∀ j, j < a.heap.size → Y j → X j) : Gr a c X :=
  ⟨k.1.trans h.1, k.2.1.trans h.2.1, k.2.2.1.trans h.2.2.1, Nat.le_trans h.2.2.2.1 k.2.2.2.1,
   fun i hi hx => (k.2.2.2.2 i (Nat.lt_of_lt_of_le hi h.2.2.2.1) (fun hy => hx (hY i hi hy))).trans (h.2.2.2.2 i hi hx)⟩
theorem Gr.size (h : Gr w w' X) : w.heap.size ≤ w'.heap.size := h.2.2.2.1
theorem Gr.mono (h : Gr w w' X) (hXY : ∀ j, j < w.heap.size → X j → Y j) : Gr w w' Y :=
  ⟨h.1, h.2.1, h.2.2.1, h.2.2.2.1, fun i hi hy => h.2.2.2.2 i hi (fun hx => hy (hXY i hi hx))⟩
theorem Gr.alloc (h : Gr a w X) (o : Obj) : Gr a (w.alloc o) X :=
  ⟨h.1, h.2.1, h.2.2.1, Nat.le_trans h.size (by simp), fun i hi hx => (Below.heap_alloc w o i (Nat.lt_of_lt_of_le hi h.size)).trans (h.2.2.2.2 i hi hx)⟩
theorem Gr.drew (h : Gr a w X) : Gr a w.drew X := h
theorem Gr.drewN (h : Gr a w X) (n : Nat) : Gr a (w.drewN n) X := h
theorem Gr.setCell (h : Gr a w X) {p : Addr} (hp : X p.block ∨ a.heap.size ≤ p.block) (u : Value) : Gr a (w.setCell p u) X :=
  ⟨h.1, h.2.1, h.2.2.1, by simpa [World.setCell] using h.size, fun i hi hx => (Below.heap_setCell w p u i (fun e => by subst e; rcases hp with hp | hp; exact hx hp; omega)).trans (h.2.2.2.2 i hi hx)⟩
theorem Gr.set1 {B : Nat} (h : Gr a w (fun k => k = B)) (i : Nat) (u : Value) : Gr a (w.setCell ⟨B, i, none⟩ u) (fun k => k = B) := h.setCell (p := ⟨B, i, none⟩) (X := fun k => k = B) (.inl rfl) u
theorem Gr.no {B : Nat} (h : Gr a w (fun _ => False)) : Gr a w (fun k => k = B) := h.mono (fun _ _ f => f.elim)
theorem Gr.put (h : Gr a w X) {l : Nat} (o : Obj) (hl : a.heap.size ≤ l) : Gr a (w.putObj l o) X :=
  ⟨h.1, h.2.1, h.2.2.1, by simpa using h.size, fun i hi hx => (World.putObj_heap_other (by omega)).trans (h.2.2.2.2 i hi hx)⟩
theorem Gr.of_below (h : Below w.heap.size w w') (X : Nat → Prop) : Gr w w' X := ⟨h.os, h.tape, h.output, h.size, fun i hi _ => h.block i hi⟩
theorem Gr.below (h : Gr w w' (fun _ => False)) : Below w.heap.size w w' := ⟨h.1, h.2.1, h.2.2.1, h.2.2.2.1, fun i hi => h.2.2.2.2 i hi (fun f => f)⟩
theorem Gr.of_grownBy {row : Option Nat} (h : w.grownBy w' row) (hX : ∀ k, row = some k → X k ∨ w.heap.size ≤ k) : Gr w w' X :=
  ⟨h.os, h.tape, h.output, h.size, fun i hi hx => h.block i hi (fun e => by rcases hX i e.symm with h | h; exact hx h; omega)⟩
theorem Gr.blk {g : Nat} {t : TypeId} {cs : Array Value} (h : Gr w w' X) (hb : Blk w g t cs) (hx : ¬ X g) : Blk w' g t cs := (h.2.2.2.2 g hb.lt hx).trans hb
theorem Gr.cell (h : Gr w w' X) {p : Addr} (hp : p.block < w.heap.size) (hx : ¬ X p.block) : w'.cell? p = w.cell? p := World.cell?_of_block (w := w) (h.2.2.2.2 p.block hp hx)
theorem Gr.frozen (h : Gr w w' X) {p : Addr} (hp : p.block < w.heap.size) (hx : ¬ X p.block) : w'.frozen? p = w.frozen? p := World.frozen?_of_block (w := w) (h.2.2.2.2 p.block hp hx)
theorem Gr.next (h1 : Gr a b (fun _ => False)) (h2 : Gr b c (fun _ => False)) : Gr a c (fun _ => False) := h1.trans h2 (fun _ _ f => f)
theorem Gr.cells (h : Gr w w' (fun _ => False)) : (∀ b o, b < w.heap.size → w'.cell? ⟨b, o, none⟩ = w.cell? ⟨b, o, none⟩) ∧ (∀ b o, b < w.heap.size → w'.frozen? ⟨b, o, none⟩ = w.frozen? ⟨b, o, none⟩) :=
  ⟨fun b o hb => h.cell (p := ⟨b, o, none⟩) hb (fun f => f), fun b o hb => h.frozen (p := ⟨b, o, none⟩) hb (fun f => f)⟩
theorem Gr.a1 (w : World) (x : Obj) : Gr w (w.alloc x) (fun _ => False) := (Gr.refl _ _).alloc _
theorem Gr.a2 (w : World) (x y : Obj) : Gr w ((w.alloc x).alloc y) (fun _ => False) := (Gr.a1 _ _).alloc _
theorem Gr.a3 (w : World) (x y z : Obj) : Gr w (((w.alloc x).alloc y).alloc z) (fun _ => False) := (Gr.a2 _ _ _).alloc _
theorem Gr.a4 (w : World) (x y z v : Obj) : Gr w ((((w.alloc x).alloc y).alloc z).alloc v) (fun _ => False) := (Gr.a3 _ _ _ _).alloc _
end
theorem gr_below {B : Nat} {w w' : World} {X : Nat → Prop} (h : Gr w w' X) (hX : ∀ k, k < B → k < w.heap.size → ¬ X k) (hB : B ≤ w.heap.size) : Below B w w' :=
  ⟨h.1, h.2.1, h.2.2.1, h.2.2.2.1, fun i hi => h.2.2.2.2 i (by omega) (hX i hi (by omega))⟩

/-- What turned was new. -/
theorem gr_of_new {w w' : World} {o : Obj} {B : Nat} (h : Gr (w.alloc o) w' (fun k => k = B)) (hB : B = w.heap.size := by rfl) : Gr w w' (fun _ => False) :=
  (((Gr.refl w (fun _ => False)).alloc o).trans (Y := fun k => k = B) h (fun j hj e => by omega))
/-- NOTHING OF WHAT LAY HAS TURNED. -/
abbrev Same (w w' : World) : Prop := Gr w w' (fun _ => False)

/-! ### What a round of a loop over an iterator keeps: each block of cells but those of X -/
def KeptX (X : Nat → Prop) (w w' : World) : Prop :=
  w.heap.size ≤ w'.heap.size ∧ ∀ k cs t f, w.heap[k]? = some (.cells cs t f) → ¬ X k → w'.heap[k]? = some (.cells cs t f)

section
variable {a b c w w' : World} {X Y : Nat → Prop}
theorem KeptX.refl (X : Nat → Prop) (w : World) : KeptX X w w := ⟨Nat.le_refl _, fun _ _ _ _ h _ => h⟩
theorem KeptX.trans (h : KeptX X a b) (k : KeptX X b c) : KeptX X a c := ⟨Nat.le_trans h.1 k.1, fun i cs t f hi hx => k.2 i cs t f (h.2 i cs t f hi hx) hx⟩
theorem KeptX.put (W : World) (l : Nat) (o o' : Obj) (h : W.heap[l]? = some o) (ho : o.isCells = false) : KeptX X W (W.putObj l o') :=
  ⟨by simp, fun i cs t f hi _ => (World.putObj_heap_other (fun e => by subst e; rw [h] at hi; cases hi; cases ho)).trans hi⟩
theorem KeptX.of_gr (h : Gr w w' X) : KeptX X w w' := ⟨h.size, fun i cs t f hi hx => (h.2.2.2.2 i (Array.getElem?_eq_some_iff.1 hi).1 hx).trans hi⟩
theorem KeptX.blk {g : Nat} {t : TypeId} {cs : Array Value} (h : KeptX X w w') (hb : Blk w g t cs) (hx : ¬ X g) : Blk w' g t cs := h.2 g cs t _ hb hx
end

/-- Of whatever grew: what is no cells lies as it lay, where X names blocks of cells alone. -/
theorem keepsFrom_of_gr {B : Nat} {w w' : World} {X : Nat → Prop} (h : Gr w w' X) (hX : ∀ k o, X k → w.heap[k]? = some o → B ≤ k → o.isCells = true) : KeepsFrom B w w' :=
  ⟨h.size, fun k o hB hk ho => (h.2.2.2.2 k (Array.getElem?_eq_some_iff.1 hk).1 (fun hx => by rw [hX k o hx hk hB] at ho; cases ho)).trans hk⟩

theorem keepsFrom_of_gr' {B : Nat} {w w' : World} {X : Nat → Prop} (h : Gr w w' X) (hX : ∀ k, X k → k < B) : KeepsFrom B w w' :=
  keepsFrom_of_gr h (fun k _ hx _ hB => by have := hX k hx; omega)

/-! ### Stability of a loop's relation -/
section
variable {β : Type} {B : Nat}
theorem ownFrom_blk (g : β → Nat) (t : TypeId) (cs : β → Array Value) : OwnFrom B (fun s W => Blk W (g s) t (cs s)) := fun s W W' row hs hg hr =>
  hs.grown hg (fun e => by obtain ⟨_, o, ho, hc⟩ := hr _ e.symm; rw [show W.heap[g s]? = _ from hs] at ho; cases ho; cases hc)
theorem ownFrom_gr {w : World} (X : β → Nat → Prop) (hB : w.heap.size ≤ B) : OwnFrom B (fun s W => Gr w W (X s)) := fun _ _ _ _ hs hg hr =>
  ⟨hg.os.trans hs.1, hg.tape.trans hs.2.1, hg.output.trans hs.2.2.1, Nat.le_trans hs.size hg.size, fun k hk hx =>
    (hg.block k (Nat.lt_of_lt_of_le hk hs.size) (fun e => by have := (hr k e.symm).1; omega)).trans (hs.2.2.2.2 k hk hx)⟩
theorem ownFrom_ex {γ : Type} {I : γ → β → World → Prop} (h : ∀ c, OwnFrom B (I c)) : OwnFrom B (fun s W => ∃ c, I c s W) := fun s W W' row ⟨c, hs⟩ hg hr => ⟨c, h c s W W' row hs hg hr⟩
theorem ownFrom_no : OwnFrom B (fun (_ : β) (_ : World) => False) := fun _ _ _ _ hs _ _ => hs
theorem ownFrom_case {I : Code → β → World → Prop} (h : ∀ c, OwnFrom B (I c)) (c : Code) : OwnFrom B (I c) := h c
end
/-- 'out = append(out, ..)', out in a box of one cell that lies below the row's base. -/
theorem appended2 {W w1 : World} {n₀ B : Nat} {t e : TypeId} {size : Nat} {v v' : Value} {k m : Nat} {xs ys : List Value} {tmp : Obj}
    (hv : Blk W B t #[v]) (hrow : W.ownsRow n₀ e size v k xs) (hn₀ : n₀ ≤ W.heap.size) (hB : B < n₀)
    (hown' : w1.ownsRow n₀ e size v' m ys) (hgrow : (W.alloc tmp).grownBy w1 v.ownBlock) :
    Blk w1 B t #[v] ∧ Blk (w1.setCell ⟨B, 0, none⟩ v') B t #[v'] ∧ (w1.setCell ⟨B, 0, none⟩ v').ownsRow n₀ e size v' m ys ∧ Gr W (w1.setCell ⟨B, 0, none⟩ v') (fun k => k = B ∨ n₀ ≤ k) ∧ KeepsOthers W (w1.setCell ⟨B, 0, none⟩ v') := by
  have hblk : ∀ j, v.ownBlock = some j → n₀ ≤ j ∧ ∀ o, (W.alloc tmp).heap[j]? = some o → o.isCells = true := by
    intro j ej
    rcases (hrow.alloc tmp).2 with ⟨rfl, _⟩ | ⟨g, cap, cur, rfl, hb, hgb, _⟩
    · simp [Value.ownBlock] at ej
    · obtain rfl : g = j := by simpa [Value.ownBlock] using ej
      exact ⟨hb, fun o ho => by rw [hgb] at ho; cases ho; rfl⟩
  have hv1 : Blk w1 B t #[v] := (hv.alloc tmp).grown hgrow (fun e => by have := (hblk B e.symm).1; omega)
  have hG1 : Gr W w1 (fun k => k = B ∨ n₀ ≤ k) := ((Gr.refl W (fun k => k = B ∨ n₀ ≤ k)).alloc tmp).trans (Gr.of_grownBy (X := fun k => k = B ∨ n₀ ≤ k) hgrow (fun j ej => .inl (.inr (hblk j ej).1))) (fun _ _ h => h)
  refine ⟨hv1, by simpa using hv1.set_ 0 v', ownsRow_setCell_below hown' (a := ⟨B, 0, none⟩) hB v', hG1.setCell (p := ⟨B, 0, none⟩) (X := fun k => k = B ∨ n₀ ≤ k) (.inl (.inl rfl)) v', ?_⟩
  exact ((KeepsOthers.alloc W tmp).trans (KeepsOthers.of_grownBy hgrow fun j o ej hj => (hblk j ej).2 o hj)).trans (KeepsOthers.setCell _ _ _)
theorem ownFrom_row {β : Type} {B n₀ : Nat} (e : TypeId) (size : Nat) (v : Value) (k : β → Nat) (xs : β → List Value) : OwnFrom B (fun s W => W.ownsRow n₀ e size v (k s) (xs s)) := fun s W W' row hs hg hr => by
  refine hs.kept hg ?_
  rcases hs.2 with ⟨rfl, _⟩ | ⟨g, cap, cur, rfl, _, hgb, _⟩
  · exact .inl rfl
  · refine .inr fun e' => ?_
    obtain ⟨_, o, ho, hc⟩ := hr g (by simpa [Value.ownBlock] using e'.symm)
    rw [hgb] at ho; cases ho; cases hc
theorem keptX_t {X : Nat → Prop} {A B C : World} (h : KeptX X A B) (k : KeptX X B C) : KeptX X A C := h.trans k
theorem keptX_b {X : Nat → Prop} {w : World} (W : World) (l : Nat) (o o' : Obj) (_ : w.heap.size ≤ l) (h : W.heap[l]? = some o) (ho : o.isCells = false) (_ : o.isWalk = false) : KeptX X W (W.putObj l o') := KeptX.put W l o o' h ho
end Go.Proofs
