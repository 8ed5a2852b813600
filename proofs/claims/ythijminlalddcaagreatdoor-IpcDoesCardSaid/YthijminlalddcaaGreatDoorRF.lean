/- The reference's Names: how its lists grow; the place of a number. -/
import Derived.Test.YthijminlalddcaaGreatDoorRD
set_option linter.unusedVariables false
set_option linter.unusedSimpArgs false
namespace Go.Proofs
open Go.RowKit Go.Shelf
attribute [local go_sem] Oper.semAt_some

theorem own_lt {w : World} {base : Nat} {e : TypeId} {size n : Nat} {v : Value} {xs : List Value} (h : w.ownsRow base e size v n xs) {j : Nat} (ej : v.ownBlock = some j) : j < w.heap.size := by
  rcases h.2 with ⟨rfl, _⟩ | ⟨g, cap, cur, rfl, hb, hg, _⟩
  · simp [Value.ownBlock] at ej
  · obtain rfl : g = j := by simpa [Value.ownBlock] using ej
    exact (Array.getElem?_eq_some_iff.1 hg).1
/-- The reference's Names while its lists grow: lengths apart. -/
structure RX (w : World) (r : Nat) (S : St Int) (V : Nat → Int) (K : List Int) (P : List (Th Int)) (U : List Int) (kv pv uv : Value) : Prop where
  rf : Rf w r S V kv pv uv
  rk : w.ownsRow (r + 1) 3 1 kv K.length (Ints K)
  rp : w.ownsRow (r + 1) 39 5 pv P.length (PermsL P)
  ru : w.ownsRow (r + 1) 3 1 uv U.length (Ints U)
  ku : kv.ownBlock = none ∨ kv.ownBlock ≠ uv.ownBlock
section
variable {w wK : World} {r : Nat} {S : St Int} {V : Nat → Int} {K : List Int} {P : List (Th Int)} {U : List Int} {kv pv uv v' : Value} {o : Obj}
theorem RX.lt (h : RX w r S V K P U kv pv uv) : r < w.heap.size := Blk.lt h.rf
theorem RX.same (h : RX w r S V K P U kv pv uv) (hG : Same w wK) : RX wK r S V K P U kv pv uv :=
  ⟨hG.blk h.rf (fun f => f), own_gr h.rk hG (fun _ f => f.elim), own_gr h.rp hG (fun _ f => f.elim), own_gr h.ru hG (fun _ f => f.elim), h.ku⟩
theorem RX.grown {e : TypeId} {size n : Nat} {xs : List Value} {v : Value} (h : RX w r S V K P U kv pv uv) (hv : w.ownsRow (r + 1) e size v n xs) (hgrow : (w.alloc o).grownBy wK v.ownBlock) (i : Nat) (u : Value) :
    Blk wK r 34 (refCells S V kv pv uv) ∧ Gr w (wK.setCell ⟨r, i, none⟩ u) (fun k => r ≤ k) := by
  refine ⟨(Blk.alloc h.rf o).grown hgrow (fun e => by have := own_ge hv e.symm; omega), ?_⟩
  exact (((Gr.refl w (fun k => r ≤ k)).alloc o).trans (Gr.of_grownBy (X := fun k => r ≤ k) hgrow (fun j ej => .inl (by have := own_ge hv ej; omega))) (fun _ _ h => h)).setCell (p := ⟨r, i, none⟩) (X := fun k => r ≤ k) (.inl (Nat.le_refl r)) u
theorem or_symm {a b : Option Nat} (h : a = none ∨ a ≠ b) : b = none ∨ b ≠ a := by
  rcases h with rfl | h
  · cases b with
    | none => exact .inl rfl
    | some x => exact .inr (by simp)
  · exact .inr (fun e => h e.symm)
theorem RX.addK {key : Int} (h : RX w r S V K P U kv pv uv) (hown' : wK.ownsRow (r + 1) 3 1 v' (K.length + 1) (Ints K ++ [.int .i64 key])) (hgrow : (w.alloc o).grownBy wK kv.ownBlock) (hblk : v'.ownBlock = kv.ownBlock ∨ v'.ownBlock = some (w.alloc o).heap.size) :
    RX (wK.setCell ⟨r, 24, none⟩ v') r S V (K ++ [key]) P U v' pv uv := by
  obtain ⟨hb, hG⟩ := h.grown (o := o) h.rk hgrow 24 v'
  refine ⟨?_, ?_, ?_, ?_, ?_⟩
  · have := hb.set_ 24 v'
    rw [rc_setK] at this
    exact this
  · have := ownsRow_setCell_below hown' (a := ⟨r, 24, none⟩) (by show r < r + 1; omega) v'
    simpa [Ints] using this
  · exact ownsRow_setCell_below ((h.rp.alloc o).kept hgrow (own_ne h.rp h.rk (by decide))) (a := ⟨r, 24, none⟩) (by show r < r + 1; omega) v'
  · exact ownsRow_setCell_below ((h.ru.alloc o).kept hgrow (or_symm h.ku)) (a := ⟨r, 24, none⟩) (by show r < r + 1; omega) v'
  · rcases hblk with e | e
    · rw [e]; exact h.ku
    · refine .inr fun e2 => ?_
      have := own_lt h.ru (e2.symm.trans e)
      simp at this
      omega
theorem RX.addP {p : Th Int} (h : RX w r S V K P U kv pv uv) (hown' : wK.ownsRow (r + 1) 39 5 v' (P.length + 1) (PermsL P ++ permCells p)) (hgrow : (w.alloc o).grownBy wK pv.ownBlock) :
    RX (wK.setCell ⟨r, 25, none⟩ v') r S V K (P ++ [p]) U kv v' uv := by
  obtain ⟨hb, hG⟩ := h.grown (o := o) h.rp hgrow 25 v'
  refine ⟨?_, ?_, ?_, ?_, h.ku⟩
  · have := hb.set_ 25 v'
    rw [rc_setP] at this
    exact this
  · exact ownsRow_setCell_below ((h.rk.alloc o).kept hgrow (own_ne h.rk h.rp (by decide))) (a := ⟨r, 25, none⟩) (by show r < r + 1; omega) v'
  · have := ownsRow_setCell_below hown' (a := ⟨r, 25, none⟩) (by show r < r + 1; omega) v'
    rw [permsL_snoc, List.length_append]
    exact this
  · exact ownsRow_setCell_below ((h.ru.alloc o).kept hgrow (own_ne h.ru h.rp (by decide))) (a := ⟨r, 25, none⟩) (by show r < r + 1; omega) v'
theorem RX.addU {x : Int} (h : RX w r S V K P U kv pv uv) (hown' : wK.ownsRow (r + 1) 3 1 v' (U.length + 1) (Ints U ++ [.int .i64 x])) (hgrow : (w.alloc o).grownBy wK uv.ownBlock) (hblk : v'.ownBlock = uv.ownBlock ∨ v'.ownBlock = some (w.alloc o).heap.size) :
    RX (wK.setCell ⟨r, 26, none⟩ v') r S V K P (U ++ [x]) kv pv v' := by
  obtain ⟨hb, hG⟩ := h.grown (o := o) h.ru hgrow 26 v'
  refine ⟨?_, ?_, ?_, ?_, ?_⟩
  · have := hb.set_ 26 v'
    rw [rc_setU] at this
    exact this
  · exact ownsRow_setCell_below ((h.rk.alloc o).kept hgrow h.ku) (a := ⟨r, 26, none⟩) (by show r < r + 1; omega) v'
  · exact ownsRow_setCell_below ((h.rp.alloc o).kept hgrow (own_ne h.rp h.ru (by decide))) (a := ⟨r, 26, none⟩) (by show r < r + 1; omega) v'
  · have := ownsRow_setCell_below hown' (a := ⟨r, 26, none⟩) (by show r < r + 1; omega) v'
    simpa [Ints] using this
  · rcases hblk with e | e
    · rw [e]; exact h.ku
    · rcases hk : kv.ownBlock with _ | j
      · exact .inl rfl
      · refine .inr fun e2 => ?_
        have := own_lt h.rk (hk.trans (e2.trans e))
        simp at this
        omega
end
/-- The place of the number that stands at k. -/
theorem hl_at {S : St Int} {k : Nat} (hk : k < S.ids.length) : ∃ x, (hl S).take (k + 1) = (hl S).take k ++ [x] ∧ S.ids[k]?.getD 0 = idOf S x ∧ S.place (idOf S x) = some x := by
  have e : S.ids = (hl S).map (idOf S) := rfl
  have hk' : k < (hl S).length := by rw [e, List.length_map] at hk; exact hk
  refine ⟨(hl S)[k], List.take_succ_eq_append_getElem hk', ?_, ?_⟩
  · rw [e, List.getElem?_map, List.getElem?_eq_getElem hk']; rfl
  · have hm : (hl S)[k] ∈ hl S := List.getElem_mem hk'
    have hm2 : (hl S)[k] ∈ (List.range 8).filter fun i => S.hd i := hm
    rw [List.mem_filter, List.mem_range] at hm2
    exact place_some hm2.1 hm2.2 rfl
theorem ask_mode (f : Nat) (hf : f < 2048) : bits .or .i64 (bits .or .i64 ((f : Int) % 8) ((f : Int) / 8 % 8)) ((f : Int) / 64 % 8) = ((askN (((f : Int) % 512).toNat) : Nat) : Int) := by
  have h1 : bits .or .i64 ((f : Int) % 8) ((f : Int) / 8 % 8) = ((f % 8 ||| f / 8 % 8 : Nat) : Int) := by
    have := i64_or_nat (f % 8) (f / 8 % 8) (by omega) (by omega)
    rw [show ((f % 8 : Nat) : Int) = (f : Int) % 8 by omega, show ((f / 8 % 8 : Nat) : Int) = (f : Int) / 8 % 8 by omega] at this
    exact this
  have hx : f % 8 ||| f / 8 % 8 < 2 ^ 3 := Nat.or_lt_two_pow (by omega) (by omega)
  have h2 : bits .or .i64 ((f % 8 ||| f / 8 % 8 : Nat) : Int) ((f : Int) / 64 % 8) = ((f % 8 ||| f / 8 % 8 ||| f / 64 % 8 : Nat) : Int) := by
    have := i64_or_nat (f % 8 ||| f / 8 % 8) (f / 64 % 8) (by omega) (by omega)
    rw [show ((f / 64 % 8 : Nat) : Int) = (f : Int) / 64 % 8 by omega] at this
    exact this
  rw [h1, h2]
  congr 1
  have e : ((f : Int) % 512).toNat = f % 512 := by omega
  rw [e]
  unfold askN
  rw [show (8 : Nat) = 2 ^ 3 from rfl, Nat.or_mod_two_pow, Nat.or_mod_two_pow]
  congr 1
  · congr 1
    · omega
    · omega
  · omega
end Go.Proofs
