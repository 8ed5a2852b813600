/- Slots of which the first alone was ever used. -/
import Derived.Test.YthijminlalddcaaDoorHA
set_option linter.unusedVariables false
set_option linter.unusedSimpArgs false
namespace Go.Proofs
open Go.RowKit Go.Shelf

section
variable {α : Type}
def one (z : Th α) (s : Int) (t : Th α) (b : Bool) : St α := { sq := fun j => if j = 0 then s else 0, th := fun j => if j = 0 then t else z, hd := fun j => decide (j = 0) && b }
theorem st_ext {S S' : St α} (h1 : ∀ j, S.sq j = S'.sq j) (h2 : ∀ j, S.th j = S'.th j) (h3 : ∀ j, S.hd j = S'.hd j) : S = S' := by
  cases S; cases S'
  simp only [St.mk.injEq]
  exact ⟨funext h1, funext h2, funext h3⟩
variable (z : Th α) (s : Int) (t t' : Th α)
theorem one_free : (one z s t false).free = some 0 := free_some (by omega) (by simp [one]) (fun j hj => by omega)
theorem one_add : (one z s t false).addS t' = one z s t' true := by
  unfold St.addS
  rw [one_free]
  refine st_ext (fun j => rfl) (fun j => ?_) (fun j => ?_)
  · show (if j = 0 then t' else if j = 0 then t else z) = if j = 0 then t' else z
    split <;> rfl
  · show (if j = 0 then true else (decide (j = 0) && false)) = (decide (j = 0) && true)
    by_cases h : j = 0 <;> simp [h]
theorem one_addId : (one z s t false).addId = 8 * s := by unfold St.addId; rw [one_free]; simp [idOf, one]
theorem one_addE : (one z s t false).addE = 0 := by unfold St.addE; rw [one_free]
theorem one_place : (one z s t true).place (8 * s) = some 0 := place_some (by omega) (by simp [one]) (by simp [idOf, one])
theorem one_getT : (one z s t true).getT (8 * s) z = t := by unfold St.getT; rw [one_place]; simp [one]
theorem one_getE : (one z s t true).getE (8 * s) = 0 := by unfold St.getE; rw [one_place]
theorem one_setI : (one z s t true).setI (8 * s) t' = one z s t' true := by
  unfold St.setI
  rw [one_place]
  refine st_ext (fun j => rfl) (fun j => ?_) (fun j => rfl)
  show (if j = 0 then t' else if j = 0 then t else z) = if j = 0 then t' else z
  split <;> rfl
theorem one_rmI : (one z s t true).rmI (8 * s) z = one z ((s + 1) % 4096) z false := by
  unfold St.rmI
  rw [one_place]
  refine st_ext (fun j => ?_) (fun j => ?_) (fun j => ?_)
  · show (if j = 0 then ((if (0 : Nat) = 0 then s else 0) + 1) % 4096 else if j = 0 then s else 0) = if j = 0 then (s + 1) % 4096 else 0
    split <;> simp
  · show (if j = 0 then z else if j = 0 then t else z) = if j = 0 then z else z
    split <;> rfl
  · show (if j = 0 then false else (decide (j = 0) && true)) = (decide (j = 0) && false)
    by_cases h : j = 0 <;> simp [h]
theorem one_none (id : Int) : (one z s t false).place id = none := place_none (fun j hj h => by simp [one] at h)
theorem one_getE0 (id : Int) : (one z s t false).getE id = 100 := by unfold St.getE; rw [one_none]
theorem one_hl : hl (one z s t true) = [0] := rfl
theorem one_hl0 : hl (one z s t false) = [] := by simp [hl, one]
theorem one_nmd (key : Int) (hk : key ≠ 0) (ht : t.key = key) : nmd (one z s t true) key = some 0 := by
  unfold nmd
  rw [if_neg hk, one_hl]
  simp [one, ht]
theorem one_nmd0 (key : Int) : nmd (one z s t false) key = none := by
  unfold nmd
  rw [one_hl0]
  simp
theorem one_ids0 : (one z s t false).ids = [] := by rw [ids_hl, one_hl0]; rfl
theorem one_ids : (one z s t true).ids = [8 * s] := by rw [ids_hl, one_hl]; simp [idOf, one]
end
theorem zero_oneI : St.zeroI = one zthI 0 zthI false := st_ext (fun j => by show (0 : Int) = if j = 0 then 0 else 0; split <;> rfl) (fun j => by show zthI = if j = 0 then zthI else zthI; split <;> rfl) (fun j => by show false = (decide (j = 0) && false); simp)
theorem zero_oneS : St.zeroS = one zthS 0 zthS false := st_ext (fun j => by show (0 : Int) = if j = 0 then 0 else 0; split <;> rfl) (fun j => by show zthS = if j = 0 then zthS else zthS; split <;> rfl) (fun j => by show false = (decide (j = 0) && false); simp)
/-- A thing that is made. -/
theorem gt_made {α : Type} {S : St α} {cu cg key flags : Int} {v : α} (h1 : areB [cu, cg] = true) (h2 : 0 ≤ flags ∧ flags ≤ 2047) (h3 : nmd S key = none) (h4 : key = 0 ∨ crB flags = true) : gt S cu cg key flags v = ((S.addId, decide (S.addE = 0), S.addE), S.addS (mkT cu cg key flags v)) := by
  unfold gt
  rw [if_neg (by rw [h1]; simp), if_neg (by omega), h3]
  dsimp only
  rw [if_pos h4]
theorem gt_absent {α : Type} {S : St α} {cu cg key flags : Int} {v : α} (h1 : areB [cu, cg] = true) (h2 : 0 ≤ flags ∧ flags ≤ 2047) (h3 : nmd S key = none) (h4 : ¬ (key = 0 ∨ crB flags = true)) : gt S cu cg key flags v = ((0, false, 110), S) := by
  unfold gt
  rw [if_neg (by rw [h1]; simp), if_neg (by omega), h3]
  dsimp only
  rw [if_neg h4]
theorem gt_cred {α : Type} {S : St α} {cu cg key flags : Int} {v : α} (h1 : areB [cu, cg] = false) : gt S cu cg key flags v = ((0, false, 50), S) := by
  unfold gt
  rw [if_pos h1]
theorem gt_found {α : Type} {S : St α} {cu cg key flags : Int} {v : α} {i : Nat} (h1 : areB [cu, cg] = true) (h2 : 0 ≤ flags ∧ flags ≤ 2047) (h3 : nmd S key = some i) (h4 : ¬ (1024 ≤ flags ∧ crB flags = true)) : gt S cu cg key flags v = if mayB (S.th i) cu cg flags = true then ((idOf S i, false, 0), S) else ((0, false, 51), S) := by
  unfold gt
  rw [if_neg (by rw [h1]; simp), if_neg (by omega), h3]
  dsimp only
  rw [if_neg h4]
theorem areB2 {u g : Int} (h0 : 0 ≤ u) (h1 : u ≤ 65535) (h2 : 0 ≤ g) (h3 : g ≤ 65535) : areB [u, g] = true := by simp [areB, okN_true h0 h1, okN_true h2 h3]
theorem permB5 {u g cu cg m : Int} (h0 : 0 ≤ u ∧ u ≤ 65535) (h1 : 0 ≤ g ∧ g ≤ 65535) (h2 : 0 ≤ cu ∧ cu ≤ 65535) (h3 : 0 ≤ cg ∧ cg ≤ 65535) (h4 : 0 ≤ m ∧ m ≤ 511) : permB u g cu cg m = true := by
  unfold permB
  simp [areB, okN_true h0.1 h0.2, okN_true h1.1 h1.2, okN_true h2.1 h2.2, okN_true h3.1 h3.2, h4.1, h4.2]
theorem areB_in {u g : Int} (h : areB [u, g] = true) : (0 ≤ u ∧ u ≤ 65535) ∧ (0 ≤ g ∧ g ≤ 65535) := by
  simp [areB, okN] at h
  omega
theorem crB_made (mode : Int) (h0 : 0 ≤ mode) (h1 : mode ≤ 511) : crB (512 + mode) = true := by unfold crB; exact decide_eq_true (by omega)
theorem crB_not (mode : Int) (h0 : 0 ≤ mode) (h1 : mode ≤ 511) : crB mode = false := by unfold crB; exact decide_eq_false (by omega)
theorem mod_made (mode : Int) (h0 : 0 ≤ mode) (h1 : mode ≤ 511) : (512 + mode) % 512 = mode := by omega
end Go.Proofs
