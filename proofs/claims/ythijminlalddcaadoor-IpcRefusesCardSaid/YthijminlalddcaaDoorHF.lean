/- The plain law of IpcKeys. -/
import Derived.Test.YthijminlalddcaaDoorHC
import Derived.Test.YthijminlalddcaaDoorHN
set_option linter.unusedVariables false
set_option linter.unusedSimpArgs false
namespace Go.Proofs
open Go.RowKit Go.Shelf

/-! ### The plain law of IpcKeys -/
theorem crB512 : crB 512 = true := by decide
theorem crB1536 : crB 1536 = true := by decide
theorem may512 {α : Type} (t : Th α) (u g : Int) : mayB t u g 512 = true := by
  have h : askN ((512 : Int) % 512).toNat = 0 := by decide
  unfold mayB
  rw [h]
  have h2 : bits .and .i64 (bitsOf u g t.u t.g t.cu t.cg t.m) ((0 : Nat) : Int) = 0 := by
    show IntKind.i64.wrap ((BitVec.ofInt 64 _ &&& BitVec.ofInt 64 0).toNat : Int) = 0
    simp
    decide
  rw [h2]
  rfl
theorem addE_cases {α : Type} (S : St α) : S.addE = 0 ∨ S.addE = 101 := by unfold St.addE; split <;> simp
theorem free_of_addE {α : Type} {S : St α} (h : S.addE = 0) : ∃ i, S.free = some i ∧ S.addId = idOf S i := by
  unfold St.addE at h
  cases hf : S.free with
  | none => rw [hf] at h; cases h
  | some i => exact ⟨i, rfl, by unfold St.addId; rw [hf]⟩
theorem addS_of {α : Type} {S : St α} {i : Nat} (h : S.free = some i) (t : Th α) : S.addS t = (S.setT i t).setH i true := by unfold St.addS; rw [h]
theorem nmd_none_of {α : Type} {S : St α} {key : Int} (hk : key ≠ 0) (h : nmd S key = none) : ∀ j, j < 8 → S.hd j = true → (S.th j).key ≠ key := by
  unfold nmd at h
  rw [if_neg hk, List.find?_eq_none] at h
  intro j hj hd
  have := h j (List.mem_filter.2 ⟨List.mem_range.2 hj, hd⟩)
  simpa using this
theorem nmd_added {α : Type} {S : St α} {key : Int} {i : Nat} (hk : key ≠ 0) (hn : nmd S key = none) (hi : i < 8) (t : Th α) (ht : t.key = key) : nmd ((S.setT i t).setH i true) key = some i := by
  cases hc : nmd ((S.setT i t).setH i true) key with
  | none =>
    have := nmd_none_of hk hc i hi (by show (if i = i then true else S.hd i) = true; simp)
    exact absurd (by show (if i = i then t else S.th i).key = key; simp [ht]) this
  | some j =>
    obtain ⟨hj, hd, hkj, _⟩ := nmd_mem hc
    by_cases hji : j = i
    · rw [hji]
    · have h1 : S.hd j = true := by
        have : (if j = i then true else S.hd j) = true := hd
        rwa [if_neg hji] at this
      have h2 : (S.th j).key = key := by
        have : (if j = i then t else S.th j).key = key := hkj
        rwa [if_neg hji] at this
      exact absurd h2 (nmd_none_of hk hn j hj h1)
/-- What the two calls of IpcKeys tell. -/
theorem keys_law {S : St Int} (cu cg key : Int) (a b : Int) (m1 m2 : Bool) (e f : Int) (S1 S2 : St Int) (h1 : gt S cu cg key 512 5 = ((a, m1, e), S1)) (h2 : gt S1 cu cg key 512 5 = ((b, m2, f), S2)) :
    (e = 50 ∨ e = 101) ∨ (e = 0 ∧ f = 101 ∧ key = 0 ∧ m1 = true) ∨ (e = 0 ∧ f = 0 ∧ key = 0 ∧ a ≠ b ∧ m1 = true ∧ m2 = true) ∨
    (e = 0 ∧ f = 0 ∧ key ≠ 0 ∧ a = b ∧ m2 = false ∧ ∃ r S3, gt S2 cu cg key 1536 5 = ((r, false, 20), S3)) := by
  cases hr : areB [cu, cg]
  · rw [gt_cred hr] at h1
    cases h1
    exact .inl (.inl rfl)
  · by_cases hk : key = 0
    · subst hk
      have hn : ∀ S : St Int, nmd S 0 = none := fun S => by unfold nmd; rw [if_pos rfl]
      rw [gt_made hr (by omega) (hn _) (.inl rfl)] at h1 h2
      cases h1
      cases h2
      rcases addE_cases S with h | h
      · rcases addE_cases (S.addS (mkT cu cg 0 512 5)) with h' | h'
        · obtain ⟨i, hi, hid⟩ := free_of_addE h
          obtain ⟨j, hj, hjd⟩ := free_of_addE h'
          refine .inr (.inr (.inl ⟨h, h', rfl, ?_, by rw [h]; rfl, by rw [h']; rfl⟩))
          rw [hid, hjd]
          have hS := addS_of hi (mkT cu cg 0 512 (5 : Int))
          obtain ⟨h8, _⟩ := free_get hi
          obtain ⟨h9, hjf⟩ := free_get hj
          have hne : j ≠ i := fun e => by
            rw [hS, e] at hjf
            have : (if i = i then true else S.hd i) = false := hjf
            simp at this
          unfold idOf
          omega
        · exact .inr (.inl ⟨h, h', rfl, by rw [h]; rfl⟩)
      · exact .inl (.inr h)
    · cases hn : nmd S key with
      | none =>
        rw [gt_made hr (by omega) hn (.inr crB512)] at h1
        cases h1
        rcases addE_cases S with h | h
        · obtain ⟨i, hi, hid⟩ := free_of_addE h
          have hS := addS_of hi (mkT cu cg key 512 (5 : Int))
          obtain ⟨h8, _⟩ := free_get hi
          have hn2 := nmd_added hk hn h8 (mkT cu cg key 512 (5 : Int)) rfl
          rw [hS, gt_found hr (by omega) hn2 (by simp), if_pos (may512 _ _ _)] at h2
          cases h2
          refine .inr (.inr (.inr ⟨h, rfl, hk, by rw [hid]; rfl, rfl, ?_⟩))
          refine ⟨0, (S.setT i (mkT cu cg key 512 5)).setH i true, ?_⟩
          unfold gt
          rw [if_neg (by rw [hr]; simp), if_neg (by omega), hn2]
          dsimp only
          rw [if_pos ⟨by omega, crB1536⟩]
        · exact .inl (.inr h)
      | some i =>
        rw [gt_found hr (by omega) hn (by simp), if_pos (may512 _ _ _)] at h1
        cases h1
        rw [gt_found hr (by omega) hn (by simp), if_pos (may512 _ _ _)] at h2
        cases h2
        refine .inr (.inr (.inr ⟨rfl, rfl, hk, rfl, rfl, 0, S, ?_⟩))
        unfold gt
        rw [if_neg (by rw [hr]; simp), if_neg (by omega), hn]
        dsimp only
        rw [if_pos ⟨by omega, crB1536⟩]
end Go.Proofs
