/- The reference's Names: in memory; how it agrees with the program's. -/
import Derived.Test.YthijminlalddcaaGreatDoorRA
import Derived.Test.YthijminlalddcaaGreatDoorHJ
import Derived.Maps.AppendAt
set_option linter.unusedVariables false
set_option linter.unusedSimpArgs false
namespace Go.Proofs
open Go.RowKit Go.Shelf
attribute [local go_sem] Oper.semAt_some

/-- The reference's Names in memory, behind the world w0: kv, pv, uv are its three lists. -/
structure RS (w0 w : World) (r : Nat) (S : St Int) (V : Nat → Int) (K : List Int) (P : List (Th Int)) (U : List Int) (kv pv uv : Value) : Prop where
  rf : Rf w r S V kv pv uv
  rk : w.ownsRow (r + 1) 3 1 kv K.length (Ints K)
  rp : w.ownsRow (r + 1) 39 5 pv P.length (PermsL P)
  ru : w.ownsRow (r + 1) 3 1 uv U.length (Ints U)
  lp : P.length = K.length
  lu : U.length = K.length
  ku : kv.ownBlock = none ∨ kv.ownBlock ≠ uv.ownBlock
  ok : S.ok
  g : Same w0 w
  hr : w0.heap.size ≤ r
/-- What the reference's lists say of the things that are held. -/
structure Agr (S : St Int) (V : Nat → Int) (K : List Int) (P : List (Th Int)) (U : List Int) : Prop where
  at_ : ∀ i, i < 8 → S.hd i = true → ∃ j : Nat, V i = j ∧ j < K.length ∧ K[j]? = some (S.th i).key ∧ permCells (P[j]?.getD zthI) = permCells (S.th i) ∧ U[j]? = some (S.th i).v
  inj : ∀ i i', i < 8 → i' < 8 → S.hd i = true → S.hd i' = true → V i = V i' → i = i'

theorem own_gr {w w' : World} {b s n : Nat} {e : TypeId} {v : Value} {xs : List Value} {X : Nat → Prop} (h : w.ownsRow b e s v n xs) (hG : Gr w w' X) (hX : ∀ k, X k → k < b) : w'.ownsRow b e s v n xs := by
  refine ⟨h.1, ?_⟩
  rcases h.2 with h2 | ⟨g, cap, cur, rfl, hb, hg, r⟩
  · exact .inl h2
  · exact .inr ⟨g, cap, cur, rfl, hb, (hG.2.2.2.2 g (Array.getElem?_eq_some_iff.1 hg).1 (fun hx => by have := hX g hx; omega)).trans hg, r⟩
section
variable {w0 w w' : World} {r : Nat} {S S' : St Int} {V : Nat → Int} {K : List Int} {P : List (Th Int)} {U : List Int} {kv pv uv : Value}
/-- What is done elsewhere, below r, leaves the reference. -/
theorem RS.gr {X : Nat → Prop} (h : RS w0 w r S V K P U kv pv uv) (hG : Gr w w' X) (hX : ∀ k, X k → k < r) (h0 : ∀ k, X k → w0.heap.size ≤ k) : RS w0 w' r S V K P U kv pv uv :=
  ⟨hG.blk h.rf (fun hx => by have := hX r hx; omega), own_gr h.rk hG (fun k hk => by have := hX k hk; omega), own_gr h.rp hG (fun k hk => by have := hX k hk; omega), own_gr h.ru hG (fun k hk => by have := hX k hk; omega), h.lp, h.lu, h.ku, h.ok, h.g.trans hG (fun j hj hx => by have := h0 j hx; omega), h.hr⟩
theorem RS.same (h : RS w0 w r S V K P U kv pv uv) (hG : Same w w') : RS w0 w' r S V K P U kv pv uv := h.gr hG (fun _ f => f.elim) (fun _ f => f.elim)
theorem RS.lt (h : RS w0 w r S V K P U kv pv uv) : r < w.heap.size := Blk.lt h.rf

theorem agr_add {i : Nat} (h : Agr S V K P U) (hl : P.length = K.length) (hu : U.length = K.length) (hf : S.free = some i) (t : Th Int) (p : Th Int) (hp : permCells p = permCells t) :
    Agr (S.addS t) (rV S V K.length) (K ++ [t.key]) (P ++ [p]) (U ++ [t.v]) := by
  obtain ⟨hi, hd0⟩ := free_get hf
  have eS : S.addS t = (S.setT i t).setH i true := by unfold St.addS; rw [hf]
  have eV : rV S V K.length = upd V i K.length := by unfold rV; rw [hf]
  rw [eS, eV]
  have hold : ∀ x, x < 8 → x ≠ i → ((S.setT i t).setH i true).hd x = true → S.hd x = true ∧ upd V i K.length x = V x ∧ ((S.setT i t).setH i true).th x = S.th x := by
    intro x hx hne hh
    refine ⟨?_, ?_, ?_⟩
    · have : (if x = i then true else S.hd x) = true := hh
      rwa [if_neg hne] at this
    · show (if x = i then _ else V x) = V x; rw [if_neg hne]
    · show (if x = i then t else S.th x) = S.th x; rw [if_neg hne]
  refine ⟨fun x hx hh => ?_, fun x y hx hy hhx hhy hV => ?_⟩
  · by_cases hxi : x = i
    · subst hxi
      have e1 : ((S.setT x t).setH x true).th x = t := by show (if x = x then t else S.th x) = t; simp
      rw [e1]
      refine ⟨K.length, ?_, by simp, by simp, ?_, ?_⟩
      · show (if x = x then _ else V x) = _; simp
      · rw [← hl]; simp [hp]
      · rw [← hu]; simp
    · obtain ⟨h1, h2, h3⟩ := hold x hx hxi hh
      obtain ⟨j, e1, e2, e3, e4, e5⟩ := h.at_ x hx h1
      rw [h2, h3]
      refine ⟨j, e1, by simp; omega, ?_, ?_, ?_⟩
      · rw [List.getElem?_append_left e2]; exact e3
      · rw [List.getElem?_append_left (by omega)]; exact e4
      · rw [List.getElem?_append_left (by omega)]; exact e5
  · have low : ∀ z, z < 8 → z ≠ i → ((S.setT i t).setH i true).hd z = true → upd V i K.length z < K.length := by
      intro z hz hne hh
      obtain ⟨h1, h2, _⟩ := hold z hz hne hh
      obtain ⟨j, e1, e2, _⟩ := h.at_ z hz h1
      rw [h2, e1]
      omega
    have at_i : upd V i K.length i = K.length := by show (if i = i then _ else V i) = _; simp
    by_cases hxi : x = i
    · by_cases hyi : y = i
      · omega
      · have := low y hy hyi hhy
        rw [hxi, at_i] at hV
        omega
    · by_cases hyi : y = i
      · have := low x hx hxi hhx
        rw [hyi, at_i] at hV
        omega
      · obtain ⟨a1, a2, _⟩ := hold x hx hxi hhx
        obtain ⟨b1, b2, _⟩ := hold y hy hyi hhy
        exact h.inj x y hx hy a1 b1 (by rw [← a2, ← b2]; exact hV)
theorem agr_rm (h : Agr S V K P U) (id : Int) (z : Th Int) : Agr (S.rmI id z) V K P U := by
  unfold St.rmI
  cases hp : S.place id with
  | none => exact h
  | some i =>
    have hold : ∀ x, (S.rm i z).hd x = true → S.hd x = true ∧ (S.rm i z).th x = S.th x := by
      intro x hh
      have h1 : (if x = i then false else S.hd x) = true := hh
      by_cases hxi : x = i
      · rw [if_pos hxi] at h1; cases h1
      · rw [if_neg hxi] at h1
        refine ⟨h1, ?_⟩
        show (if x = i then z else S.th x) = S.th x
        rw [if_neg hxi]
    refine ⟨fun x hx hh => ?_, fun x y hx hy hhx hhy hV => h.inj x y hx hy (hold x hhx).1 (hold y hhy).1 hV⟩
    obtain ⟨h1, h2⟩ := hold x hh
    rw [h2]
    exact h.at_ x hx h1
theorem agr_setv {i j : Nat} {id : Int} (h : Agr S V K P U) (hlu : U.length = K.length) (hp : S.place id = some i) (hj : V i = j) (v : Int) : Agr (S.setI id ((S.th i).setv v)) V K P (U.set j v) := by
  obtain ⟨hi, hd, _⟩ := place_get hp
  have eS : S.setI id ((S.th i).setv v) = S.setT i ((S.th i).setv v) := by unfold St.setI; rw [hp]
  rw [eS]
  refine ⟨fun x hx hh => ?_, fun x y hx hy hhx hhy hV => h.inj x y hx hy hhx hhy hV⟩
  have hh' : S.hd x = true := hh
  obtain ⟨k, e1, e2, e3, e4, e5⟩ := h.at_ x hx hh'
  by_cases hxi : x = i
  · subst hxi
    have e0 : (S.setT x ((S.th x).setv v)).th x = (S.th x).setv v := by show (if x = x then _ else S.th x) = _; simp
    rw [e0]
    have : k = j := by omega
    subst this
    exact ⟨k, e1, e2, e3, e4, by rw [List.getElem?_set_self (by omega)]; rfl⟩
  · have e0 : (S.setT i ((S.th i).setv v)).th x = S.th x := by show (if x = i then _ else S.th x) = _; rw [if_neg hxi]
    rw [e0]
    have : j ≠ k := fun e => hxi (h.inj x i hx hi hh' hd (by rw [e1, hj, e]))
    exact ⟨k, e1, e2, e3, e4, by rw [List.getElem?_set_ne this]; exact e5⟩
theorem agr_setP {i j : Nat} {id : Int} (h : Agr S V K P U) (hlp : P.length = K.length) (hp : S.place id = some i) (hj : V i = j) (uid gid mode : Int) (p : Th Int) (hpc : permCells p = permCells ((S.th i).setP uid gid mode)) : Agr (S.setI id ((S.th i).setP uid gid mode)) V K (P.set j p) U := by
  obtain ⟨hi, hd, _⟩ := place_get hp
  have eS : S.setI id ((S.th i).setP uid gid mode) = S.setT i ((S.th i).setP uid gid mode) := by unfold St.setI; rw [hp]
  rw [eS]
  refine ⟨fun x hx hh => ?_, fun x y hx hy hhx hhy hV => h.inj x y hx hy hhx hhy hV⟩
  have hh' : S.hd x = true := hh
  obtain ⟨k, e1, e2, e3, e4, e5⟩ := h.at_ x hx hh'
  by_cases hxi : x = i
  · subst hxi
    have e0 : (S.setT x ((S.th x).setP uid gid mode)).th x = (S.th x).setP uid gid mode := by show (if x = x then _ else S.th x) = _; simp
    rw [e0]
    have : k = j := by omega
    subst this
    exact ⟨k, e1, e2, e3, by rw [List.getElem?_set_self (by omega)]; exact hpc, e5⟩
  · have e0 : (S.setT i ((S.th i).setP uid gid mode)).th x = S.th x := by show (if x = i then _ else S.th x) = _; rw [if_neg hxi]
    rw [e0]
    have : j ≠ k := fun e => hxi (h.inj x i hx hi hh' hd (by rw [e1, hj, e]))
    exact ⟨k, e1, e2, e3, by rw [List.getElem?_set_ne this]; exact e4, e5⟩
end
/-- How a row of ints, of permissions, reads. -/
theorem own_int_at {w : World} {b n : Nat} {e : TypeId} {v : Value} {xs : List Int} (h : w.ownsRow b e 1 v n (Ints xs)) {j : Nat} {x : Int} (hx : xs[j]? = some x) : ∃ g cap, v = .slice (some ⟨g, 0, none⟩) n cap ∧ b ≤ g ∧ g < w.heap.size ∧ j < n ∧ w.cell? ⟨g, j, none⟩ = some (.int .i64 x) ∧ w.frozen? ⟨g, j, none⟩ = false := by
  have hj : j < xs.length := (List.getElem?_eq_some_iff.1 hx).1
  have hlen := h.1
  simp [Ints] at hlen
  rcases h.2 with ⟨_, h2⟩ | ⟨g, cap, cur, h1, hg, hb, _, _, _, ht⟩
  · omega
  · have hb' : Blk w g e cur := hb
    refine ⟨g, cap, h1, hg, hb'.lt, by omega, ?_, hb'.frozen j⟩
    have h2 : (Ints xs)[j]? = some (.int .i64 x) := by simp [Ints, hx]
    rw [← ht, List.getElem?_take_of_lt (by omega)] at h2
    rw [hb'.cell j]
    simpa using h2
theorem own_perm_at {w : World} {b n : Nat} {e : TypeId} {v : Value} {xs : List (Th Int)} (h : w.ownsRow b e 5 v n (PermsL xs)) {j : Nat} (hj : j < xs.length) : ∃ g cap, v = .slice (some ⟨g, 0, none⟩) n cap ∧ b ≤ g ∧ g < w.heap.size ∧ j < n ∧
    ∀ i, i < 5 → w.cell? ⟨g, j * 5 + i, none⟩ = (permCells (xs[j]?.getD zthI))[i]? ∧ w.frozen? ⟨g, j * 5 + i, none⟩ = false := by
  have hlen := h.1
  rw [permsL_length] at hlen
  rcases h.2 with ⟨_, h2⟩ | ⟨g, cap, cur, h1, hg, hb, _, _, _, ht⟩
  · omega
  · have hb' : Blk w g e cur := hb
    refine ⟨g, cap, h1, hg, hb'.lt, by omega, fun i hi => ⟨?_, hb'.frozen _⟩⟩
    rw [hb'.cell, ← permsL_at xs j hj i hi, ← ht, List.getElem?_take_of_lt (by omega)]
    simp
end Go.Proofs
