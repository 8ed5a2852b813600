/- What root reads of Names: things and permissions, in lists. -/
import Derived.Test.YthijminlalddcaaGreatDoorHA
import Derived.Test.YthijminlalddcaaGreatDoorSR
set_option linter.unusedVariables false
set_option linter.unusedSimpArgs false
namespace Go.Proofs
open Go.RowKit Go.Shelf
attribute [local go_sem] Oper.semAt_some

def tvI (S : St Int) (id : Int) : Int := fdVI (S.getT id zthI) (S.getE id) 0 0 0
def teI (S : St Int) (id : Int) : Int := fdEI (S.getT id zthI) (S.getE id) 0 0 0
def pt (S : St Int) (id : Int) : Th Int := if S.getE id = 0 then S.getT id zthI else zthI
def permCells (t : Th Int) : List Value := [.int .i64 t.u, .int .i64 t.g, .int .i64 t.cu, .int .i64 t.cg, .int .i64 t.m]
def PermsL (xs : List (Th Int)) : List Value := xs.flatMap permCells
theorem tfind_at {w0 w : World} {n h : Nat} {S : St Int} (x : NSI w0 w n h S) (id : Int) :
    Calls Tryz.prog 10 #[.pointer (some ⟨n, 0, none⟩), .agg #[.int .i64 0, .int .i64 0], .int .i64 id, .int .i64 0] w fun e w' => e = .returned (.tuple #[.int .i64 (tvI S id), .int .i64 (teI S id)]) ∧ NSI w0 w' n h S ∧ Same w w' := nFind_fI x id 0 0 0
theorem tperm_at {w0 w : World} {n h : Nat} {S : St Int} (x : NSI w0 w n h S) (id : Int) :
    Calls Tryz.prog 12 #[.pointer (some ⟨n, 0, none⟩), .int .i64 id] w fun e w' => e = .returned (.tuple #[.agg #[.int .i64 (pt S id).u, .int .i64 (pt S id).g, .int .i64 (pt S id).cu, .int .i64 (pt S id).cg, .int .i64 (pt S id).m], .int .i64 (S.getE id)]) ∧ NSI w0 w' n h S ∧ Same w w' :=
  (nPerm_f x id).mono fun e w' ⟨he, hx, hG⟩ => by
    refine ⟨?_, hx, hG⟩
    rw [he]
    unfold pmP pt
    split <;> rfl
theorem nids_m {w0 w : World} {n h : Nat} {S : St Int} (x : NSI w0 w n h S) (m : Nat) (hm : S.ids.length = m) :
    Calls Tryz.prog 9 #[.pointer (some ⟨n, 0, none⟩)] w fun e w' => ∃ A c, e = .returned (.slice A m c) ∧ RdB w' w.heap.size A S.ids ∧ NSI w0 w' n h S ∧ Same w w' :=
  (nIds_f x).mono fun e w' ⟨v, he, hr, hx, hG⟩ => by
    obtain ⟨A, c, rfl, h⟩ := own_slice hr
    exact ⟨A, c, by rw [he, hm], h, hx, hG⟩
/-- A list of permissions in memory. -/
def RdP (w : World) (lo : Nat) (A : Option Addr) (xs : List (Th Int)) : Prop := 0 < xs.length → ∃ g off cur, A = some ⟨g, off, none⟩ ∧ lo ≤ g ∧ Blk w g 39 cur ∧ ∀ j, j < xs.length → ∀ i, i < 5 → cur[off + j * 5 + i]? = (permCells (xs[j]?.getD zthI))[i]?
theorem RdP.gr {w w' : World} {lo : Nat} {A : Option Addr} {xs : List (Th Int)} {X : Nat → Prop} (h : RdP w lo A xs) (hG : Gr w w' X) (hX : ∀ k, X k → k < lo) : RdP w' lo A xs := fun hn => by
  obtain ⟨g, off, cur, e, hg, hb, hc⟩ := h hn
  exact ⟨g, off, cur, e, hg, hG.blk hb (fun hx => by have := hX g hx; omega), hc⟩
theorem permsL_at : ∀ (xs : List (Th Int)) (j : Nat), j < xs.length → ∀ i, i < 5 → (PermsL xs)[j * 5 + i]? = (permCells (xs[j]?.getD zthI))[i]?
  | [], j, hj, _, _ => absurd hj (by simp)
  | x :: xs, 0, _, i, hi => by
    show (permCells x ++ PermsL xs)[0 * 5 + i]? = _
    rw [List.getElem?_append_left (by show 0 * 5 + i < 5; omega), Nat.zero_mul, Nat.zero_add]
    rfl
  | x :: xs, j + 1, hj, i, hi => by
    show (permCells x ++ PermsL xs)[(j + 1) * 5 + i]? = _
    rw [List.getElem?_append_right (by show 5 ≤ _; omega), show (j + 1) * 5 + i - (permCells x).length = j * 5 + i by show (j + 1) * 5 + i - 5 = _; omega, permsL_at xs j (by simpa using hj) i hi]
    rfl
theorem permsL_length (xs : List (Th Int)) : (PermsL xs).length = xs.length * 5 := by
  induction xs with
  | nil => rfl
  | cons x xs ih => show (permCells x ++ PermsL xs).length = _; rw [List.length_append, ih, List.length_cons]; show 5 + _ = _; omega
theorem own_perms {w : World} {base m : Nat} {v : Value} {xs : List (Th Int)} (hm : xs.length = m) (h : w.ownsRow base 39 5 v m (PermsL xs)) : ∃ A c, v = .slice A m c ∧ RdP w base A xs := by
  subst hm
  rcases h.2 with ⟨h1, h2⟩ | ⟨g, cap, cur, h1, hg, hb, _, _, _, ht⟩
  · exact ⟨none, 0, by rw [h1, h2], fun hn => by omega⟩
  · refine ⟨some ⟨g, 0, none⟩, cap, h1, fun _ => ⟨g, 0, cur, rfl, hg, hb, fun j hj i hi => ?_⟩⟩
    rw [Nat.zero_add, ← permsL_at xs j hj i hi, ← ht, List.getElem?_take_of_lt (by omega)]
    simp
theorem own_ints {w : World} {base m : Nat} {v : Value} {xs : List Int} (hm : xs.length = m) (h : w.ownsRow base 3 1 v m (Ints xs)) : ∃ A c, v = .slice A m c ∧ RdB w base A xs := by
  subst hm
  exact own_slice h
theorem own_ne {w : World} {b1 b2 s1 s2 n1 n2 : Nat} {e1 e2 : TypeId} {v1 v2 : Value} {xs1 xs2 : List Value} (h1 : w.ownsRow b1 e1 s1 v1 n1 xs1) (h2 : w.ownsRow b2 e2 s2 v2 n2 xs2) (he : e1 ≠ e2) : v1.ownBlock = none ∨ v1.ownBlock ≠ v2.ownBlock := by
  rcases h1.2 with ⟨rfl, _⟩ | ⟨g, cap, cur, rfl, _, hg, _⟩
  · exact .inl rfl
  · refine .inr fun e => ?_
    rcases h2.2 with ⟨rfl, _⟩ | ⟨g', cap', cur', rfl, _, hg', _⟩
    · simp [Value.ownBlock] at e
    · simp [Value.ownBlock] at e
      subst e
      rw [hg] at hg'
      cases hg'
      exact he rfl
theorem own_same {w w' : World} {b s n : Nat} {e : TypeId} {v : Value} {xs : List Value} (h : w.ownsRow b e s v n xs) (hG : Same w w') : w'.ownsRow b e s v n xs :=
  h.kept (Gr.grownBy hG) (by cases hv : v.ownBlock <;> simp)
theorem cells_at (W : World) (b : Nat) (h : W.heap.size = b) (xs : List Value) (t : TypeId) : ∀ j u, xs[j]? = some u → (W.alloc (.cells xs.toArray t)).cell? ((⟨b, 0, none⟩ : Addr).add j) = some u := by
  intro j u hj
  have hb : Blk (W.alloc (.cells xs.toArray t)) b t xs.toArray := Blk.new _ _ _ _ h
  have hadd : (⟨b, 0, none⟩ : Addr).add j = ⟨b, j, none⟩ := by unfold Addr.add; split <;> simp_all
  rw [hadd, hb.cell j]
  simpa using hj
theorem permsL_snoc (xs : List (Th Int)) (t : Th Int) : PermsL (xs ++ [t]) = PermsL xs ++ permCells t := by simp [PermsL]
theorem map_getD {α β : Type} (f : α → β) (L : List α) (j : Nat) (a : α) (b : β) (hj : j < L.length) : (L.map f)[j]?.getD b = f (L[j]?.getD a) := by
  rw [List.getElem?_map, List.getElem?_eq_getElem hj]; rfl
theorem ints_m (A B : Option Addr) (c d : Nat) (xs : List Int) (m : Nat) (hm : xs.length = m) (N M : Nat) (w : World) (hx : RdB w N A xs) (hy : RdB w M B xs) (h63 : m ≤ 1000000) :
    Calls Tryz.prog 8 #[.slice A m c, .slice B m d] w fun e w' => e = .returned (.bool true) ∧ Same w w' := by
  subst hm
  have h := ints_any A B c d xs xs N M w hx hy h63 h63
  rwa [decide_eq_true rfl] at h
theorem infoP : (Tryz.prog.info? 39).map (fun i => (i.zero, i.size, i.bytes)) = some (some (.agg #[.int .i64 0, .int .i64 0, .int .i64 0, .int .i64 0, .int .i64 0]), 5, 40) := by kernel_rfl
theorem take_getD (L : List Int) (j : Nat) (hj : j < L.length) : L.take (j + 1) = L.take j ++ [L[j]?.getD 0] := by
  rw [List.take_succ_eq_append_getElem hj, List.getElem?_eq_getElem hj]
  rfl
theorem gt_refused {S : St Int} (cu cg key flags v : Int) (h : (gt S cu cg key flags v).1.2.2 ≠ 0) : (gt S cu cg key flags v).2 = S := by
  unfold gt at h ⊢
  split
  · rfl
  · rename_i h1
    rw [if_neg h1] at h
    split
    · rfl
    · rename_i h2
      rw [if_neg h2] at h
      cases hn : nmd S key with
      | some i =>
        rw [hn] at h
        dsimp only at h ⊢
        split
        · rfl
        · split <;> rfl
      | none =>
        rw [hn] at h
        dsimp only at h ⊢
        split
        · rename_i h3
          rw [if_pos h3] at h
          have h0 : S.addE ≠ 0 := h
          show S.addS _ = S
          unfold St.addS
          unfold St.addE at h0
          cases hf : S.free with
          | none => rfl
          | some i => rw [hf] at h0; exact absurd rfl h0
        · rfl
def eight (d : Int) : Int := (IntKind.u64.wrap d).tmod 8
theorem eight_cases (d : Int) : eight d = 0 ∨ eight d = 1 ∨ eight d = 2 ∨ eight d = 3 ∨ eight d = 4 ∨ eight d = 5 ∨ eight d = 6 ∨ eight d = 7 := by
  have e : IntKind.u64.wrap d = d % 18446744073709551616 := by go_num
  unfold eight
  rw [e, Int.tmod_eq_emod_of_nonneg (by omega)]
  omega
end Go.Proofs
