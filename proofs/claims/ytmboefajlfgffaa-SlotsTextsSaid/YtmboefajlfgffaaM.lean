/- The slots and the reference, side by side: what they hold agrees. -/
import Derived.Test.YtmboefajlfgffaaJ
import Derived.Test.YtmboefajlfgffaaY
set_option linter.unusedVariables false
set_option linter.unusedSimpArgs false
namespace Go.Proofs
open Go.RowKit Go.Shelf
attribute [local go_sem] Oper.semAt_some

def Agree (S : St) (V : Nat → Int) : Prop := ∀ i, i < 8 → S.hd i = true → S.vv i = .int .i64 (V i)

theorem agree_zero (z : Value) (V : Nat → Int) : Agree (St.zero z) V := fun i _ h => by simp [St.zero] at h

theorem agree_add {S : St} {V : Nat → Int} (h : Agree S V) (v : Int) : Agree (S.addS (.int .i64 v)) (rV S V v) := by
  unfold St.addS rV
  split
  · rename_i i hi
    simp only [hi]
    intro j hj hd
    by_cases e : j = i
    · subst e; simp [St.setH, St.setV, upd]
    · have := h j hj (by simpa [St.setH, St.setV, e] using hd)
      simpa [St.setH, St.setV, upd, e] using this
  · rename_i hi
    simp only [hi]
    exact h

theorem agree_set {S : St} {V : Nat → Int} (h : Agree S V) (id v : Int) : Agree (S.setS' id (.int .i64 v)) (rVs S V id v) := by
  unfold St.setS' rVs
  split
  · rename_i i hi
    simp only [hi]
    intro j hj hd
    by_cases e : j = i
    · subst e; simp [St.setV, upd]
    · have := h j hj (by simpa [St.setV] using hd)
      simpa [St.setV, upd, e] using this
  · rename_i hi
    simp only [hi]
    exact h

theorem agree_rm {S : St} {V : Nat → Int} (h : Agree S V) (id : Int) (z : Value) : Agree (S.rmS id z) V := by
  unfold St.rmS
  split
  · rename_i i hi
    intro j hj hd
    by_cases e : j = i
    · subst e; simp [St.rm, St.setH, St.setV, St.setS] at hd
    · have := h j hj (by simpa [St.rm, St.setH, St.setV, St.setS, e] using hd)
      simpa [St.rm, St.setH, St.setV, St.setS, e] using this
  · exact h

theorem agree_get {S : St} {V : Nat → Int} (h : Agree S V) (id : Int) : getI S id = rG S V id := by
  unfold getI rG St.getV
  cases hp : S.place id with
  | some i =>
    obtain ⟨a, b, _⟩ := place_lt hp
    simp only [h i a b]
    rfl
  | none => rfl

theorem ids8 (S : St) : S.ids.length ≤ 1000000 := by
  have := ids_le S (List.range 8)
  simp at this
  have h2 : S.ids.length ≤ 8 := this
  omega

theorem ids_s (b : Nat) (S : St) (hS : S.ok) (w : World) (hb : Sl 58 w b S) :
    Calls Try.prog 14 #[.pointer (some ⟨b, 0, none⟩)] w fun e w' => ∃ A c, e = .returned (.slice A S.ids.length c) ∧ RdI w' w'.heap.size A S.ids ∧ Same w w' :=
  (ids_any b S hS w hb).mono fun e w' ⟨v, he, hr, hG⟩ => by
    obtain ⟨A, c, rfl, h⟩ := own_slice hr
    exact ⟨A, c, he, h, hG⟩
theorem ids_r (b : Nat) (S : St) (V : Nat → Int) (hS : S.ok) (w : World) (hb : Rf w b S V) :
    Calls Try.prog 16 #[.pointer (some ⟨b, 0, none⟩)] w fun e w' => ∃ A c, e = .returned (.slice A S.ids.length c) ∧ RdI w' w'.heap.size A S.ids ∧ Same w w' :=
  (rids b S V hS w hb).mono fun e w' ⟨v, he, hr, hG⟩ => by
    obtain ⟨A, c, rfl, h⟩ := own_slice hr
    exact ⟨A, c, he, h, hG⟩
theorem ints_same (A B : Option Addr) (c d : Nat) (xs : List Int) (N M : Nat) (w : World) (hx : RdI w N A xs) (hy : RdI w M B xs) (h63 : xs.length ≤ 1000000) :
    Calls Try.prog 22 #[.slice A xs.length c, .slice B xs.length d] w fun e w' => e = .returned (.bool true) ∧ Same w w' :=
  (ints_any A B c d xs xs N M w hx hy h63 h63).mono fun e w' ⟨he, hG⟩ => ⟨by rw [he]; simp, hG⟩
theorem RdI.same {w w' : World} {A : Option Addr} {xs : List Int} (h : RdI w w.heap.size A xs) (hG : Same w w') : RdI w' w.heap.size A xs := h.gr hG (Nat.le_refl _) (fun _ _ f => f)

/-- A list of acts: their four fields. -/
def Acts (W : World) (A : Option Addr) (n : Nat) (D I : Nat → Int) (Pl : Nat → Bool) (V : Nat → Int) : Prop :=
  0 < n → ∃ g off, A = some ⟨g, off, none⟩ ∧ g < W.heap.size ∧ ∀ i, i < n → W.cell? ⟨g, off + i * 4, none⟩ = some (.int .i64 (D i)) ∧ W.cell? ⟨g, off + i * 4 + 1, none⟩ = some (.int .i64 (I i)) ∧
    W.cell? ⟨g, off + i * 4 + 2, none⟩ = some (.bool (Pl i)) ∧ W.cell? ⟨g, off + i * 4 + 3, none⟩ = some (.int .i64 (V i))

def six (d : Int) : Int := (IntKind.u64.wrap d).tmod 6
theorem six_cases (d : Int) : six d = 0 ∨ six d = 1 ∨ six d = 2 ∨ six d = 3 ∨ six d = 4 ∨ six d = 5 := by
  have e : IntKind.u64.wrap d = d % 18446744073709551616 := by go_num
  have p : (0 : Int) ≤ d % 18446744073709551616 := by omega
  have a := Int.tmod_lt_of_pos (d % 18446744073709551616) (b := 6) (by omega)
  have b := Int.tmod_nonneg 6 p
  unfold six
  rw [e]
  omega
theorem rget_a (b : Nat) (S : St) (V : Nat → Int) (hS : S.ok) (hA : Agree S V) (id : Int) (w : World) (hb : Rf w b S V) :
    Calls Try.prog 18 #[.pointer (some ⟨b, 0, none⟩), .int .i64 id] w fun e w' => e = .returned (.tuple #[.int .i64 (getI S id), .int .i64 (S.getE id)]) ∧ Same w w' := by
  rw [agree_get hA]; exact rget b S V hS id w hb
theorem rremove_a (b : Nat) (S : St) (V : Nat → Int) (hS : S.ok) (hA : Agree S V) (id : Int) (w : World) (hb : Rf w b S V) :
    Calls Try.prog 21 #[.pointer (some ⟨b, 0, none⟩), .int .i64 id] w fun e w' => e = .returned (.tuple #[.int .i64 (getI S id), .int .i64 (S.getE id)]) ∧ Gr w w' (fun k => k = b) ∧ Rf w' b (S.rmS id (.int .i64 0)) V := by
  rw [agree_get hA]; exact rremove b S V hS id (.int .i64 0) w hb
end Go.Proofs
