/- New, Get, Set, Remove. -/
import Derived.Test.YtmboefajlfgffaaE
set_option linter.unusedVariables false
set_option linter.unusedSimpArgs false
namespace Go.Proofs
open Go.RowKit Go.Shelf

def St.zero (z : Value) : St := { sq := fun _ => 0, vv := fun _ => z, hd := fun _ => false }

theorem new_any (w : World) : Calls Try.prog 10 #[] w fun e w' => e = .returned (.pointer (some ⟨w.heap.size, 0, none⟩)) ∧ Same w w' ∧ Sl 58 w' w.heap.size (St.zero (.int .i64 0)) := by
  go_enter Try.func10, Try.ntmps10
  go_wp2
  go_ret
  exact ⟨rfl, Gr.a1 _ _, Blk.new _ _ _ _ rfl⟩

/-- What a look at a number's slot tells, where it changes nothing. -/
def GetPost (S : St) (id : Int) (z : Value) (w : World) (e : Ending) (w' : World) : Prop :=
  Same w w' ∧ ((e = .returned (.tuple #[z, .int .i64 100]) ∧ (∀ j, j < 8 → S.hd j = true → idOf S j ≠ id)) ∨ (∃ i, i < 8 ∧ S.hd i = true ∧ idOf S i = id ∧ e = .returned (.tuple #[S.vv i, .int .i64 0])))

set_option maxHeartbeats 1000000 in
theorem get_any (b : Nat) (S : St) (hS : S.ok) (hV : S.vals) (id : Int) (w : World) (hb : Sl 58 w b S) :
    Calls Try.prog 13 #[.pointer (some ⟨b, 0, none⟩), .int .i64 id] w (GetPost S id (.int .i64 0) w) := by
  have hlt := Blk.lt hb
  have hb1 : ∀ o, Sl 58 (w.alloc o) b S := fun o => Blk.alloc hb o
  go_enter Try.func13, Try.ntmps13
  go_wp2_with fail
  refine (with_get b S hS hV id w.heap.size (.int .i64 0) _ (hb1 _) (Blk.new _ _ _ _ rfl) (by omega)).mono ?_
  rintro e w1 (⟨rfl, hno, hG⟩ | ⟨i, hi, h1, h2, rfl, hG, hB⟩)
  · have c0 := (hG.blk (Blk.new w 3 #[.int .i64 0] _ rfl) (fun f => f)).cell 0
    simp at c0
    have HN := Lib.hid hno
    clear hno
    go_wp2
    go_ret2
    exact ⟨(Gr.a1 _ _).next hG, .inl ⟨rfl, HN.out⟩⟩
  · obtain ⟨n, hn⟩ := hV i hi
    have c0 := hB.cell 0
    rw [hn] at c0
    simp at c0
    have HN := Lib.hid hn
    have H2 := Lib.hid h2
    have H1 := Lib.hid h1
    clear hn hB h2 h1
    go_wp2
    go_ret2
    refine ⟨(gr_of_new hG), .inr ⟨i, hi, H1.out, H2.out, by rw [HN.out]; rfl⟩⟩

/-- What Set leaves. -/
def SetPost (T : TypeId) (b : Nat) (S : St) (id : Int) (v : Value) (w : World) (e : Ending) (w' : World) : Prop :=
  (e = .returned (.int .i64 100) ∧ (∀ j, j < 8 → S.hd j = true → idOf S j ≠ id) ∧ Same w w') ∨ (∃ i, i < 8 ∧ S.hd i = true ∧ idOf S i = id ∧ e = .returned (.int .i64 0) ∧ Gr w w' (fun k => k = b) ∧ Sl T w' b (S.setV i v))

set_option maxHeartbeats 1000000 in
theorem set_any (b : Nat) (S : St) (hS : S.ok) (hV : S.vals) (id : Int) (n : Int) (w : World) (hb : Sl 58 w b S) :
    Calls Try.prog 19 #[.pointer (some ⟨b, 0, none⟩), .int .i64 id, .int .i64 n] w (SetPost 58 b S id (.int .i64 n) w) := by
  have hlt := Blk.lt hb
  have hb1 : ∀ o, Sl 58 (w.alloc o) b S := fun o => Blk.alloc hb o
  go_enter Try.func19, Try.ntmps19
  go_wp2_with fail
  refine (with_set b S hS hV id w.heap.size n _ (hb1 _) (Blk.new _ _ _ _ rfl) (by omega)).mono ?_
  rintro e w1 (⟨rfl, hno, hG⟩ | ⟨i, hi, h1, h2, rfl, hG, hB⟩)
  · have HN := Lib.hid hno
    clear hno
    go_wp2
    go_ret
    exact .inl ⟨rfl, HN.out, (Gr.a1 _ _).next hG⟩
  · have H2 := Lib.hid h2
    have H1 := Lib.hid h1
    clear h2 h1
    go_wp2
    go_ret
    exact .inr ⟨i, hi, H1.out, H2.out, rfl, (Gr.a1 _ _).no.trans hG (fun _ _ h => h), hB⟩

/-- What Remove leaves. -/
def RemovePost (T : TypeId) (b : Nat) (S : St) (id : Int) (z : Value) (w : World) (e : Ending) (w' : World) : Prop :=
  (e = .returned (.tuple #[z, .int .i64 100]) ∧ (∀ j, j < 8 → S.hd j = true → idOf S j ≠ id) ∧ Same w w') ∨ (∃ i, i < 8 ∧ S.hd i = true ∧ idOf S i = id ∧ e = .returned (.tuple #[S.vv i, .int .i64 0]) ∧ Gr w w' (fun k => k = b) ∧ Sl T w' b (S.rm i z))

set_option maxHeartbeats 1000000 in
theorem remove_any (b : Nat) (S : St) (hS : S.ok) (hV : S.vals) (id : Int) (w : World) (hb : Sl 58 w b S) :
    Calls Try.prog 12 #[.pointer (some ⟨b, 0, none⟩), .int .i64 id] w (RemovePost 58 b S id (.int .i64 0) w) := by
  have hlt := Blk.lt hb
  have hb1 : ∀ o o', Sl 58 ((w.alloc o).alloc o') b S := fun o o' => Blk.alloc (Blk.alloc hb o) o'
  go_enter Try.func12, Try.ntmps12
  go_wp2_with fail
  refine (with_remove b S hS hV id w.heap.size (w.heap.size + 1) (.int .i64 0) _ (hb1 _ _) ((Blk.new _ _ _ _ rfl).alloc _) (Blk.new _ _ _ _ (by simp)) (by omega) (by omega) (by omega)).mono ?_
  rintro e w1 (⟨rfl, hno, hG⟩ | ⟨i, hi, h1, h2, rfl, hG, hB, hB'⟩)
  · have c0 := (hG.blk ((Blk.new w 3 #[.int .i64 0] _ rfl).alloc _) (fun f => f)).cell 0
    simp at c0
    have HN := Lib.hid hno
    clear hno
    go_wp2
    go_ret2
    exact .inl ⟨rfl, HN.out, (Gr.a2 _ _ _).next hG⟩
  · obtain ⟨n, hn⟩ := hV i hi
    have c0 := hB.cell 0
    rw [hn] at c0
    simp at c0
    have HN := Lib.hid hn
    have H2 := Lib.hid h2
    have H1 := Lib.hid h1
    clear hn hB h2 h1
    go_wp2
    go_ret2
    exact .inr ⟨i, hi, H1.out, H2.out, by rw [HN.out]; rfl, (Gr.a2 _ _ _).no.trans hG (fun j hj h => by rcases h with h | h; exact h; omega), hB'⟩

/-! ### nil -/
set_option maxHeartbeats 1000000 in
theorem with_nil (id : Int) (f : Value) (g : Nat) (lb : Array Value) (hf : f = .func (.func g) #[] lb) (w : World) : Calls Try.prog 30 #[.pointer none, .int .i64 id, f] w fun e w' => e = .returned (.int .i64 1) ∧ Same w w' := by
  subst hf
  go_enter Try.func30, Try.ntmps30
  go_wp2
  go_step3
  go_wp2
  rw [Exit.noGoto_ret]
  go_ret
  exact ⟨rfl, Gr.a2 _ _ _⟩
theorem add_nil (n : Int) (w : World) : Calls Try.prog 11 #[.pointer none, .int .i64 n] w fun e w' => e = .returned (.tuple #[.int .i64 0, .int .i64 1]) ∧ Same w w' := by
  go_enter Try.func11, Try.ntmps11
  go_wp2
  refine bodyPost_ret (v := .tuple #[.int .i64 0, .int .i64 1]) (by simp [results, Try.results11, go_sem]) rfl ⟨rfl, ?_⟩
  repeat (first | (with_reducible exact Gr.refl _ _) | (with_reducible refine Gr.setCell ?_ (.inr (by dsimp only; omega)) _) | (with_reducible refine Gr.alloc ?_ _) | (with_reducible refine Gr.drew ?_) | (with_reducible refine Gr.next ?_ (by assumption)))
theorem get_nil (id : Int) (w : World) : Calls Try.prog 13 #[.pointer none, .int .i64 id] w fun e w' => e = .returned (.tuple #[.int .i64 0, .int .i64 1]) ∧ Same w w' := by
  go_enter Try.func13, Try.ntmps13
  go_wp2_with fail
  refine (with_nil _ _ _ _ rfl _).mono ?_
  rintro e w1 ⟨rfl, hG⟩
  have c0 := (hG.blk (Blk.new w 3 #[.int .i64 0] _ rfl) (fun f => f)).cell 0
  simp at c0
  go_wp2
  go_ret2
  exact ⟨rfl, (Gr.a1 _ _).next hG⟩
theorem set_nil (id n : Int) (w : World) : Calls Try.prog 19 #[.pointer none, .int .i64 id, .int .i64 n] w fun e w' => e = .returned (.int .i64 1) ∧ Same w w' := by
  go_enter Try.func19, Try.ntmps19
  go_wp2_with fail
  refine (with_nil _ _ _ _ rfl _).mono ?_
  rintro e w1 ⟨rfl, hG⟩
  go_wp2
  go_ret
  exact ⟨rfl, (Gr.a1 _ _).next hG⟩
theorem remove_nil (id : Int) (w : World) : Calls Try.prog 12 #[.pointer none, .int .i64 id] w fun e w' => e = .returned (.tuple #[.int .i64 0, .int .i64 1]) ∧ Same w w' := by
  go_enter Try.func12, Try.ntmps12
  go_wp2_with fail
  refine (with_nil _ _ _ _ rfl _).mono ?_
  rintro e w1 ⟨rfl, hG⟩
  have c0 := (hG.blk ((Blk.new w 3 #[.int .i64 0] _ rfl).alloc _) (fun f => f)).cell 0
  simp at c0
  go_wp2
  go_ret2
  exact ⟨rfl, (Gr.a2 _ _ _).next hG⟩
theorem ids_nil (w : World) : Calls Try.prog 14 #[.pointer none] w fun e w' => e = .returned (.slice none 0 0) ∧ Same w w' := by
  go_enter Try.func14, Try.ntmps14
  go_wp2
  go_ret
  exact ⟨rfl, Gr.refl _ _⟩
end Go.Proofs
