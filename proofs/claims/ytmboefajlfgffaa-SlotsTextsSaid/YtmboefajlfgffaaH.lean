/- The slots' functions, each by one equation; shown. -/
import Derived.Test.YtmboefajlfgffaaP
import Derived.Test.YtmboefajlfgffaaG
import Derived.Test.YtmboefajlfgffaaSB
set_option linter.unusedVariables false
set_option linter.unusedSimpArgs false
namespace Go.Proofs
open Go.RowKit Go.Shelf

theorem World.size_setCell (w : World) (a : Addr) (v : Value) : (w.setCell a v).heap.size = w.heap.size := by simp [World.setCell]
def strOf : Value → ByteArray | .string s => s | _ => ByteArray.empty
abbrev SVals' (S : St) : Prop := S.all Val1
abbrev Str.SVals' (S : St) : Prop := S.all Str.Val1

theorem add_f (b : Nat) (S : St) (hS : S.ok) (v : Int) (w : World) (hb : Sl 58 w b S) : Calls Try.prog 11 #[.pointer (some ⟨b, 0, none⟩), .int .i64 v] w fun e w' =>
    e = .returned (.tuple #[.int .i64 S.addId, .int .i64 S.addE]) ∧ Gr w w' (fun k => k = b) ∧ Sl 58 w' b (S.addS (.int .i64 v)) := (add_any b S hS v w hb).mono fun _ _ h => add_fun hb h
def getI (S : St) (id : Int) : Int := intOf (S.getV id (.int .i64 0))
theorem getI_eq {S : St} (hV : SVals' S) (id : Int) : S.getV id (.int .i64 0) = .int .i64 (getI S id) := by
  have : Val1 (S.getV id (.int .i64 0)) := all_getV (Q := Val1) hV id ⟨_, rfl⟩
  obtain ⟨n, hn⟩ := this
  unfold getI
  rw [hn]
  rfl
theorem get_f (b : Nat) (S : St) (hS : S.ok) (hV : SVals' S) (id : Int) (w : World) (hb : Sl 58 w b S) : Calls Try.prog 13 #[.pointer (some ⟨b, 0, none⟩), .int .i64 id] w fun e w' =>
    e = .returned (.tuple #[.int .i64 (getI S id), .int .i64 (S.getE id)]) ∧ Same w w' := (get_any b S hS hV id w hb).mono fun _ _ h => by rw [← getI_eq hV]; exact get_fun h
theorem set_f (b : Nat) (S : St) (hS : S.ok) (hV : SVals' S) (id : Int) (v : Int) (w : World) (hb : Sl 58 w b S) : Calls Try.prog 19 #[.pointer (some ⟨b, 0, none⟩), .int .i64 id, .int .i64 v] w fun e w' =>
    e = .returned (.int .i64 (S.getE id)) ∧ Gr w w' (fun k => k = b) ∧ Sl 58 w' b (S.setS' id (.int .i64 v)) := (set_any b S hS hV id v w hb).mono fun _ _ h => set_fun hb h
theorem remove_f (b : Nat) (S : St) (hS : S.ok) (hV : SVals' S) (id : Int) (w : World) (hb : Sl 58 w b S) : Calls Try.prog 12 #[.pointer (some ⟨b, 0, none⟩), .int .i64 id] w fun e w' =>
    e = .returned (.tuple #[.int .i64 (getI S id), .int .i64 (S.getE id)]) ∧ Gr w w' (fun k => k = b) ∧ Sl 58 w' b (S.rmS id (.int .i64 0)) := (remove_any b S hS hV id w hb).mono fun _ _ h => by rw [← getI_eq hV]; exact remove_fun hb h

theorem Str.add_f (b : Nat) (S : St) (hS : S.ok) (v : ByteArray) (w : World) (hb : Sl 70 w b S) : Calls Try.prog 24 #[.pointer (some ⟨b, 0, none⟩), .string v] w fun e w' =>
    e = .returned (.tuple #[.int .i64 S.addId, .int .i64 S.addE]) ∧ Gr w w' (fun k => k = b) ∧ Sl 70 w' b (S.addS (.string v)) := (Str.add_any b S hS v w hb).mono fun _ _ h => add_fun hb h
def Str.getI (S : St) (id : Int) : ByteArray := strOf (S.getV id (.string ByteArray.empty))
theorem Str.getI_eq {S : St} (hV : Str.SVals' S) (id : Int) : S.getV id (.string ByteArray.empty) = .string (Str.getI S id) := by
  have : Str.Val1 (S.getV id (.string ByteArray.empty)) := all_getV (Q := Str.Val1) hV id ⟨_, rfl⟩
  obtain ⟨n, hn⟩ := this
  unfold Str.getI
  rw [hn]
  rfl
theorem Str.get_f (b : Nat) (S : St) (hS : S.ok) (hV : Str.SVals' S) (id : Int) (w : World) (hb : Sl 70 w b S) : Calls Try.prog 26 #[.pointer (some ⟨b, 0, none⟩), .int .i64 id] w fun e w' =>
    e = .returned (.tuple #[.string (Str.getI S id), .int .i64 (S.getE id)]) ∧ Same w w' := (Str.get_any b S hS hV id w hb).mono fun _ _ h => by rw [← Str.getI_eq hV]; exact get_fun h
theorem Str.set_f (b : Nat) (S : St) (hS : S.ok) (hV : Str.SVals' S) (id : Int) (v : ByteArray) (w : World) (hb : Sl 70 w b S) : Calls Try.prog 25 #[.pointer (some ⟨b, 0, none⟩), .int .i64 id, .string v] w fun e w' =>
    e = .returned (.int .i64 (S.getE id)) ∧ Gr w w' (fun k => k = b) ∧ Sl 70 w' b (S.setS' id (.string v)) := (Str.set_any b S hS hV id v w hb).mono fun _ _ h => set_fun hb h
theorem Str.remove_f (b : Nat) (S : St) (hS : S.ok) (hV : Str.SVals' S) (id : Int) (w : World) (hb : Sl 70 w b S) : Calls Try.prog 27 #[.pointer (some ⟨b, 0, none⟩), .int .i64 id] w fun e w' =>
    e = .returned (.tuple #[.string (Str.getI S id), .int .i64 (S.getE id)]) ∧ Gr w w' (fun k => k = b) ∧ Sl 70 w' b (S.rmS id (.string ByteArray.empty)) := (Str.remove_any b S hS hV id w hb).mono fun _ _ h => by rw [← Str.getI_eq hV]; exact remove_fun hb h

theorem Gr.nextX {a b c : World} {X : Nat → Prop} (h1 : Gr a b (fun _ => False)) (h2 : Gr b c X) : Gr a c X := (h1.mono (fun _ _ f => f.elim)).trans h2 (fun _ _ h => h)

def sA : ByteArray := ⟨#[97]⟩
def sB : ByteArray := ⟨#[98]⟩
def sC : ByteArray := ⟨#[99]⟩
def Z0 : St := St.zero (.string ByteArray.empty)
def Z1 : St := Z0.addS (.string sA)
def Z2 : St := Z1.addS (.string sB)
def Z3 : St := Z2.rmS 0 (.string ByteArray.empty)
def Z4 : St := Z3.addS (.string sC)
theorem zv0 : Str.SVals' Z0 := all_zero ⟨_, rfl⟩
theorem zv1 : Str.SVals' Z1 := all_addS zv0 ⟨_, rfl⟩
theorem zv2 : Str.SVals' Z2 := all_addS zv1 ⟨_, rfl⟩
theorem zv3 : Str.SVals' Z3 := all_rmS zv2 _ ⟨_, rfl⟩
theorem zv4 : Str.SVals' Z4 := all_addS zv3 ⟨_, rfl⟩
theorem zo0 : Z0.ok := ok_zero _
theorem zo1 : Z1.ok := ok_addS zo0 _
theorem zo2 : Z2.ok := ok_addS zo1 _
theorem zo3 : Z3.ok := ok_rmS zo2 _ _
theorem zo4 : Z4.ok := ok_addS zo3 _
theorem ze : Z0.addId = 0 ∧ Z0.addE = 0 ∧ Z1.addId = 1 ∧ Z1.addE = 0 ∧ Z2.getE 0 = 0 ∧ Z3.addId = 8 ∧ Z3.addE = 0 ∧ Z4.getE 0 = 100 := by decide +kernel
theorem zs : Str.getI Z2 0 = sA := by decide +kernel

set_option maxHeartbeats 1000000 in
theorem shown_s (w : World) : Calls Try.prog 9 #[] w fun e w' => e = .returned (.bool true) ∧ Same w w' := by
  obtain ⟨a0, a1, a2, a3, a4, a5, a6, a7⟩ := ze
  have a8 := zs
  have a9 : sA.toList = [97] := by decide +kernel
  go_enter Try.func9, Try.ntmps9
  go_wp2_with fail
  refine (Str.new_any _).mono ?_
  rintro e w1 ⟨rfl, hG1, hB1⟩
  go_wp2_with fail
  refine (Str.add_f _ Z0 zo0 sA _ hB1).mono ?_
  rintro e w2 ⟨rfl, hG2, hB2⟩
  go_wp2_with fail
  refine (Str.add_f _ Z1 zo1 sB _ hB2).mono ?_
  rintro e w3 ⟨rfl, hG3, hB3⟩
  go_wp2_with fail
  refine (Str.remove_f _ Z2 zo2 zv2 0 _ hB3).mono ?_
  rintro e w4 ⟨rfl, hG4, hB4⟩
  go_wp2_with fail
  refine (Str.add_f _ Z3 zo3 sC _ hB4).mono ?_
  rintro e w5 ⟨rfl, hG5, hB5⟩
  go_wp2_with fail
  refine (Str.get_f _ Z4 zo4 zv4 0 _ hB5).mono ?_
  rintro e w6 ⟨rfl, hG6⟩
  go_wp2
  go_ret
  refine ⟨rfl, ?_⟩
  exact ((((((hG1.mono (fun _ _ f => f.elim)).trans hG2 (fun _ _ h => h)).trans hG3 (fun _ _ h => h)).trans hG4 (fun _ _ h => h)).trans hG5 (fun _ _ h => h)).trans (Y := fun _ => False) hG6 (fun _ _ f => f.elim)).mono (fun j hj h => by omega)
end Go.Proofs
