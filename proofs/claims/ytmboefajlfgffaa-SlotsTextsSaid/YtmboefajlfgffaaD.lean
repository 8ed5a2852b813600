/- The closures of Get, Set, Remove. -/
import Derived.Test.YtmboefajlfgffaaB
import Derived.RegionTactic
import Derived.ChangeAlike
set_option linter.unusedVariables false
set_option linter.unusedSimpArgs false
namespace Go.Proofs
open Go.RowKit Go.Shelf
attribute [local go_sem] Oper.semAt_some

def Val1 (v : Value) : Prop := ∃ n : Int, v = .int .i64 n
def St.vals (S : St) : Prop := ∀ i, i < 8 → Val1 (S.vv i)
def zeroV : Value := .int .i64 0

theorem get1_any (b i Bo : Nat) (S : St) (o : Value) (w : World) (hi : i < 8) (hV : S.vals) (hb : Sl 58 w b S) (ho : Blk w Bo 3 #[o]) (hne : Bo ≠ b) :
    Calls Try.prog 33 #[.pointer (some ⟨b, i * 3, none⟩), .pointer (some ⟨Bo, 0, none⟩)] w fun e w' => e = .returned (.tuple #[]) ∧ Gr w w' (fun k => k = Bo) ∧ Blk w' Bo 3 #[S.vv i] := by
  obtain ⟨n, hn⟩ := hV i hi
  have c := (Blk.cell hb (i * 3 + 1)).trans (cells_vv S i hi)
  rw [hn] at c ⊢
  have c0 := ho.cell 0
  have f0 := ho.frozen 0
  simp at c0
  have HO := Lib.hid ho
  clear ho hb hn
  go_enter Try.func33, Try.ntmps33
  go_wp2
  go_end0
  exact ⟨rfl, (Gr.refl _ _).set1 0 _, by simpa using HO.out.set_ 0 (.int .i64 n)⟩

theorem set1_any (b i Bo : Nat) (S : St) (n : Int) (w : World) (hi : i < 8) (hb : Sl 58 w b S) (ho : Blk w Bo 3 #[.int .i64 n]) :
    Calls Try.prog 36 #[.pointer (some ⟨b, i * 3, none⟩), .pointer (some ⟨Bo, 0, none⟩)] w fun e w' => e = .returned (.tuple #[]) ∧ Gr w w' (fun k => k = b) ∧ Sl 58 w' b (S.setV i (.int .i64 n)) := by
  have c := (Blk.cell hb (i * 3 + 1)).trans (cells_vv S i hi)
  have f := Blk.frozen hb (i * 3 + 1)
  have c0 := ho.cell 0
  simp at c0
  have HB := Lib.hid hb
  clear ho hb
  go_enter Try.func36, Try.ntmps36
  go_wp2
  go_end0
  refine ⟨rfl, (Gr.refl _ _).set1 _ _, ?_⟩
  have h := Blk.set_ HB.out (i * 3 + 1) (.int .i64 n)
  rw [cells_setV _ _ _ hi] at h
  exact h

theorem next_any (b i : Nat) (S : St) (w : World) (hi : i < 8) (hS : S.ok) (T : TypeId) (hb : Sl T w b S) :
    Calls Try.prog 32 #[.pointer (some ⟨b, i * 3, none⟩)] w fun e w' => e = .returned (.tuple #[]) ∧ Gr w w' (fun k => k = b) ∧ Sl T w' b (S.setS i ((S.sq i + 1) % 4096)) := by
  have c := (Blk.cell hb (i * 3)).trans (cells_sq S i hi)
  have f := Blk.frozen hb (i * 3)
  obtain ⟨q0, q1⟩ := hS i hi
  have HB := Lib.hid hb
  clear hb
  generalize hq : S.sq i = q at *
  have HQ := Lib.hid hq
  clear hq
  go_enter Try.func32, Try.ntmps32
  go_wp2
  go_end0
  refine ⟨rfl, (Gr.refl _ _).set1 _ _, ?_⟩
  have h := Blk.set_ HB.out (i * 3) (.int .i64 ((q + 1) % 4096))
  rw [cells_setS _ _ _ hi] at h
  exact h

def St.rm (S : St) (i : Nat) (z : Value) : St := ((S.setV i z).setH i false).setS i ((S.sq i + 1) % 4096)

theorem remove1_any (b i Bo Bz : Nat) (S : St) (o : Value) (w : World) (hi : i < 8) (hS : S.ok) (hV : S.vals) (hb : Sl 58 w b S) (ho : Blk w Bo 3 #[o]) (hz : Blk w Bz 3 #[.int .i64 0]) (hne : Bo ≠ b) (hne2 : Bo ≠ Bz) (hne3 : Bz ≠ b) :
    Calls Try.prog 31 #[.pointer (some ⟨b, i * 3, none⟩), .pointer (some ⟨Bz, 0, none⟩), .pointer (some ⟨Bo, 0, none⟩)] w fun e w' => e = .returned (.tuple #[]) ∧ Gr w w' (fun k => k = b ∨ k = Bo) ∧ Blk w' Bo 3 #[S.vv i] ∧ Sl 58 w' b (S.rm i (.int .i64 0)) := by
  obtain ⟨n, hn⟩ := hV i hi
  have c := (Blk.cell hb (i * 3 + 1)).trans (cells_vv S i hi)
  have c2 := (Blk.cell hb (i * 3 + 2)).trans (cells_hd S i hi)
  have f1 := Blk.frozen hb (i * 3 + 1)
  have f2 := Blk.frozen hb (i * 3 + 2)
  rw [hn] at c ⊢
  have c0 := ho.cell 0
  have z0 := hz.cell 0
  have f0 := ho.frozen 0
  simp at c0 z0
  have HO := Lib.hid ho
  have HB := Lib.hid hb
  have HN := Lib.hid hn
  clear ho hb hn hz
  go_enter Try.func31, Try.ntmps31
  go_wp2
  go_region
  have hok : St.ok ((S.setV i (.int .i64 0)).setH i false) := hS
  have hB1 : Sl 58 (((w.setCell ⟨Bo, 0, none⟩ (.int .i64 n)).setCell ⟨b, i * 3 + 1, none⟩ (.int .i64 0)).setCell ⟨b, i * 3 + 2, none⟩ (.bool false)).drew b ((S.setV i (.int .i64 0)).setH i false) := by
    have h := ((Blk.far HB.out (p := ⟨Bo, 0, none⟩) (by dsimp only; omega) (.int .i64 n)).set_ (i * 3 + 1) (.int .i64 0)).set_ (i * 3 + 2) (.bool false)
    rw [cells_setV _ _ _ hi, cells_setH _ _ _ hi] at h
    exact h
  have hO1 : Blk (((w.setCell ⟨Bo, 0, none⟩ (.int .i64 n)).setCell ⟨b, i * 3 + 1, none⟩ (.int .i64 0)).setCell ⟨b, i * 3 + 2, none⟩ (.bool false)).drew Bo 3 #[.int .i64 n] := by
    have h := ((HO.out.set_ 0 (.int .i64 n)).far (p := ⟨b, i * 3 + 1, none⟩) hne (.int .i64 0)).far (p := ⟨b, i * 3 + 2, none⟩) hne (.bool false)
    rw [show (#[o] : Array Value).setIfInBounds 0 (.int .i64 n) = #[.int .i64 n] from by simp] at h
    exact h
  have hG1 : Gr w (((w.setCell ⟨Bo, 0, none⟩ (.int .i64 n)).setCell ⟨b, i * 3 + 1, none⟩ (.int .i64 0)).setCell ⟨b, i * 3 + 2, none⟩ (.bool false)).drew (fun k => k = b ∨ k = Bo) :=
    (((Gr.refl w (fun k => k = b ∨ k = Bo)).setCell (p := ⟨Bo, 0, none⟩) (.inl (.inr rfl)) _).setCell (p := ⟨b, i * 3 + 1, none⟩) (.inl (.inl rfl)) _).setCell (p := ⟨b, i * 3 + 2, none⟩) (.inl (.inl rfl)) _
  go_wp2_with fail
  refine (next_any _ _ _ _ hi hok 58 hB1).mono ?_
  rintro e w1 ⟨rfl, hG2, hB2⟩
  go_wp2
  go_end0
  exact ⟨rfl, hG1.trans hG2 (fun j _ h => .inl h), hG2.blk hO1 hne, hB2⟩
end Go.Proofs
