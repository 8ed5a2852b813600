/- Pipes: the reference's methods. -/
import Derived.Test.YtdonlpldbdooaaaDoorFa
set_option linter.unusedVariables false
set_option linter.unusedSimpArgs false
namespace Go.Proofs
open Go.RowKit Go.Shelf
attribute [local go_sem] Oper.semAt_some
variable {aW aB : Addr}

/-- The reference's pipe. -/
def RP (w : World) (b : Nat) (L : List UInt8) (R W : Int) : Prop := Blk w b 44 #[.string ⟨L.toArray⟩, .int .i64 R, .int .i64 W]
section
variable {w : World} {b : Nat} {L : List UInt8} {R W : Int}
theorem RP.c0 (h : RP w b L R W) : w.cell? ⟨b, 0, none⟩ = some (.string ⟨L.toArray⟩) := by simpa using Blk.cell h 0
theorem RP.c1 (h : RP w b L R W) : w.cell? ⟨b, 1, none⟩ = some (.int .i64 R) := by simpa using Blk.cell h 1
theorem RP.c2 (h : RP w b L R W) : w.cell? ⟨b, 2, none⟩ = some (.int .i64 W) := by simpa using Blk.cell h 2
theorem RP.f (h : RP w b L R W) (i : Nat) : w.frozen? ⟨b, i, none⟩ = false := Blk.frozen h i
theorem RP.set1 (h : RP w b L R W) (R' : Int) : RP (w.setCell ⟨b, 1, none⟩ (.int .i64 R')) b L R' W := by simpa [RP] using Blk.set_ h 1 (.int .i64 R')
theorem RP.set2 (h : RP w b L R W) (W' : Int) : RP (w.setCell ⟨b, 2, none⟩ (.int .i64 W')) b L R W' := by simpa [RP] using Blk.set_ h 2 (.int .i64 W')
theorem RP.set0 (h : RP w b L R W) (s : ByteArray) (L' : List UInt8) (hs : s.data.toList = L') : RP (w.setCell ⟨b, 0, none⟩ (.string s)) b L' R W := by
  have e : s = ⟨L'.toArray⟩ := bax (by rw [hs])
  subst e
  simpa [RP] using Blk.set_ h 0 (.string ⟨L'.toArray⟩)
end

theorem ret_str2 {a b : ByteArray} {x : Int} (h : a.data.toList = b.data.toList) : Ending.returned (.tuple #[.string a, .int .i64 x]) = .returned (.tuple #[.string b, .int .i64 x]) := by rw [bax h]
theorem mk_empty {L : List UInt8} (h : L = []) : L.isEmpty = true := by subst h; rfl
theorem mk_nonempty {L : List UInt8} (h : L ≠ []) : L.isEmpty = false := by
  cases L with
  | nil => exact absurd rfl h
  | cons a l => rfl

theorem ex1 (L : List UInt8) (m : Nat) : ((ByteArray.mk L.toArray).extract 0 m).data.toList = (ByteArray.mk (L.take m).toArray).data.toList := by rw [Lib.extract_data]; simp
theorem ex1' (L : List UInt8) (m : Nat) (h : (L.length : Int) < m) : ((ByteArray.mk L.toArray).extract 0 L.length).data.toList = (ByteArray.mk (L.take m).toArray).data.toList := by rw [ex1, List.take_length, List.take_of_length_le (by omega)]
theorem ex2 (L : List UInt8) (m : Nat) : ((ByteArray.mk L.toArray).extract m L.length).data.toList = L.drop m := by rw [Lib.extract_data]; exact List.take_of_length_le (by simp)
theorem ex2' (L : List UInt8) (m : Nat) (h : (L.length : Int) < m) : ByteArray.empty.data.toList = L.drop m := by rw [List.drop_eq_nil_of_le (by omega)]; rfl
set_option maxHeartbeats 1000000 in
theorem rread_any (b : Nat) (L : List UInt8) (R W n : Int) (w : World) (h : RP w b L R W) (hL : L.length ≤ 32) (hW : 0 ≤ W ∧ W ≤ 100) : Calls Tryd.prog 20 #[.pointer (some ⟨b, 0, none⟩), .int .i64 n] w fun e w' =>
    e = .returned (.tuple #[.string ⟨(rdS L W n).toArray⟩, .int .i64 (rdE L W n)]) ∧ RP w' b (rdL L W n) R W ∧ Gr w w' (fun j => j = b) := by
  have c0 := h.c0
  have c2 := h.c2
  have f0 := h.f 0
  rcases (show n < 0 ∨ 0 ≤ n by omega) with hn | hn
  · have e1 : rdS L W n = [] := by unfold rdS; rw [if_pos (.inl hn)]
    have e2 : rdE L W n = 2 := by unfold rdE; rw [if_pos hn]
    have e3 : rdL L W n = L := by unfold rdL; rw [if_pos (.inl hn)]
    rw [e1, e2, e3]
    clear e1 e2 e3
    go_enter Tryd.func20, Tryd.ntmps20
    go_wp2
    go_ret2
    exact ⟨rfl, h, Gr.refl _ _⟩
  · obtain ⟨m, rfl⟩ : ∃ m : Nat, n = m := ⟨n.toNat, by omega⟩
    have hsz : (ByteArray.mk L.toArray).size = L.length := by rw [Lib.size_eq]
    by_cases hw : 0 < m ∧ L = [] ∧ 0 < W
    · obtain ⟨h1, h2, h3⟩ := hw
      have hwt : rdW L W m = true := by unfold rdW canR; subst h2; simp; omega
      have e1 : rdS L W m = [] := by unfold rdS; rw [if_pos (.inr hwt)]
      have e2 : rdE L W m = 63 := by unfold rdE; rw [if_neg (by omega), if_pos hwt]
      have e3 : rdL L W m = L := by unfold rdL; rw [if_pos (.inr hwt)]
      have hem := mk_empty h2
      rw [e1, e2, e3]
      clear e1 e2 e3 hwt h2
      go_enter Tryd.func20, Tryd.ntmps20
      go_wp2
      go_ret2
      exact ⟨rfl, h, Gr.refl _ _⟩
    · have hwt : rdW L W m = false := by
        unfold rdW canR
        by_cases h1 : 0 < m
        · by_cases h2 : L = []
          · have h3 : ¬ 0 < W := fun h3 => hw ⟨h1, h2, h3⟩
            obtain rfl : W = 0 := by omega
            simp
          · have : 0 < L.length := List.length_pos_iff.2 h2
            simp [this]
        · obtain rfl : m = 0 := by omega
          simp
      have hno : ¬ ((m : Int) < 0 ∨ rdW L W m = true) := by rw [hwt]; simp
      have e1 : rdS L W m = L.take m := by unfold rdS; rw [if_neg hno]; simp
      have e2 : rdE L W m = 0 := by unfold rdE; rw [if_neg (by omega), hwt]; rfl
      have e3 : rdL L W m = L.drop m := by unfold rdL; rw [if_neg hno]; simp
      rw [e1, e2, e3]
      clear e1 e2 e3 hwt hno
      rcases (show (m : Int) ≤ L.length ∨ (L.length : Int) < m by omega) with hm | hm
      all_goals
        by_cases h1 : 0 < m
        · by_cases h2 : L = []
          · have h4 : ¬ 0 < W := fun h3 => hw ⟨h1, h2, h3⟩
            obtain rfl : W = 0 := by omega
            have hem := mk_empty h2
            clear hw
            have H2 := Lib.hid h2
            clear h2
            go_enter Tryd.func20, Tryd.ntmps20
            go_wp2
            go_ret2
            exact ⟨ret_str2 (by first | exact ex1 _ _ | exact ex1' _ _ (by assumption) | rfl), h.set0 _ _ (by first | exact ex2 _ _ | exact ex2' _ _ (by assumption)), (Gr.refl _ _).set1 _ _⟩
          · have hem := mk_nonempty h2
            clear hw
            go_enter Tryd.func20, Tryd.ntmps20
            go_wp2
            go_ret2
            exact ⟨ret_str2 (by first | exact ex1 _ _ | exact ex1' _ _ (by assumption) | rfl), h.set0 _ _ (by first | exact ex2 _ _ | exact ex2' _ _ (by assumption)), (Gr.refl _ _).set1 _ _⟩
        · obtain rfl : m = 0 := by omega
          clear hw
          first | (exfalso; omega) | (go_enter Tryd.func20, Tryd.ntmps20; go_wp2; go_ret2; exact ⟨ret_str2 (by first | exact ex1 _ _ | exact ex1' _ _ (by assumption) | rfl), h.set0 _ _ (by first | exact ex2 _ _ | exact ex2' _ _ (by assumption)), (Gr.refl _ _).set1 _ _⟩)
set_option maxHeartbeats 1000000 in
theorem rwrite_any (b : Nat) (L : List UInt8) (R W : Int) (s : ByteArray) (w : World) (h : RP w b L R W) (hL : L.length ≤ 32) (hR : 0 ≤ R ∧ R ≤ 100) (hs : s.size ≤ 50) : Calls Tryd.prog 21 #[.pointer (some ⟨b, 0, none⟩), .string s] w fun e w' =>
    e = .returned (.tuple #[.int .i64 (wrN L R s.data.toList : Int), .int .i64 (wrE L R s.data.toList)]) ∧ RP w' b (wrL L R s.data.toList) R W ∧ Gr w w' (fun j => j = b) := by
  have c0 := h.c0
  have c1 := h.c1
  have f0 := h.f 0
  have hsz : (ByteArray.mk L.toArray).size = L.length := by rw [Lib.size_eq]
  have hsl := Lib.size_eq s
  by_cases hR0 : R = 0
  · subst hR0
    have e1 : wrN L 0 s.data.toList = 0 := rfl
    have e2 : wrE L 0 s.data.toList = 90 := rfl
    have e3 : wrL L 0 s.data.toList = L := by unfold wrL; rw [e1]; simp
    rw [e1, e2, e3]
    clear e1 e2 e3
    go_enter Tryd.func21, Tryd.ntmps21
    go_wp2
    go_ret2
    exact ⟨rfl, h, Gr.refl _ _⟩
  · have hR' : (R == 0) = false := by simp; omega
    have e1 : wrN L R s.data.toList = min s.size (32 - L.length) := by unfold wrN; rw [if_neg hR0, hsl]
    have e2 : wrE L R s.data.toList = if s.size ≠ 0 ∧ L.length = 32 then 63 else 0 := by unfold wrE; rw [if_neg hR0, hsl]
    unfold wrL
    rw [e1, e2]
    clear e1 e2 hsl
    by_cases h0 : s.size = 0
    · have hs0 : s = ByteArray.empty := bax (by have := Lib.size_eq s; rw [h0] at this; exact List.eq_nil_of_length_eq_zero this.symm)
      subst hs0
      have m0 : min (ByteArray.empty.size) (32 - L.length) = 0 := by rw [h0]; omega
      rw [m0]
      have i0 : (if ByteArray.empty.size ≠ 0 ∧ L.length = 32 then (63 : Int) else 0) = 0 := by rw [if_neg (by rw [h0]; simp)]
      rw [i0]
      clear m0 i0
      have hlt : (0 : Int) ≤ 32 - L.length := by omega
      go_enter Tryd.func21, Tryd.ntmps21
      go_wp2
      go_region
      go_wp2
      go_ret2
      exact ⟨rfl, Blk.drew (h.set0 _ _ (by simp)), ((Gr.refl _ _).set1 _ _).drew⟩
    · have hne : s.toList.isEmpty = false := by
        rw [Lib.toList_data]
        cases hc : s.data.toList with
        | nil => exact absurd (by rw [Lib.size_eq, hc]; rfl) h0
        | cons a l => rfl
      by_cases hl : L.length = 32
      · have m0 : min s.size (32 - L.length) = 0 := by omega
        rw [m0, if_pos ⟨h0, hl⟩]
        clear m0
        have HL := Lib.hid hl
        have hz : (32 : Int) - L.length = 0 := by omega
        clear hl
        go_enter Tryd.func21, Tryd.ntmps21
        go_wp2
        go_ret2
        exact ⟨rfl, by simpa using h, Gr.refl _ _⟩
      · rw [if_neg (fun h => hl h.2)]
        rcases (show (s.size : Int) ≤ 32 - L.length ∨ (32 : Int) - L.length < s.size by omega) with hm | hm
        · have m0 : min s.size (32 - L.length) = s.size := by omega
          rw [m0]
          clear m0
          go_enter Tryd.func21, Tryd.ntmps21
          go_wp2
          go_region
          go_wp2
          go_ret2
          exact ⟨rfl, Blk.drew (h.set0 _ _ (by first | (rw [ba_append, Lib.extract_data]; simp; done) | (rw [ba_append, Lib.size_eq, List.take_length]))), ((Gr.refl _ _).set1 _ _).drew⟩
        · have m0 : min s.size (32 - L.length) = 32 - L.length := by omega
          rw [m0]
          clear m0
          go_enter Tryd.func21, Tryd.ntmps21
          go_wp2
          go_region
          go_wp2
          go_ret2
          exact ⟨by rw [show ((32 - L.length : Nat) : Int) = 32 - (L.length : Int) by omega]; rfl, Blk.drew (h.set0 _ _ (by first | (rw [ba_append, Lib.extract_data]; simp; done) | (rw [ba_append, Lib.size_eq, List.take_length]))), ((Gr.refl _ _).set1 _ _).drew⟩
theorem ropen_any (b : Nat) (L : List UInt8) (R W k : Int) (w : World) (h : RP w b L R W) (hR : 0 ≤ R ∧ R ≤ 100) (hW : 0 ≤ W ∧ W ≤ 100) : Calls Tryd.prog 22 #[.pointer (some ⟨b, 0, none⟩), .int .i64 k] w fun e w' =>
    e = .returned (.int .i64 (opE R W k)) ∧ RP w' b L (opR R k) (opW W k) ∧ Gr w w' (fun j => j = b) := by
  have c1 := h.c1
  have c2 := h.c2
  have f1 := h.f 1
  have f2 := h.f 2
  unfold opE opR opW opOk
  by_cases h1 : k = 1
  · subst h1
    rcases (show R < 100 ∨ 100 ≤ R by omega) with hR' | hR'
    · have e1 : (if (decide ((1 : Int) = 1) && decide (R < 100) || decide ((1 : Int) = 2) && decide (W < 100)) = true then (0 : Int) else 2) = 0 := by simp [hR']
      have e2 : (if (1 : Int) = 1 ∧ R < 100 then R + 1 else R) = R + 1 := by simp [hR']
      have e3 : (if (1 : Int) = 2 ∧ W < 100 then W + 1 else W) = W := by simp
      rw [e1, e2, e3]
      clear e1 e2 e3
      go_enter Tryd.func22, Tryd.ntmps22
      go_wp2
      go_ret
      exact ⟨rfl, h.set1 _, (Gr.refl _ _).set1 _ _⟩
    · have e1 : (if (decide ((1 : Int) = 1) && decide (R < 100) || decide ((1 : Int) = 2) && decide (W < 100)) = true then (0 : Int) else 2) = 2 := by simp; omega
      have e2 : (if (1 : Int) = 1 ∧ R < 100 then R + 1 else R) = R := by simp; omega
      have e3 : (if (1 : Int) = 2 ∧ W < 100 then W + 1 else W) = W := by simp
      rw [e1, e2, e3]
      clear e1 e2 e3
      go_enter Tryd.func22, Tryd.ntmps22
      go_wp2
      go_ret
      exact ⟨rfl, h, Gr.refl _ _⟩
  · by_cases h2 : k = 2
    · subst h2
      rcases (show W < 100 ∨ 100 ≤ W by omega) with hR' | hR'
      · have e1 : (if (decide ((2 : Int) = 1) && decide (R < 100) || decide ((2 : Int) = 2) && decide (W < 100)) = true then (0 : Int) else 2) = 0 := by simp [hR']
        have e2 : (if (2 : Int) = 1 ∧ R < 100 then R + 1 else R) = R := by simp
        have e3 : (if (2 : Int) = 2 ∧ W < 100 then W + 1 else W) = W + 1 := by simp [hR']
        rw [e1, e2, e3]
        clear e1 e2 e3
        go_enter Tryd.func22, Tryd.ntmps22
        go_wp2
        go_ret
        exact ⟨rfl, h.set2 _, (Gr.refl _ _).set1 _ _⟩
      · have e1 : (if (decide ((2 : Int) = 1) && decide (R < 100) || decide ((2 : Int) = 2) && decide (W < 100)) = true then (0 : Int) else 2) = 2 := by simp; omega
        have e2 : (if (2 : Int) = 1 ∧ R < 100 then R + 1 else R) = R := by simp
        have e3 : (if (2 : Int) = 2 ∧ W < 100 then W + 1 else W) = W := by simp; omega
        rw [e1, e2, e3]
        clear e1 e2 e3
        go_enter Tryd.func22, Tryd.ntmps22
        go_wp2
        go_ret
        exact ⟨rfl, h, Gr.refl _ _⟩
    · have e1 : (if (decide (k = 1) && decide (R < 100) || decide (k = 2) && decide (W < 100)) = true then (0 : Int) else 2) = 2 := by simp [h1, h2]
      have e2 : (if k = 1 ∧ R < 100 then R + 1 else R) = R := by simp [h1]
      have e3 : (if k = 2 ∧ W < 100 then W + 1 else W) = W := by simp [h2]
      have k1 : (k == 1) = false := by simp [h1]
      have k2 : (k == 2) = false := by simp [h2]
      rw [e1, e2, e3]
      clear e1 e2 e3
      go_enter Tryd.func22, Tryd.ntmps22
      go_wp2
      go_ret
      exact ⟨rfl, h, Gr.refl _ _⟩
set_option maxHeartbeats 1000000 in
theorem rclose_any (b : Nat) (L : List UInt8) (R W k : Int) (w : World) (h : RP w b L R W) (hR : 0 ≤ R ∧ R ≤ 100) (hW : 0 ≤ W ∧ W ≤ 100) : Calls Tryd.prog 23 #[.pointer (some ⟨b, 0, none⟩), .int .i64 k] w fun e w' =>
    e = .returned (.tuple #[.bool (clG R W k), .int .i64 (clE R W k)]) ∧ RP w' b L (clR R k) (clW W k) ∧ Gr w w' (fun j => j = b) := by
  have c1 := h.c1
  have c2 := h.c2
  have f1 := h.f 1
  have f2 := h.f 2
  by_cases h1 : k = 1
  · subst h1
    rcases (show 0 < R ∨ R = 0 by omega) with hx | hx
    · have o1 : clOk R W 1 = true := by unfold clOk; simp [hx]
      have e1 : clE R W 1 = 0 := by unfold clE; rw [o1]; rfl
      have e2 : clR R 1 = R - 1 := by unfold clR; simp [hx]
      have e3 : clW W 1 = W := by unfold clW; simp
      rcases (show R - 1 + W = 0 ∨ R - 1 + W ≠ 0 by omega) with hz | hz
      · obtain rfl : R = 1 := by omega
        obtain rfl : W = 0 := by omega
        rw [show clG 1 0 1 = true from rfl, e1, e2, e3]
        have s2 := (h.set1 0).drew
        have c1' := RP.c1 (show RP _ b L _ _ from h.set1 0)
        have c2' := RP.c2 (show RP _ b L _ _ from h.set1 0)
        clear o1 e1 e2 e3 hz
        go_enter Tryd.func23, Tryd.ntmps23
        go_wp2
        go_region
        go_wp2
        go_ret2
        exact ⟨rfl, h.set1 0, ((Gr.refl _ _).set1 _ _).drew⟩
      · have o2 : clG R W 1 = false := by unfold clG; rw [o1, e2, e3]; simp; omega
        rw [o2, e1, e2, e3]
        have hz' : (R - 1 + W == 0) = false := by simp; omega
        have c1' := RP.c1 (show RP _ b L _ _ from h.set1 (R - 1))
        have c2' := RP.c2 (show RP _ b L _ _ from h.set1 (R - 1))
        clear o1 o2 e1 e2 e3 hz
        go_enter Tryd.func23, Tryd.ntmps23
        go_wp2
        go_region
        go_wp2
        go_ret2
        exact ⟨rfl, h.set1 _, ((Gr.refl _ _).set1 _ _).drew⟩
    · subst hx
      rw [show clG 0 W 1 = false by unfold clG clOk; simp, show clE 0 W 1 = 2 by unfold clE clOk; simp, show clR 0 1 = 0 by unfold clR; simp, show clW W 1 = W by unfold clW; simp]
      go_enter Tryd.func23, Tryd.ntmps23
      go_wp2
      go_ret2
      exact ⟨rfl, h, Gr.refl _ _⟩
  · by_cases h2 : k = 2
    · subst h2
      rcases (show 0 < W ∨ W = 0 by omega) with hx | hx
      · have o1 : clOk R W 2 = true := by unfold clOk; simp [hx]
        have e1 : clE R W 2 = 0 := by unfold clE; rw [o1]; rfl
        have e2 : clR R 2 = R := by unfold clR; simp
        have e3 : clW W 2 = W - 1 := by unfold clW; simp [hx]
        rcases (show W - 1 + R = 0 ∨ W - 1 + R ≠ 0 by omega) with hz | hz
        · obtain rfl : W = 1 := by omega
          obtain rfl : R = 0 := by omega
          rw [show clG 0 1 2 = true from rfl, e1, e2, e3]
          have s2 := (h.set2 0).drew
          have c1' := RP.c1 (show RP _ b L _ _ from h.set2 0)
          have c2' := RP.c2 (show RP _ b L _ _ from h.set2 0)
          clear o1 e1 e2 e3 hz
          go_enter Tryd.func23, Tryd.ntmps23
          go_wp2
          go_region
          go_wp2
          go_ret2
          exact ⟨rfl, h.set2 0, ((Gr.refl _ _).set1 _ _).drew⟩
        · have o2 : clG R W 2 = false := by unfold clG; rw [o1, e2, e3]; simp; omega
          rw [o2, e1, e2, e3]
          have hz' : (R + (W - 1) == 0) = false := by simp; omega
          have c1' := RP.c1 (show RP _ b L _ _ from h.set2 (W - 1))
          have c2' := RP.c2 (show RP _ b L _ _ from h.set2 (W - 1))
          clear o1 o2 e1 e2 e3 hz
          go_enter Tryd.func23, Tryd.ntmps23
          go_wp2
          go_region
          go_wp2
          go_ret2
          exact ⟨rfl, h.set2 _, ((Gr.refl _ _).set1 _ _).drew⟩
      · subst hx
        rw [show clG R 0 2 = false by unfold clG clOk; simp, show clE R 0 2 = 2 by unfold clE clOk; simp, show clR R 2 = R by unfold clR; simp, show clW 0 2 = 0 by unfold clW; simp]
        go_enter Tryd.func23, Tryd.ntmps23
        go_wp2
        go_ret2
        exact ⟨rfl, h, Gr.refl _ _⟩
    · have k1 : (k == 1) = false := by simp [h1]
      have k2 : (k == 2) = false := by simp [h2]
      rw [show clG R W k = false by unfold clG clOk; simp [h1, h2], show clE R W k = 2 by unfold clE clOk; simp [h1, h2], show clR R k = R by unfold clR; simp [h1], show clW W k = W by unfold clW; simp [h2]]
      go_enter Tryd.func23, Tryd.ntmps23
      go_wp2
      go_ret2
      exact ⟨rfl, h, Gr.refl _ _⟩
end Go.Proofs
