/- Pipes: each method as a function of the bytes and the numbers of ends. -/
import Derived.Test.YtdonlpldbdooaaaDoorM
set_option linter.unusedVariables false
set_option linter.unusedSimpArgs false
namespace Go.Proofs
open Go.RowKit Go.Shelf
attribute [local go_sem] Oper.semAt_some
variable {aW aB : Addr}

/-- A pipe that came behind the world w0, whose sentinels lie. -/
structure PS (w0 w : World) (aW aB : Addr) (b rb : Nat) (L : List UInt8) (R W : Int) : Prop where
  p : Pip w b rb L R W
  g : Same w0 w
  hb : w0.heap.size ≤ b
  hr : w0.heap.size ≤ rb
  s0 : Sen w0 aW aB
theorem PS.s {w0 w : World} {b rb : Nat} {L : List UInt8} {R W : Int} (h : PS w0 w aW aB b rb L R W) : Sen w aW aB := h.s0.same h.g
theorem PS.same {w0 w w' : World} {b rb : Nat} {L : List UInt8} {R W : Int} (h : PS w0 w aW aB b rb L R W) (hG : Same w w') : PS w0 w' aW aB b rb L R W :=
  ⟨h.p.gr hG (fun f => f) (fun f => f), h.g.next hG, h.hb, h.hr, h.s0⟩
theorem PS.lt {w0 w : World} {b rb : Nat} {L : List UInt8} {R W : Int} (h : PS w0 w aW aB b rb L R W) : b < w.heap.size ∧ rb < w.heap.size ∧ L.length ≤ 32 := ⟨(Pip.lt h.p).1, (Pip.lt h.p).2, (Pip.rg h.p).le.1⟩

/-- What a read tells, and leaves. -/
def rdW (L : List UInt8) (W n : Int) : Bool := decide (0 < n) && !canR L W
def rdS (L : List UInt8) (W n : Int) : List UInt8 := if n < 0 ∨ rdW L W n = true then [] else L.take n.toNat
def rdE (L : List UInt8) (W n : Int) : Int := if n < 0 then 2 else if rdW L W n = true then 63 else 0
def rdL (L : List UInt8) (W n : Int) : List UInt8 := if n < 0 ∨ rdW L W n = true then L else L.drop n.toNat
/-- What a write does. -/
def wrN (L : List UInt8) (R : Int) (s : List UInt8) : Nat := if R = 0 then 0 else min s.length (32 - L.length)
def wrE (L : List UInt8) (R : Int) (s : List UInt8) : Int := if R = 0 then 90 else if s.length ≠ 0 ∧ L.length = 32 then 63 else 0
def wrL (L : List UInt8) (R : Int) (s : List UInt8) : List UInt8 := L ++ s.take (wrN L R s)
/-- Ends. -/
def opOk (R W k : Int) : Bool := (decide (k = 1) && decide (R < 100)) || (decide (k = 2) && decide (W < 100))
def opE (R W k : Int) : Int := if opOk R W k = true then 0 else 2
def opR (R k : Int) : Int := if k = 1 ∧ R < 100 then R + 1 else R
def clOk (R W k : Int) : Bool := (decide (k = 1) && decide (0 < R)) || (decide (k = 2) && decide (0 < W))
def clE (R W k : Int) : Int := if clOk R W k = true then 0 else 2
def clR (R k : Int) : Int := if k = 1 ∧ 0 < R then R - 1 else R
def opW (W k : Int) : Int := if k = 2 ∧ W < 100 then W + 1 else W
def clW (W k : Int) : Int := if k = 2 ∧ 0 < W then W - 1 else W
def clG (R W k : Int) : Bool := clOk R W k && (decide (clR R k ≤ 0) && decide (clW W k ≤ 0))

theorem rd_len (L : List UInt8) (W n : Int) : rdS L W n ++ rdL L W n = L := by
  unfold rdS rdL
  split <;> simp
theorem rdS_le (L : List UInt8) (W n : Int) : (rdS L W n).length ≤ L.length := by have := congrArg List.length (rd_len L W n); simp at this; omega
theorem rdL_le (L : List UInt8) (W n : Int) : (rdL L W n).length ≤ L.length := by have := congrArg List.length (rd_len L W n); simp at this; omega
theorem wrN_le (L : List UInt8) (R : Int) (s : List UInt8) : wrN L R s ≤ 32 ∧ wrN L R s ≤ s.length := by unfold wrN; split <;> omega

theorem ps_new (w : World) (hS : Sen w aW aB) : Calls Tryd.prog 11 #[] w fun e w' => ∃ b rb, e = .returned (.pointer (some ⟨b, 0, none⟩)) ∧ PS w w' aW aB b rb [] 1 1 :=
  (pnew_any w).mono fun e w' ⟨b, rb, h1, h2, he, hp, hG⟩ => ⟨b, rb, he, hp, hG, h1, h2, hS⟩

section
variable {w0 w : World} {b rb : Nat} {L : List UInt8} {R W : Int} (h : PS w0 w aW aB b rb L R W)
include h
theorem ps_read (n : Int) : Calls Tryd.prog 12 #[.pointer (some ⟨b, 0, none⟩), .int .i64 n] w fun e w' =>
    e = .returned (.tuple #[.string ⟨(rdS L W n).toArray⟩, .int .i64 (rdE L W n)]) ∧ PS w0 w' aW aB b rb (rdL L W n) R W ∧ Gr w w' (fun j => j = rb) := by
  have hlr := h.hr
  have hsz := h.g.size
  refine (read_any b rb L R W n w h.p h.s).mono ?_
  rintro e w' (⟨hn, rfl, rfl⟩ | ⟨hn, hc, rfl, rfl⟩ | ⟨hn, hc, rfl, hP, hG⟩)
  · have e1 : rdS L W n = [] := by unfold rdS; rw [if_pos (.inl hn)]
    have e2 : rdE L W n = 2 := by unfold rdE; rw [if_pos hn]
    have e3 : rdL L W n = L := by unfold rdL; rw [if_pos (.inl hn)]
    rw [e1, e2, e3]
    exact ⟨rfl, h, Gr.refl _ _⟩
  · have hw : rdW L W n = true := by unfold rdW; simp [hn, hc]
    have e1 : rdS L W n = [] := by unfold rdS; rw [if_pos (.inr hw)]
    have e2 : rdE L W n = 63 := by unfold rdE; rw [if_neg (by omega), if_pos hw]
    have e3 : rdL L W n = L := by unfold rdL; rw [if_pos (.inr hw)]
    rw [e1, e2, e3]
    exact ⟨rfl, h, Gr.refl _ _⟩
  · have hw : rdW L W n = false := by
      unfold rdW
      rcases hc with rfl | hc
      · simp
      · simp [hc]
    have hno : ¬ (n < 0 ∨ rdW L W n = true) := by rw [hw]; simp; omega
    have e1 : rdS L W n = L.take n.toNat := by unfold rdS; rw [if_neg hno]
    have e2 : rdE L W n = 0 := by unfold rdE; rw [if_neg (by omega), hw]; rfl
    have e3 : rdL L W n = L.drop n.toNat := by unfold rdL; rw [if_neg hno]
    rw [e1, e2, e3]
    exact ⟨rfl, ⟨hP, h.g.trans hG (fun j hj e => by omega), h.hb, h.hr, h.s0⟩, hG⟩
theorem ps_write (s : ByteArray) (hs : s.size ≤ maxLen) : Calls Tryd.prog 13 #[.pointer (some ⟨b, 0, none⟩), .string s] w fun e w' =>
    e = .returned (.tuple #[.int .i64 (wrN L R s.data.toList : Int), .int .i64 (wrE L R s.data.toList)]) ∧ PS w0 w' aW aB b rb (wrL L R s.data.toList) R W ∧ Gr w w' (fun j => j = rb) := by
  have hlr := h.hr
  have hsz := h.g.size
  have hl := h.lt.2.2
  have hsl := Lib.size_eq s
  refine (write_any b rb L R W s hs w h.p h.s).mono ?_
  unfold wrL
  rintro e w' (⟨rfl, rfl, hG⟩ | ⟨hR, hz, hL, rfl, hG⟩ | ⟨hR, hz, rfl, hP, hG⟩)
  · have e1 : wrN L 0 s.data.toList = 0 := rfl
    have e2 : wrE L 0 s.data.toList = 90 := rfl
    rw [e1, e2, List.take_zero, List.append_nil]
    exact ⟨rfl, h.same hG, hG.no⟩
  · have e1 : wrN L R s.data.toList = 0 := by unfold wrN; rw [if_neg hR]; omega
    have e2 : wrE L R s.data.toList = 63 := by unfold wrE; rw [if_neg hR, if_pos ⟨by omega, hL⟩]
    rw [e1, e2, List.take_zero, List.append_nil]
    exact ⟨rfl, h.same hG, hG.no⟩
  · have e1 : wrN L R s.data.toList = min s.size (32 - L.length) := by unfold wrN; rw [if_neg hR, hsl]
    have e2 : wrE L R s.data.toList = 0 := by unfold wrE; rw [if_neg hR, if_neg (by omega)]
    rw [e1, e2]
    exact ⟨rfl, ⟨hP, h.g.trans hG (fun j hj e => by omega), h.hb, h.hr, h.s0⟩, hG⟩
theorem ps_open (k : Int) : Calls Tryd.prog 19 #[.pointer (some ⟨b, 0, none⟩), .int .i64 k] w fun e w' =>
    e = .returned (.int .i64 (opE R W k)) ∧ PS w0 w' aW aB b rb L (opR R k) (opW W k) ∧ Gr w w' (fun j => j = b) := by
  have hlb := h.hb
  have hsz := h.g.size
  have hr := h.p.hr
  have hw := h.p.hw
  refine (open_any b rb R W k w h.p.pb h.p.hr h.p.hw).mono ?_
  unfold opE opR opW opOk
  rintro e w' (⟨rfl, hR, rfl, hP, hG⟩ | ⟨rfl, hW, rfl, hP, hG⟩ | ⟨h1, h2, rfl, hG⟩)
  · refine ⟨by simp [hR], ?_, hG⟩
    simp [hR]
    exact ⟨⟨h.p.ne, hP, h.p.rg.gr hG h.p.ne, by omega, hw⟩, h.g.trans hG (fun j hj e => by omega), h.hb, h.hr, h.s0⟩
  · refine ⟨by simp [hW], ?_, hG⟩
    simp [hW]
    exact ⟨⟨h.p.ne, hP, h.p.rg.gr hG h.p.ne, hr, by omega⟩, h.g.trans hG (fun j hj e => by omega), h.hb, h.hr, h.s0⟩
  · have a1 : ¬ (k = 1 ∧ R < 100) := fun ⟨a, b⟩ => by have := h1 a; omega
    have a2 : ¬ (k = 2 ∧ W < 100) := fun ⟨a, b⟩ => by have := h2 a; omega
    rw [if_neg a1, if_neg a2, if_neg (by simp; omega)]
    exact ⟨rfl, h.same hG, hG.no⟩
theorem ps_close (k : Int) : Calls Tryd.prog 15 #[.pointer (some ⟨b, 0, none⟩), .int .i64 k] w fun e w' =>
    e = .returned (.tuple #[.bool (clG R W k), .int .i64 (clE R W k)]) ∧ PS w0 w' aW aB b rb L (clR R k) (clW W k) ∧ Gr w w' (fun j => j = b) := by
  have hlb := h.hb
  have hsz := h.g.size
  have hr := h.p.hr
  have hw := h.p.hw
  refine (close_any b rb R W k w h.p.pb h.p.hr h.p.hw).mono ?_
  unfold clG clE clR clW clOk
  rintro e w' (⟨rfl, hR, rfl, hP, hG⟩ | ⟨rfl, hW, rfl, hP, hG⟩ | ⟨h1, h2, rfl, hG⟩)
  · refine ⟨by simp [hR], ?_, hG⟩
    simp [hR]
    exact ⟨⟨h.p.ne, hP, h.p.rg.gr hG h.p.ne, by omega, hw⟩, h.g.trans hG (fun j hj e => by omega), h.hb, h.hr, h.s0⟩
  · refine ⟨by simp [hW], ?_, hG⟩
    simp [hW]
    exact ⟨⟨h.p.ne, hP, h.p.rg.gr hG h.p.ne, hr, by omega⟩, h.g.trans hG (fun j hj e => by omega), h.hb, h.hr, h.s0⟩
  · have a1 : ¬ (k = 1 ∧ 0 < R) := fun ⟨a, b⟩ => by have := h1 a; omega
    have a2 : ¬ (k = 2 ∧ 0 < W) := fun ⟨a, b⟩ => by have := h2 a; omega
    have a3 : (decide (k = 1) && decide (0 < R) || decide (k = 2) && decide (0 < W)) = false := by simp; omega
    rw [if_neg a1, if_neg a2, a3]
    exact ⟨rfl, h.same hG, hG.no⟩
theorem ps_len : Calls Tryd.prog 16 #[.pointer (some ⟨b, 0, none⟩)] w fun e w' => e = .returned (.int .i64 (L.length : Int)) ∧ w = w' := plen_any b rb L R W w h.p
theorem ps_canR : Calls Tryd.prog 17 #[.pointer (some ⟨b, 0, none⟩)] w fun e w' => e = .returned (.bool (canR L W)) ∧ w = w' := canR_any b rb L R W w h.p
theorem ps_canW : Calls Tryd.prog 18 #[.pointer (some ⟨b, 0, none⟩)] w fun e w' => e = .returned (.bool (canW L R)) ∧ PS w0 w' aW aB b rb L R W ∧ Same w w' :=
  (canW_any b rb L R W w h.p).mono fun e w' ⟨he, hG⟩ => ⟨he, h.same hG, hG⟩
theorem ps_ends : Calls Tryd.prog 24 #[.pointer (some ⟨b, 0, none⟩)] w fun e w' => e = .returned (.tuple #[.int .i64 R, .int .i64 W]) ∧ PS w0 w' aW aB b rb L R W ∧ Same w w' :=
  (ends_any b rb R W w h.p.pb).mono fun e w' ⟨he, hG⟩ => ⟨he, h.same hG, hG⟩
end

/-! ### The first bytes of a text -/
def tx (s : ByteArray) : ByteArray := ⟨(s.data.toList.take 50).toArray⟩
theorem tx_size (s : ByteArray) : (tx s).size ≤ 50 := by rw [Lib.size_eq]; simp [tx]; omega
theorem tx_size' (s : ByteArray) : (tx s).size = min s.size 50 := by rw [Lib.size_eq, Lib.size_eq]; simp [tx]; omega
theorem text_tx (s : ByteArray) (hs : s.size ≤ maxLen) (w : World) : Calls Tryd.prog 14 #[.string s] w fun e w' => e = .returned (.string (tx s)) ∧ w = w' := text_any s hs w

/-! ### Six kinds of acts -/
def six (d : Int) : Int := (IntKind.u64.wrap d).tmod 6
theorem six_cases (d : Int) : six d = 0 ∨ six d = 1 ∨ six d = 2 ∨ six d = 3 ∨ six d = 4 ∨ six d = 5 := by
  have e : IntKind.u64.wrap d = d % 18446744073709551616 := by go_num
  unfold six
  rw [e, Int.tmod_eq_emod_of_nonneg (by omega)]
  omega

/-! ### An argument that is a list of acts -/
def Acts (w : World) (A : Option Addr) (n : Nat) (D K N : Nat → Int) (S : Nat → ByteArray) : Prop :=
  0 < n → ∃ g off, A = some ⟨g, off, none⟩ ∧ g < w.heap.size ∧ ∀ i, i < n → w.cell? ⟨g, off + i * 4 + 0, none⟩ = some (.int .i64 (D i)) ∧ w.cell? ⟨g, off + i * 4 + 1, none⟩ = some (.int .i64 (K i)) ∧ w.cell? ⟨g, off + i * 4 + 2, none⟩ = some (.int .i64 (N i)) ∧ w.cell? ⟨g, off + i * 4 + 3, none⟩ = some (.string (S i)) ∧ (S i).size ≤ maxLen
theorem str_eq {a b : ByteArray} (h : a.data.toList = b.data.toList) : Value.string a = .string b := by rw [bax h]
end Go.Proofs
