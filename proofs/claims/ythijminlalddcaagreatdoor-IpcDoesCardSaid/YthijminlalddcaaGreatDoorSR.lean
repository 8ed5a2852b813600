/- Arguments that are acts: opened. -/
import Derived.Test.YthijminlalddcaaGreatDoorL
import Derived.Test.YthijminlalddcaaGreatDoorSS
import Derived.Test.YthijminlalddcaaGreatDoorHN
set_option linter.unusedVariables false
set_option linter.unusedSimpArgs false
namespace Go.Proofs
open Go.RowKit Go.WideShapes Go.ChangeShapes Go.Joins Go.Deep

theorem list12 {α : Type} : ∀ (l : List α), l.length = 12 → ∃ x0 x1 x2 x3 x4 x5 x6 x7 x8 x9 x10 x11, l = [x0, x1, x2, x3, x4, x5, x6, x7, x8, x9, x10, x11]
  | [x0, x1, x2, x3, x4, x5, x6, x7, x8, x9, x10, x11], _ => ⟨x0, x1, x2, x3, x4, x5, x6, x7, x8, x9, x10, x11, rfl⟩
def inR (a : Int) : Prop := -9223372036854775808 ≤ a ∧ a < 9223372036854775808
def AcT.cells (x : AcT) : List Value := [.int .i64 x.d, .int .i64 x.cu, .int .i64 x.cg, .int .i64 x.key, .bool x.pl, .int .i64 x.fl, .int .i64 x.v, .int .i64 x.p0, .int .i64 x.p1, .int .i64 x.p2, .int .i64 x.p3, .int .i64 x.p4]
structure AcT.wf (x : AcT) : Prop where
  cu : inR x.cu
  cg : inR x.cg
  key : inR x.key
  fl : inR x.fl
  v : inR x.v
  p0 : inR x.p0
  p1 : inR x.p1
  p4 : inR x.p4

section
variable {H : Type} {enc : TypeId × Value → H} {P : Program} {w : World} {base : Nat} {spare : Nat → Bool} {held : Bool}
theorem agg_of {r : Reach} {b0 : Nat} {t : TypeId} {fs : Array Field} {v : Value} {d : DataW H} {p : List MemPlace} {k : Nat} (hs : P.underlying t = some (.struct fs)) (hC : P.cellsOf t = k) (hv : Value.okWide P w r b0 t v) (h : DataW.Trod enc P w base spare held t v d p) :
    ∃ (cs : Array Value) (n : Nat) (y : DataW H × List MemPlace), v = .agg cs ∧ cs.toList.length = k ∧ DataW.trod enc P w base spare held n t cs.toList = some y := by
  obtain ⟨cs, rfl, hsz⟩ := okWide_struct hs hv
  obtain ⟨fuel, hf⟩ := h
  exact ⟨cs, fuel, _, rfl, by simpa using hsz.trans hC, hf⟩
/-- A slice of things of k cells, each of which has a reading X. -/
theorem slice_of {X : Type} (ok : X → Prop) (cells : X → List Value) {r : Reach} {b0 : Nat} {t e : TypeId} {v : Value} {d : DataW H} {p : List MemPlace} {k : Nat} (x0 : X) (h0 : ∀ x, 0 < (cells x).length) (hk : ∀ x, (cells x).length = k) (ht : P.underlying t = some (.slice e)) (hC : P.cellsOf e = k)
    (hX : ∀ (n : Nat) (cs : List Value) (y : DataW H × List MemPlace), cs.length = k → DataW.trod enc P w base spare held n e cs = some y → ∃ x, ok x ∧ cs = cells x) (hv : Value.okWide P w r b0 t v) (h : DataW.Trod enc P w base spare held t v d p) :
    ∃ (A : Option Addr) (len cap : Nat) (q : Nat → X), v = .slice A len cap ∧ len ≤ cap ∧ cap ≤ maxLen ∧ (0 < len → ∃ g off, A = some ⟨g, off, none⟩ ∧ g < w.heap.size ∧ ∀ i, i < len → ∀ (j : Nat) (u : Value), (cells (q i))[j]? = some u → w.cell? ⟨g, off + i * k + j, none⟩ = some u) ∧ ∀ i, i < len → ok (q i) := by
  obtain ⟨A, len, cap, rfl⟩ := okWide_slice ht hv
  obtain ⟨fuel, hf⟩ := h
  rcases open_slice ht hf with ⟨h0', _⟩ | ⟨a, len', cap', m, n, D, Pl, h0', hb, hl, hm, hmm, _, hx⟩
  · simp [Value.cells] at h0'
    obtain ⟨rfl, rfl, rfl⟩ := h0'
    exact ⟨none, 0, 0, fun _ => x0, rfl, by omega, by unfold maxLen; omega, fun h => by omega, fun i hi => by omega⟩
  · simp [Value.cells] at h0'
    obtain ⟨rfl, rfl, rfl⟩ := h0'
    have hlm : len ≤ m := by rw [hmm]; split <;> omega
    have each : ∀ i, i < m → ∃ x : X, ok x ∧ ∀ (j : Nat) (u : Value), (cells x)[j]? = some u → w.cell? ((a.add (i * k)).add j) = some u := by
      intro i hi
      obtain ⟨cs, h1, h2⟩ := hx i hi
      rw [hC] at h1
      obtain ⟨_, hlen, hcell⟩ := World.cells?_some h1
      obtain ⟨x, hxw, he⟩ := hX _ _ _ (by simpa using hlen) h2
      refine ⟨x, hxw, fun j u hj => ?_⟩
      have hjk : j < k := by
        have := (List.getElem?_eq_some_iff.1 hj).1
        rwa [hk] at this
      rw [hcell j hjk, he]
      exact hj
    haveI : Inhabited X := ⟨x0⟩
    obtain ⟨q, hq⟩ := choose_lt each
    refine ⟨some a, len, cap, q, rfl, hl, hm, fun hn => ?_, fun i hi => (hq i (by omega)).1⟩
    have d0 := (hq 0 (by omega)).2 0 _ (List.getElem?_eq_getElem (h0 _))
    obtain ⟨g, off, spot⟩ := a
    have hspot : spot = none := by simpa [Addr.add] using World.cell?_spot d0
    subst hspot
    have hlt : g < w.heap.size := by
      have := World.block_lt_of_cell? _ _ d0
      rwa [add_plain, add_plain] at this
    refine ⟨g, off, rfl, hlt, fun i hi j u hj => ?_⟩
    have := (hq i (by omega)).2 j u hj
    rwa [add_plain, add_plain] at this
end

section
variable {H : Type} {enc : TypeId × Value → H} {w : World} {base : Nat} {spare : Nat → Bool} {held : Bool}
theorem one_int {n : Nat} {v : Value} {y : DataW H × List MemPlace} (h : DataW.trod enc Tryz.prog w base spare held n 3 [v] = some y) : ∃ a : Int, v = .int .i64 a ∧ inR a := by
  obtain ⟨a, ha, _, hw⟩ := DataW.trod_int Tryz.underlying3 h
  exact ⟨a, by simpa using ha, wf_range hw⟩
theorem one_bool {n : Nat} {v : Value} {y : DataW H × List MemPlace} (h : DataW.trod enc Tryz.prog w base spare held n 4 [v] = some y) : ∃ a : Bool, v = .bool a := by
  obtain ⟨a, ha, _⟩ := DataW.trod_bool Tryz.underlying4 h
  exact ⟨a, by simpa using ha⟩
theorem c3 : Tryz.prog.cellsOf 3 = 1 := by kernel_rfl
theorem c4 : Tryz.prog.cellsOf 4 = 1 := by kernel_rfl
theorem cCred : Tryz.prog.cellsOf 37 = 2 := by kernel_rfl
theorem cPerm : Tryz.prog.cellsOf 39 = 5 := by kernel_rfl
theorem cAct : Tryz.prog.cellsOf 41 = 12 := by kernel_rfl
theorem some_at {α : Type} {xs : List α} {n j : Nat} (h : xs.length = n) (hj : j < n) : ∃ y, xs[j]? = some y := ⟨_, List.getElem?_eq_getElem (h.symm ▸ hj)⟩
theorem cred_trod {n : Nat} {a b : Value} {y : DataW H × List MemPlace} (h : DataW.trod enc Tryz.prog w base spare held n 37 [a, b] = some y) : ∃ u g : Int, a = .int .i64 u ∧ b = .int .i64 g ∧ inR u ∧ inR g := by
  obtain ⟨xs, k, _, _, _, hxl, hg⟩ := DataW.trod_struct Tryz.underlying37 h
  obtain ⟨y0, e0⟩ := some_at (j := 0) hxl (by decide)
  obtain ⟨y1, e1⟩ := some_at (j := 1) hxl (by decide)
  have g0 : DataW.trod enc Tryz.prog w base spare held k 3 (([a, b].drop 0).take (Tryz.prog.cellsOf 3)) = some y0 := (hg 0 _ rfl).trans e0
  rw [c3] at g0
  have g1 : DataW.trod enc Tryz.prog w base spare held k 3 (([a, b].drop 1).take (Tryz.prog.cellsOf 3)) = some y1 := (hg 1 _ rfl).trans e1
  rw [c3] at g1
  obtain ⟨u, rfl, hu⟩ := one_int (v := a) g0
  obtain ⟨g, rfl, hgr⟩ := one_int (v := b) g1
  exact ⟨u, g, rfl, rfl, hu, hgr⟩
theorem perm_trod {n : Nat} {a b c d e : Value} {y : DataW H × List MemPlace} (h : DataW.trod enc Tryz.prog w base spare held n 39 [a, b, c, d, e] = some y) : ∃ p0 p1 p2 p3 p4 : Int, a = .int .i64 p0 ∧ b = .int .i64 p1 ∧ c = .int .i64 p2 ∧ d = .int .i64 p3 ∧ e = .int .i64 p4 ∧ inR p0 ∧ inR p1 ∧ inR p4 := by
  obtain ⟨xs, k, _, _, _, hxl, hg⟩ := DataW.trod_struct Tryz.underlying39 h
  obtain ⟨y0, e0⟩ := some_at (j := 0) hxl (by decide)
  obtain ⟨y1, e1⟩ := some_at (j := 1) hxl (by decide)
  obtain ⟨y2, e2⟩ := some_at (j := 2) hxl (by decide)
  obtain ⟨y3, e3⟩ := some_at (j := 3) hxl (by decide)
  obtain ⟨y4, e4⟩ := some_at (j := 4) hxl (by decide)
  have g0 : DataW.trod enc Tryz.prog w base spare held k 3 (([a, b, c, d, e].drop 0).take (Tryz.prog.cellsOf 3)) = some y0 := (hg 0 _ rfl).trans e0
  rw [c3] at g0
  have g1 : DataW.trod enc Tryz.prog w base spare held k 3 (([a, b, c, d, e].drop 1).take (Tryz.prog.cellsOf 3)) = some y1 := (hg 1 _ rfl).trans e1
  rw [c3] at g1
  have g2 : DataW.trod enc Tryz.prog w base spare held k 3 (([a, b, c, d, e].drop 2).take (Tryz.prog.cellsOf 3)) = some y2 := (hg 2 _ rfl).trans e2
  rw [c3] at g2
  have g3 : DataW.trod enc Tryz.prog w base spare held k 3 (([a, b, c, d, e].drop 3).take (Tryz.prog.cellsOf 3)) = some y3 := (hg 3 _ rfl).trans e3
  rw [c3] at g3
  have g4 : DataW.trod enc Tryz.prog w base spare held k 3 (([a, b, c, d, e].drop 4).take (Tryz.prog.cellsOf 3)) = some y4 := (hg 4 _ rfl).trans e4
  rw [c3] at g4
  obtain ⟨p0, rfl, h0⟩ := one_int (v := a) g0
  obtain ⟨p1, rfl, h1⟩ := one_int (v := b) g1
  obtain ⟨p2, rfl, h2⟩ := one_int (v := c) g2
  obtain ⟨p3, rfl, h3⟩ := one_int (v := d) g3
  obtain ⟨p4, rfl, h4⟩ := one_int (v := e) g4
  exact ⟨p0, p1, p2, p3, p4, rfl, rfl, rfl, rfl, rfl, h0, h1, h4⟩
theorem act_trod {n : Nat} {cs : List Value} {y : DataW H × List MemPlace} (hl : cs.length = 12) (h : DataW.trod enc Tryz.prog w base spare held n 41 cs = some y) : ∃ x : AcT, x.wf ∧ cs = x.cells := by
  obtain ⟨a0, a1, a2, a3, a4, a5, a6, a7, a8, a9, a10, a11, rfl⟩ := list12 cs hl
  obtain ⟨xs, k, _, _, _, hxl, hg⟩ := DataW.trod_struct Tryz.underlying41 h
  obtain ⟨y0, e0⟩ := some_at (j := 0) hxl (by decide)
  obtain ⟨y1, e1⟩ := some_at (j := 1) hxl (by decide)
  obtain ⟨y2, e2⟩ := some_at (j := 2) hxl (by decide)
  obtain ⟨y3, e3⟩ := some_at (j := 3) hxl (by decide)
  obtain ⟨y4, e4⟩ := some_at (j := 4) hxl (by decide)
  obtain ⟨y5, e5⟩ := some_at (j := 5) hxl (by decide)
  obtain ⟨y6, e6⟩ := some_at (j := 6) hxl (by decide)
  have g0 : DataW.trod enc Tryz.prog w base spare held k 3 (([a0, a1, a2, a3, a4, a5, a6, a7, a8, a9, a10, a11].drop 0).take (Tryz.prog.cellsOf 3)) = some y0 := (hg 0 _ rfl).trans e0
  rw [c3] at g0
  have g1 : DataW.trod enc Tryz.prog w base spare held k 37 (([a0, a1, a2, a3, a4, a5, a6, a7, a8, a9, a10, a11].drop 1).take (Tryz.prog.cellsOf 37)) = some y1 := (hg 1 _ rfl).trans e1
  rw [cCred] at g1
  have g2 : DataW.trod enc Tryz.prog w base spare held k 3 (([a0, a1, a2, a3, a4, a5, a6, a7, a8, a9, a10, a11].drop 3).take (Tryz.prog.cellsOf 3)) = some y2 := (hg 2 _ rfl).trans e2
  rw [c3] at g2
  have g3 : DataW.trod enc Tryz.prog w base spare held k 4 (([a0, a1, a2, a3, a4, a5, a6, a7, a8, a9, a10, a11].drop 4).take (Tryz.prog.cellsOf 4)) = some y3 := (hg 3 _ rfl).trans e3
  rw [c4] at g3
  have g4 : DataW.trod enc Tryz.prog w base spare held k 3 (([a0, a1, a2, a3, a4, a5, a6, a7, a8, a9, a10, a11].drop 5).take (Tryz.prog.cellsOf 3)) = some y4 := (hg 4 _ rfl).trans e4
  rw [c3] at g4
  have g5 : DataW.trod enc Tryz.prog w base spare held k 3 (([a0, a1, a2, a3, a4, a5, a6, a7, a8, a9, a10, a11].drop 6).take (Tryz.prog.cellsOf 3)) = some y5 := (hg 5 _ rfl).trans e5
  rw [c3] at g5
  have g6 : DataW.trod enc Tryz.prog w base spare held k 39 (([a0, a1, a2, a3, a4, a5, a6, a7, a8, a9, a10, a11].drop 7).take (Tryz.prog.cellsOf 39)) = some y6 := (hg 6 _ rfl).trans e6
  rw [cPerm] at g6
  obtain ⟨d, rfl, _⟩ := one_int (v := a0) g0
  obtain ⟨cu, cg, rfl, rfl, hcu, hcg⟩ := cred_trod (a := a1) (b := a2) g1
  obtain ⟨key, rfl, hkey⟩ := one_int (v := a3) g2
  obtain ⟨pl, rfl⟩ := one_bool (v := a4) g3
  obtain ⟨fl, rfl, hfl⟩ := one_int (v := a5) g4
  obtain ⟨v, rfl, hv⟩ := one_int (v := a6) g5
  obtain ⟨p0, p1, p2, p3, p4, rfl, rfl, rfl, rfl, rfl, h0, h1, h4⟩ := perm_trod (a := a7) (b := a8) (c := a9) (d := a10) (e := a11) g6
  exact ⟨⟨d, cu, cg, key, pl, fl, v, p0, p1, p2, p3, p4⟩, ⟨hcu, hcg, hkey, hfl, hv, h0, h1, h4⟩, rfl⟩

set_option maxRecDepth 100000 in
theorem open_act {r : Reach} {b0 : Nat} {v : Value} {d : DataW H} {p : List MemPlace} (hv : Value.okWide Tryz.prog w r b0 41 v) (h : DataW.Trod enc Tryz.prog w base spare held 41 v d p) :
    ∃ x : AcT, x.wf ∧ v = .agg x.cells.toArray := by
  have ho := agg_of Tryz.underlying41 cAct hv h
  obtain ⟨cs, n, y, he, hsz, hf⟩ := ho
  obtain ⟨x, hx, hc⟩ := act_trod hsz hf
  exact ⟨x, hx, by rw [he, ← hc]⟩

set_option maxRecDepth 100000 in
theorem open_acts {r : Reach} {b0 : Nat} {v : Value} {d : DataW H} {p : List MemPlace} (hv : Value.okWide Tryz.prog w r b0 22 v) (h : DataW.Trod enc Tryz.prog w base spare held 22 v d p) :
    ∃ (A : Option Addr) (len cap : Nat) (q : Nat → AcT), v = .slice A len cap ∧ len ≤ cap ∧ cap ≤ maxLen ∧ Acts w A len q ∧ ∀ i, i < len → (q i).wf := by
  have ho := slice_of AcT.wf AcT.cells ⟨0, 0, 0, 0, false, 0, 0, 0, 0, 0, 0, 0⟩ (fun _ => by simp [AcT.cells]) (fun _ => rfl) Tryz.underlying22 cAct (fun n cs y hl h => act_trod hl h) hv h
  obtain ⟨A, len, cap, q, he, h1, h2, h3, h4⟩ := ho
  refine ⟨A, len, cap, q, he, h1, h2, fun hn => ?_, h4⟩
  obtain ⟨g, off, hA, hlt, hc⟩ := h3 hn
  exact ⟨g, off, hA, hlt, fun i hi => ⟨hc i hi 0 _ rfl, hc i hi 1 _ rfl, hc i hi 2 _ rfl, hc i hi 3 _ rfl, hc i hi 4 _ rfl, hc i hi 5 _ rfl, hc i hi 6 _ rfl, hc i hi 7 _ rfl, hc i hi 8 _ rfl, hc i hi 9 _ rfl, hc i hi 10 _ rfl, hc i hi 11 _ rfl⟩⟩
end
end Go.Proofs
