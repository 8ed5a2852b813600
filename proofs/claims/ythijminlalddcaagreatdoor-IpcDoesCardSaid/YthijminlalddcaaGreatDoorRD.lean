/- The reference's Names: Put, Remove, Set. -/
import Derived.Test.YthijminlalddcaaGreatDoorRC
set_option linter.unusedVariables false
set_option linter.unusedSimpArgs false
namespace Go.Proofs
open Go.RowKit Go.Shelf
attribute [local go_sem] Oper.semAt_some

/-- The reference's Names, with lists that agree, at most N things made. -/
def RA (w0 w : World) (r N : Nat) (S : St Int) : Prop := ∃ V K P U kv pv uv, RS w0 w r S V K P U kv pv uv ∧ Agr S V K P U ∧ K.length ≤ N
theorem RA.same {w0 w w' : World} {r N : Nat} {S : St Int} (h : RA w0 w r N S) (hG : Same w w') : RA w0 w' r N S := by
  obtain ⟨V, K, P, U, kv, pv, uv, h, a, hN⟩ := h
  exact ⟨V, K, P, U, kv, pv, uv, h.same hG, a, hN⟩
theorem RA.gr {w0 w w' : World} {r N : Nat} {S : St Int} {X : Nat → Prop} (h : RA w0 w r N S) (hG : Gr w w' X) (hX : ∀ k, X k → k < r) (h0 : ∀ k, X k → w0.heap.size ≤ k) : RA w0 w' r N S := by
  obtain ⟨V, K, P, U, kv, pv, uv, h, a, hN⟩ := h
  exact ⟨V, K, P, U, kv, pv, uv, h.gr hG hX h0, a, hN⟩
theorem RA.lt {w0 w : World} {r N : Nat} {S : St Int} (h : RA w0 w r N S) : r < w.heap.size := by
  obtain ⟨V, K, P, U, kv, pv, uv, h, a, hN⟩ := h
  exact h.lt
/-- Blocks behind r that hold no act. -/
def Beh (w : World) (r : Nat) (k : Nat) : Prop := r ≤ k ∧ ∀ cs, ¬ Blk w k 41 cs
theorem own_not {w : World} {b s n g : Nat} {e t : TypeId} {v : Value} {xs : List Value} (h : w.ownsRow b e s v n xs) (hv : v.ownBlock = some g) (ht : e ≠ t) : ∀ cs, ¬ Blk w g t cs := fun cs hb => by
  rcases h.2 with ⟨rfl, _⟩ | ⟨g', cap, cur, rfl, _, hg, _⟩
  · simp [Value.ownBlock] at hv
  · obtain rfl : g' = g := by simpa [Value.ownBlock] using hv
    rw [show w.heap[g']? = _ from hb] at hg
    cases hg
    exact ht rfl
theorem setI_none {S : St Int} {id : Int} (hp : S.place id = none) (t : Th Int) : S.setI id t = S := by unfold St.setI; rw [hp]
theorem RS.setR {w0 w w' : World} {r : Nat} {S S' : St Int} {V V' : Nat → Int} {K : List Int} {P : List (Th Int)} {U : List Int} {kv pv uv : Value} (h : RS w0 w r S V K P U kv pv uv) (hG : Gr w w' (fun k => k = r)) (hrf : Rf w' r S' V' kv pv uv) (hok : S'.ok) : RS w0 w' r S' V' K P U kv pv uv :=
  ⟨hrf, own_gr h.rk hG (fun k hk => by omega), own_gr h.rp hG (fun k hk => by omega), own_gr h.ru hG (fun k hk => by omega), h.lp, h.lu, h.ku, hok, h.g.trans hG (fun k hk e => by have := h.hr; omega), h.hr⟩

section
variable {w0 w : World} {r N : Nat} {S : St Int}

set_option maxRecDepth 100000 in
set_option maxHeartbeats 2000000 in
theorem rnPut (x : RA w0 w r N S) (hN1 : N ≤ 1000) (id v : Int) :
    Calls Tryz.prog 23 #[.pointer (some ⟨r, 0, none⟩), .int .i64 id, .int .i64 v] w fun e w' => e = .returned (.int .i64 (S.getE id)) ∧ RA w0 w' r N (S.setI id ((S.getT id zthI).setv v)) ∧ Gr w w' (Beh w r) := by
  obtain ⟨V, K, P, U, kv, pv, uv, hA, a, hN⟩ := x
  cases hp : S.place id with
  | none =>
    have e1 : S.getE id = 100 := by unfold St.getE; rw [hp]
    rw [e1, setI_none hp]
    have hg := rget r S V kv pv uv hA.ok id _ hA.rf
    rw [e1] at hg
    have HR : Hid (∀ w', Same w w' → RA w0 w' r N S) := Lib.hid (fun w' hG => ⟨V, K, P, U, kv, pv, uv, hA.same hG, a, hN⟩)
    clear hp e1
    go_enter Tryz.func23, Tryz.ntmps23
    go_wp2_with fail
    refine hg.mono ?_; rintro e w1 ⟨rfl, hG1⟩
    go_wp2
    go_ret
    exact ⟨rfl, HR.out _ hG1, hG1.no'⟩
  | some i =>
    obtain ⟨j, n, gK, cK, gP, cP, gU, cU, hV, hj, hn, rfl, rfl, rfl, rK, rP, rU, lK, lP, lU, ck, cu, fu, q0, q1, q2, q3, q4, fP⟩ := hA.found a hp
    have e1 : S.getE id = 0 := by unfold St.getE; rw [hp]
    have e2 : S.getT id zthI = S.th i := by unfold St.getT; rw [hp]
    have e3 : rG S V id = j := by unfold rG; rw [hp]; exact hV
    have e4 : S.setI id ((S.th i).setv v) = S.setT i ((S.th i).setv v) := by unfold St.setI; rw [hp]
    have hg := rget r S V _ _ _ hA.ok id _ hA.rf
    rw [e1, e3] at hg
    rw [e1, e2]
    have hj0 : (0 : Int) ≤ j := by omega
    have hj1 : (j : Int) < n := by omega
    have hn9 : n ≤ 1000 := by omega
    have HR : Hid (∀ w', Same w w' → RA w0 (w'.setCell ⟨gU, j, none⟩ (.int .i64 v)) r N (S.setI id ((S.th i).setv v))) := Lib.hid (fun w' hG =>
      ⟨V, K, P, U.set j v, _, _, _, (hA.same hG).setU (by rw [hA.lu, hn]; exact hj) rU v _ (by rw [e4]; exact ⟨rfl, rfl⟩), agr_setv a hA.lu hp hV v, hN⟩)
    have s26 := rf26 hA
    have HBU : Hid (∀ cs, ¬ Blk w gU 41 cs) := Lib.hid (own_not hA.ru rfl (by decide))
    have hr := hA.lt
    clear hp e1 e2 e3 e4 hV hn
    go_enter Tryz.func23, Tryz.ntmps23
    go_wp2_with fail
    refine hg.mono ?_; rintro e w1 ⟨rfl, hG1⟩
    have t26 := (hG1.cell (p := ⟨r, 26, none⟩) hr (fun f => f)).trans s26
    have tu := (hG1.cell (p := ⟨gU, j, none⟩) lU (fun f => f)).trans cu
    have tf := (hG1.frozen (p := ⟨gU, j, none⟩) lU (fun f => f)).trans fu
    clear s26 cu ck q0 q1 q2 q3 q4 fu fP
    go_wp2
    go_ret
    exact ⟨rfl, HR.out _ hG1, (hG1.no'.setCell (p := ⟨gU, j, none⟩) (X := Beh w r) (.inl ⟨by show r ≤ gU; omega, HBU.out⟩) _)⟩

set_option maxRecDepth 100000 in
set_option maxHeartbeats 2000000 in
theorem rnRemove (x : RA w0 w r N S) (hN1 : N ≤ 1000) (cu0 cg0 id : Int) :
    Calls Tryz.prog 27 #[.pointer (some ⟨r, 0, none⟩), .agg #[.int .i64 cu0, .int .i64 cg0], .int .i64 id] w fun e w' => e = .returned (.tuple #[.int .i64 (rmVI (S.getT id zthI) (S.getE id) cu0 cg0), .int .i64 (rmEI (S.getT id zthI) (S.getE id) cu0 cg0)]) ∧ RA w0 w' r N (if rmEI (S.getT id zthI) (S.getE id) cu0 cg0 = 0 then S.rmI id zthI else S) ∧ Gr w w' (fun k => r ≤ k) := by
  have hc0 : Blk (w.alloc (.cells #[.int .i64 cu0, .int .i64 cg0] 37)) w.heap.size 37 #[.int .i64 cu0, .int .i64 cg0] := Blk.new _ _ _ _ rfl
  have x1 := x.same (Gr.a1 w (.cells #[.int .i64 cu0, .int .i64 cg0] 37))
  obtain ⟨V, K, P, U, kv, pv, uv, hA, a, hN⟩ := x1
  cases hp : S.place id with
  | none =>
    have e1 : S.getE id = 100 := by unfold St.getE; rw [hp]
    have e2 : rmEI (S.getT id zthI) 100 cu0 cg0 = 100 := by unfold rmEI; rw [if_pos (by decide)]
    have e3 : rmVI (S.getT id zthI) 100 cu0 cg0 = 0 := by unfold rmVI; rw [e2]; rfl
    rw [e1, e2, e3, if_neg (by decide)]
    have hg := rget r S V kv pv uv hA.ok id _ hA.rf
    rw [e1] at hg
    have HR : Hid (∀ w', Same w w' → RA w0 w' r N S) := Lib.hid (fun w' hG => x.same hG)
    clear hp e1 e2 e3 x
    go_enter Tryz.func27, Tryz.ntmps27
    go_wp2_with fail
    refine hg.mono ?_; rintro e w1 ⟨rfl, hG1⟩
    go_wp2
    go_ret2
    exact ⟨rfl, HR.out _ ((Gr.a1 _ _).next hG1), ((Gr.a1 _ _).next hG1).no'⟩
  | some i =>
    obtain ⟨j, n, gK, cK, gP, cP, gU, cU, hV, hj, hn, rfl, rfl, rfl, rK, rP, rU, lK, lP, lU, ck, cu, fu, q0, q1, q2, q3, q4, fP⟩ := hA.found a hp
    have e1 : S.getE id = 0 := by unfold St.getE; rw [hp]
    have e2 : S.getT id zthI = S.th i := by unfold St.getT; rw [hp]
    have e3 : rG S V id = j := by unfold rG; rw [hp]; exact hV
    have hg := rget r S V _ _ _ hA.ok id _ hA.rf
    rw [e1, e3] at hg
    rw [e1, e2]
    have hj0 : (0 : Int) ≤ j := by omega
    have hj1 : (j : Int) < n := by omega
    have hn9 : n ≤ 1000 := by omega
    have s25 := rf25 hA
    have s26 := rf26 hA
    have hr := hA.lt
    have y0 : _ = some (Value.int .i64 cu0) := hc0.cell 0
    have y1 : _ = some (Value.int .i64 cg0) := hc0.cell 1
    have yl := hc0.lt
    obtain ⟨bo, hbo⟩ : ∃ bo, ownsB cu0 cg0 (S.th i).u (S.th i).g (S.th i).cu (S.th i).cg (S.th i).m = bo := ⟨_, rfl⟩
    have hal : ∀ W, Calls Tryz.prog 57 #[.agg #[.int .i64 cu0, .int .i64 cg0], .agg #[.int .i64 (S.th i).u, .int .i64 (S.th i).g, .int .i64 (S.th i).cu, .int .i64 (S.th i).cg, .int .i64 (S.th i).m]] W fun e w' => e = .returned (.bool bo) ∧ Same W w' := fun W => by
      have := owns_r cu0 cg0 (S.th i).u (S.th i).g (S.th i).cu (S.th i).cg (S.th i).m W
      rwa [hbo] at this
    have e5 : rmEI (S.th i) 0 cu0 cg0 = if bo = true then 0 else 51 := by unfold rmEI; rw [if_neg (by decide), hbo]
    have e6 : rmVI (S.th i) 0 cu0 cg0 = if bo = true then (S.th i).v else 0 := by unfold rmVI; rw [e5]; cases bo <;> rfl
    rw [e5, e6]
    have HR : Hid (∀ w', Same w w' → RA w0 w' r N S) := Lib.hid (fun w' hG => x.same hG)
    have HS : Hid (∀ w2, Same (w.alloc (.cells #[.int .i64 cu0, .int .i64 cg0] 37)) w2 → Calls Tryz.prog 58 #[.pointer (some ⟨r, 0, none⟩), .int .i64 id] w2 fun e w' => (∃ v, e = .returned v) ∧ Gr w2 w' (fun k => k = r) ∧ w'.cell? ⟨r, 26, none⟩ = some (.slice (some ⟨gU, 0, none⟩) n cU) ∧ RA w0 w' r N (S.rmI id zthI)) := Lib.hid (fun w2 hG =>
      (rremove r S V _ _ _ hA.ok id zthI w2 (hA.same hG).rf).mono fun e w' ⟨he, hG2, hrf⟩ => ⟨⟨_, he⟩, hG2, Blk.cell hrf 26, V, K, P, U, _, _, _, (hA.same hG).setR hG2 hrf (hA.ok.rmI _ _), agr_rm a id zthI, hN⟩)
    clear hp e1 e2 e3 e5 e6 hV hn hbo x
    go_enter Tryz.func27, Tryz.ntmps27
    go_wp2_with fail
    refine hg.mono ?_; rintro e w1 ⟨rfl, hG1⟩
    have t25 := (hG1.cell (p := ⟨r, 25, none⟩) hr (fun f => f)).trans s25
    have t26 := (hG1.cell (p := ⟨r, 26, none⟩) hr (fun f => f)).trans s26
    have tu := (hG1.cell (p := ⟨gU, j, none⟩) lU (fun f => f)).trans cu
    have t0 := (hG1.cell (p := ⟨gP, j * 5, none⟩) lP (fun f => f)).trans q0
    have t1 := (hG1.cell (p := ⟨gP, j * 5 + 1, none⟩) lP (fun f => f)).trans q1
    have t2 := (hG1.cell (p := ⟨gP, j * 5 + 2, none⟩) lP (fun f => f)).trans q2
    have t3 := (hG1.cell (p := ⟨gP, j * 5 + 3, none⟩) lP (fun f => f)).trans q3
    have t4 := (hG1.cell (p := ⟨gP, j * 5 + 4, none⟩) lP (fun f => f)).trans q4
    have z0 := (hG1.cell (p := ⟨w.heap.size, 0, none⟩) yl (fun f => f)).trans y0
    have z1 := (hG1.cell (p := ⟨w.heap.size, 1, none⟩) yl (fun f => f)).trans y1
    have hsz := hG1.size
    clear s25 s26 cu ck q0 q1 q2 q3 q4 fu fP y0 y1
    go_wp2_with fail
    have kl0 : w.heap.size < w1.drew.heap.size := by show w.heap.size < w1.heap.size; omega
    have kl1 : r < w1.drew.heap.size := by show r < w1.heap.size; omega
    have kl2 : gP < w1.drew.heap.size := by show gP < w1.heap.size; omega
    go_region_held3 (fun W => W.cell? ⟨w.heap.size, 0, none⟩ = some (.int .i64 cu0) ∧ W.cell? ⟨w.heap.size, 1, none⟩ = some (.int .i64 cg0) ∧ W.cell? ⟨r, 25, none⟩ = some (.slice (some ⟨gP, 0, none⟩) n cP) ∧ W.cell? ⟨gP, j * 5, none⟩ = some (.int .i64 (S.th i).u) ∧ W.cell? ⟨gP, j * 5 + 1, none⟩ = some (.int .i64 (S.th i).g) ∧ W.cell? ⟨gP, j * 5 + 2, none⟩ = some (.int .i64 (S.th i).cu) ∧ W.cell? ⟨gP, j * 5 + 3, none⟩ = some (.int .i64 (S.th i).cg) ∧ W.cell? ⟨gP, j * 5 + 4, none⟩ = some (.int .i64 (S.th i).m)) (first | exact ⟨z0, z1, t25, t0, t1, t2, t3, t4⟩ | exact ⟨a0, a1, a2, b0, b1, b2, b3, b4⟩) (first | (go_at_call 57; refine (hal _).mono ?_; rintro e w2 ⟨rfl, hG2⟩; have a0 := (hG2.cell (p := ⟨w.heap.size, 0, none⟩) kl0 (fun f => f)).trans z0; have a1 := (hG2.cell (p := ⟨w.heap.size, 1, none⟩) kl0 (fun f => f)).trans z1; have a2 := (hG2.cell (p := ⟨r, 25, none⟩) kl1 (fun f => f)).trans t25; have b0 := (hG2.cell (p := ⟨gP, j * 5, none⟩) kl2 (fun f => f)).trans t0; have b1 := (hG2.cell (p := ⟨gP, j * 5 + 1, none⟩) kl2 (fun f => f)).trans t1; have b2 := (hG2.cell (p := ⟨gP, j * 5 + 2, none⟩) kl2 (fun f => f)).trans t2; have b3 := (hG2.cell (p := ⟨gP, j * 5 + 3, none⟩) kl2 (fun f => f)).trans t3; have b4 := (hG2.cell (p := ⟨gP, j * 5 + 4, none⟩) kl2 (fun f => f)).trans t4))
    have v26 := (hG2.cell (p := ⟨r, 26, none⟩) kl1 (fun f => f)).trans t26
    have vu := (hG2.cell (p := ⟨gU, j, none⟩) (by show gU < w1.heap.size; omega) (fun f => f)).trans tu
    have hsz2 := hG2.size
    have hsz3 : w1.heap.size ≤ w2.heap.size := hsz2
    clear t25 t26 tu t0 t1 t2 t3 t4 z0 z1 a0 a1 a2 b0 b1 b2 b3 b4
    have hGy : Same (w.alloc (.cells #[.int .i64 cu0, .int .i64 cg0] 37)) w2 := hG1.drew.next hG2
    have hGz : Same w w2 := (Gr.a1 _ _).next hGy
    cases bo
    · go_wp2
      go_ret2
      exact ⟨by first | rfl | simp, by first | exact HR.out _ hGz | simpa using HR.out _ hGz, hGz.no'⟩
    · go_wp2_with fail
      refine (HS.out _ hGy).mono ?_; rintro e w3 ⟨⟨v3, rfl⟩, hG3, u26, x3⟩
      have uu := (hG3.cell (p := ⟨gU, j, none⟩) (by show gU < w2.heap.size; omega) (fun h => by dsimp only at h; omega)).trans vu
      go_wp2
      go_ret2
      exact ⟨by first | rfl | simp, by first | exact x3 | simpa using x3, hGz.no'.trans hG3 (fun k hk e => by omega)⟩
end
end Go.Proofs
