/- The reference's Names: Find, Perm, Put, Set, Remove. -/
import Derived.Test.YthijminlalddcaaGreatDoorRB
import Derived.Test.YthijminlalddcaaGreatDoorCH
import Derived.Deep.RegionHeld3
import Derived.RegionTactic
set_option linter.unusedVariables false
set_option linter.unusedSimpArgs false
namespace Go.Proofs
open Go.RowKit Go.Shelf
attribute [local go_sem] Oper.semAt_some

section
variable {w0 w : World} {r : Nat} {S : St Int} {V : Nat → Int} {K : List Int} {P : List (Th Int)} {U : List Int} {kv pv uv : Value} {gU n cU : Nat}
/-- What lies in the reference's lists at a number that is found. -/
theorem RS.found (h : RS w0 w r S V K P U kv pv uv) (a : Agr S V K P U) {id : Int} {i : Nat} (hp : S.place id = some i) :
    ∃ (j n gK cK gP cP gU cU : Nat), V i = j ∧ j < n ∧ K.length = n ∧ kv = .slice (some ⟨gK, 0, none⟩) n cK ∧ pv = .slice (some ⟨gP, 0, none⟩) n cP ∧ uv = .slice (some ⟨gU, 0, none⟩) n cU ∧ r < gK ∧ r < gP ∧ r < gU ∧ gK < w.heap.size ∧ gP < w.heap.size ∧ gU < w.heap.size ∧
      w.cell? ⟨gK, j, none⟩ = some (.int .i64 (S.th i).key) ∧ w.cell? ⟨gU, j, none⟩ = some (.int .i64 (S.th i).v) ∧ w.frozen? ⟨gU, j, none⟩ = false ∧ w.cell? ⟨gP, j * 5, none⟩ = some (.int .i64 (S.th i).u) ∧ w.cell? ⟨gP, j * 5 + 1, none⟩ = some (.int .i64 (S.th i).g) ∧ w.cell? ⟨gP, j * 5 + 2, none⟩ = some (.int .i64 (S.th i).cu) ∧ w.cell? ⟨gP, j * 5 + 3, none⟩ = some (.int .i64 (S.th i).cg) ∧ w.cell? ⟨gP, j * 5 + 4, none⟩ = some (.int .i64 (S.th i).m) ∧ ∀ k, k < 5 → w.frozen? ⟨gP, j * 5 + k, none⟩ = false := by
  obtain ⟨hi, hd, _⟩ := place_get hp
  obtain ⟨j, e1, e2, e3, e4, e5⟩ := a.at_ i hi hd
  obtain ⟨gK, cK, k1, k2, k3, k4, k5, _⟩ := own_int_at h.rk e3
  obtain ⟨gU, cU, u1, u2, u3, u4, u5, u6⟩ := own_int_at h.ru e5
  obtain ⟨gP, cP, p1, p2, p3, p4, p5⟩ := own_perm_at h.rp (j := j) (by rw [h.lp]; exact e2)
  rw [h.lp] at p1
  rw [h.lu] at u1
  rw [e4] at p5
  exact ⟨j, K.length, gK, cK, gP, cP, gU, cU, e1, e2, rfl, k1, p1, u1, by omega, by omega, by omega, k3, p3, u3, k5, u5, u6, (p5 0 (by omega)).1, (p5 1 (by omega)).1, (p5 2 (by omega)).1, (p5 3 (by omega)).1, (p5 4 (by omega)).1, fun k hk => (p5 k hk).2⟩
theorem rf24 (h : RS w0 w r S V K P U kv pv uv) : w.cell? ⟨r, 24, none⟩ = some kv := Blk.cell h.rf 24
theorem rf25 (h : RS w0 w r S V K P U kv pv uv) : w.cell? ⟨r, 25, none⟩ = some pv := Blk.cell h.rf 25
theorem rf26 (h : RS w0 w r S V K P U kv pv uv) : w.cell? ⟨r, 26, none⟩ = some uv := Blk.cell h.rf 26

set_option maxRecDepth 100000 in
set_option maxHeartbeats 2000000 in
theorem rnFind (h : RS w0 w r S V K P U kv pv uv) (a : Agr S V K P U) (hN : K.length ≤ 1000) (cu0 cg0 id want : Int) :
    Calls Tryz.prog 11 #[.pointer (some ⟨r, 0, none⟩), .agg #[.int .i64 cu0, .int .i64 cg0], .int .i64 id, .int .i64 want] w fun e w' => e = .returned (.tuple #[.int .i64 (fdVI (S.getT id zthI) (S.getE id) cu0 cg0 want), .int .i64 (fdEI (S.getT id zthI) (S.getE id) cu0 cg0 want)]) ∧ Same w w' := by
  have hc0 : Blk (w.alloc (.cells #[.int .i64 cu0, .int .i64 cg0] 37)) w.heap.size 37 #[.int .i64 cu0, .int .i64 cg0] := Blk.new _ _ _ _ rfl
  have hA := h.same (Gr.a1 w (.cells #[.int .i64 cu0, .int .i64 cg0] 37))
  cases hp : S.place id with
  | none =>
    have e1 : S.getE id = 100 := by unfold St.getE; rw [hp]
    have e2 : fdEI (S.getT id zthI) 100 cu0 cg0 want = 100 := by unfold fdEI; rw [if_pos (by decide)]
    have e3 : fdVI (S.getT id zthI) 100 cu0 cg0 want = 0 := by unfold fdVI; rw [e2]; rfl
    rw [e1, e2, e3]
    have hg := rget r S V kv pv uv h.ok id _ hA.rf
    rw [e1] at hg
    clear hp e1 e2 e3
    go_enter Tryz.func11, Tryz.ntmps11
    go_wp2_with fail
    refine hg.mono ?_; rintro e w1 ⟨rfl, hG1⟩
    go_wp2
    go_ret2
    exact ⟨rfl, (Gr.a1 _ _).next hG1⟩
  | some i =>
    obtain ⟨j, n, gK, cK, gP, cP, gU, cU, hV, hj, hn, rfl, rfl, rfl, rK, rP, rU, lK, lP, lU, ck, cu, fu, q0, q1, q2, q3, q4, fP⟩ := hA.found a hp
    have e1 : S.getE id = 0 := by unfold St.getE; rw [hp]
    have e2 : S.getT id zthI = S.th i := by unfold St.getT; rw [hp]
    have e3 : rG S V id = j := by unfold rG; rw [hp]; exact hV
    have hg := rget r S V _ _ _ h.ok id _ hA.rf
    rw [e1, e3] at hg
    rw [e1, e2]
    have hj0 : (0 : Int) ≤ j := by omega
    have hj1 : (j : Int) < n := by omega
    have hn9 : n ≤ 1000 := by omega
    by_cases hw : want = 0
    · subst hw
      have e4 : fdEI (S.th i) 0 cu0 cg0 0 = 0 := rfl
      have e5 : fdVI (S.th i) 0 cu0 cg0 0 = (S.th i).v := rfl
      rw [e4, e5]
      have s26 := rf26 hA
      have hr := hA.lt
      clear hp e1 e2 e3 e4 e5 hV hn
      go_enter Tryz.func11, Tryz.ntmps11
      go_wp2_with fail
      refine hg.mono ?_; rintro e w1 ⟨rfl, hG1⟩
      have t26 := (hG1.cell (p := ⟨r, 26, none⟩) hr (fun f => f)).trans s26
      have tu := (hG1.cell (p := ⟨gU, j, none⟩) lU (fun f => f)).trans cu
      clear s26 cu ck q0 q1 q2 q3 q4 fu fP
      go_wp2
      go_ret2
      exact ⟨rfl, (Gr.a1 _ _).next hG1⟩
    · have hw' : (want != 0) = true := by simp [hw]
      obtain ⟨f, hf⟩ : ∃ f, allowedV cu0 cg0 (S.th i).u (S.th i).g (S.th i).cu (S.th i).cg (S.th i).m want = f := ⟨_, rfl⟩
      have e4 : fdEI (S.th i) 0 cu0 cg0 want = f := by unfold fdEI; rw [if_neg (by decide), if_neg hw, hf]
      have e5 : fdVI (S.th i) 0 cu0 cg0 want = if f = 0 then (S.th i).v else 0 := by unfold fdVI; rw [e4]
      have hal : ∀ W, Calls Tryz.prog 35 #[.agg #[.int .i64 cu0, .int .i64 cg0], .agg #[.int .i64 (S.th i).u, .int .i64 (S.th i).g, .int .i64 (S.th i).cu, .int .i64 (S.th i).cg, .int .i64 (S.th i).m], .int .i64 want] W fun e w' => e = .returned (.int .i64 f) ∧ Same W w' := fun W => by
        have := allowed_r cu0 cg0 (S.th i).u (S.th i).g (S.th i).cu (S.th i).cg (S.th i).m want W
        rwa [hf] at this
      rw [e4, e5]
      have s25 := rf25 hA
      have s26 := rf26 hA
      have hr := hA.lt
      have y0 : _ = some (Value.int .i64 cu0) := hc0.cell 0
      have y1 : _ = some (Value.int .i64 cg0) := hc0.cell 1
      have yl := hc0.lt
      clear hp e1 e2 e3 e4 e5 hV hn hw hf
      go_enter Tryz.func11, Tryz.ntmps11
      go_wp2_with fail
      refine hg.mono ?_; rintro e w1 ⟨rfl, hG1⟩
      have t25 := (hG1.cell (p := ⟨r, 25, none⟩) hr (fun f => f)).trans s25
      have t26 := (hG1.cell (p := ⟨r, 26, none⟩) hr (fun f => f)).trans s26
      have tu := (hG1.cell (p := ⟨gU, j, none⟩) lU (fun f => f)).trans cu
      have t0 := (hG1.cell (p := ⟨gP, j * 5, none⟩) lP (fun f => f)).trans q0
      have t1 := (hG1.cell (p := ⟨gP, j * 5 + 1, none⟩) lP (fun f => f)).trans q1
      have t2 := (hG1.cell (p := ⟨gP, j * 5 + 2, none⟩) lP (fun f => f)).trans q2
      have t3 := (hG1.cell (p := ⟨gP, j * 5 + 3, none⟩) lP (fun f => f)).trans q3
      have t4 := (hG1.cell (p := ⟨gP, j * 5 + 4, none⟩) lP (fun f => f)).trans q4
      have z0 := (hG1.cell (p := ⟨w.heap.size, 0, none⟩) yl (fun f => f)).trans y0
      have z1 := (hG1.cell (p := ⟨w.heap.size, 1, none⟩) yl (fun f => f)).trans y1
      have hsz := hG1.size
      clear s25 s26 cu ck q0 q1 q2 q3 q4 fu fP y0 y1
      go_wp2_with fail
      have kl0 : w.heap.size < w1.drew.heap.size := by show w.heap.size < w1.heap.size; omega
      have kl1 : r < w1.drew.heap.size := by show r < w1.heap.size; omega
      have kl2 : gP < w1.drew.heap.size := by show gP < w1.heap.size; omega
      go_region_held3 (fun W => W.cell? ⟨w.heap.size, 0, none⟩ = some (.int .i64 cu0) ∧ W.cell? ⟨w.heap.size, 1, none⟩ = some (.int .i64 cg0) ∧ W.cell? ⟨r, 25, none⟩ = some (.slice (some ⟨gP, 0, none⟩) n cP) ∧ W.cell? ⟨gP, j * 5, none⟩ = some (.int .i64 (S.th i).u) ∧ W.cell? ⟨gP, j * 5 + 1, none⟩ = some (.int .i64 (S.th i).g) ∧ W.cell? ⟨gP, j * 5 + 2, none⟩ = some (.int .i64 (S.th i).cu) ∧ W.cell? ⟨gP, j * 5 + 3, none⟩ = some (.int .i64 (S.th i).cg) ∧ W.cell? ⟨gP, j * 5 + 4, none⟩ = some (.int .i64 (S.th i).m)) (first | exact ⟨z0, z1, t25, t0, t1, t2, t3, t4⟩ | exact ⟨a0, a1, a2, b0, b1, b2, b3, b4⟩) (first | (go_at_call 35; refine (hal _).mono ?_; rintro e w2 ⟨rfl, hG2⟩; have a0 := (hG2.cell (p := ⟨w.heap.size, 0, none⟩) kl0 (fun f => f)).trans z0; have a1 := (hG2.cell (p := ⟨w.heap.size, 1, none⟩) kl0 (fun f => f)).trans z1; have a2 := (hG2.cell (p := ⟨r, 25, none⟩) kl1 (fun f => f)).trans t25; have b0 := (hG2.cell (p := ⟨gP, j * 5, none⟩) kl2 (fun f => f)).trans t0; have b1 := (hG2.cell (p := ⟨gP, j * 5 + 1, none⟩) kl2 (fun f => f)).trans t1; have b2 := (hG2.cell (p := ⟨gP, j * 5 + 2, none⟩) kl2 (fun f => f)).trans t2; have b3 := (hG2.cell (p := ⟨gP, j * 5 + 3, none⟩) kl2 (fun f => f)).trans t3; have b4 := (hG2.cell (p := ⟨gP, j * 5 + 4, none⟩) kl2 (fun f => f)).trans t4))
      have v26 := (hG2.cell (p := ⟨r, 26, none⟩) (by show r < w1.heap.size; omega) (fun f => f)).trans t26
      have vu := (hG2.cell (p := ⟨gU, j, none⟩) (by show gU < w1.heap.size; omega) (fun f => f)).trans tu
      clear t25 t26 tu t0 t1 t2 t3 t4 z0 z1 a0 a1 a2 b0 b1 b2 b3 b4
      have hGz : Same w w2 := (((Gr.a1 _ _).next hG1).drew).next hG2
      rcases (show f = 0 ∨ f ≠ 0 by omega) with rfl | hf0
      · go_wp2
        go_ret2
        exact ⟨by first | rfl | simp, hGz⟩
      · have hf1 : (f != 0) = true := by simp [hf0]
        have HF0 := Lib.hid hf0
        clear hf0
        go_wp2
        go_ret2
        exact ⟨by first | rfl | simp [HF0.out], hGz⟩

set_option maxRecDepth 100000 in
set_option maxHeartbeats 2000000 in
theorem rnPerm (h : RS w0 w r S V K P U kv pv uv) (a : Agr S V K P U) (hN : K.length ≤ 1000) (id : Int) :
    Calls Tryz.prog 13 #[.pointer (some ⟨r, 0, none⟩), .int .i64 id] w fun e w' => e = .returned (.tuple #[.agg #[.int .i64 (pt S id).u, .int .i64 (pt S id).g, .int .i64 (pt S id).cu, .int .i64 (pt S id).cg, .int .i64 (pt S id).m], .int .i64 (S.getE id)]) ∧ Same w w' := by
  have hA := h.same (Gr.a1 w (.cells #[.int .i64 0, .int .i64 0, .int .i64 0, .int .i64 0, .int .i64 0] 39))
  have hc0 : Blk (w.alloc (.cells #[.int .i64 0, .int .i64 0, .int .i64 0, .int .i64 0, .int .i64 0] 39)) w.heap.size 39 #[.int .i64 0, .int .i64 0, .int .i64 0, .int .i64 0, .int .i64 0] := Blk.new _ _ _ _ rfl
  cases hp : S.place id with
  | none =>
    have e1 : S.getE id = 100 := by unfold St.getE; rw [hp]
    have e2 : pt S id = zthI := by unfold pt; rw [e1]; rfl
    rw [e1, e2]
    have hg := rget r S V kv pv uv h.ok id _ hA.rf
    rw [e1] at hg
    have yl := hc0.lt
    have hc1 : ∀ w1, Same (w.alloc (.cells #[.int .i64 0, .int .i64 0, .int .i64 0, .int .i64 0, .int .i64 0] 39)) w1 → Blk w1 w.heap.size 39 #[.int .i64 0, .int .i64 0, .int .i64 0, .int .i64 0, .int .i64 0] := fun w1 hG => hG.blk hc0 (fun f => f)
    have HC := Lib.hid hc1
    clear hp e1 e2 hc1 hc0
    go_enter Tryz.func13, Tryz.ntmps13
    go_wp2_with fail
    refine hg.mono ?_; rintro e w1 ⟨rfl, hG1⟩
    have hb := HC.out w1 hG1
    have z0 := hb.cell 0
    have z1 := hb.cell 1
    have z2 := hb.cell 2
    have z3 := hb.cell 3
    have z4 := hb.cell 4
    have fr := fun o => hb.frozen o
    have hl1 := hb.lt
    have hGw := (Gr.a1 w (.cells #[.int .i64 0, .int .i64 0, .int .i64 0, .int .i64 0, .int .i64 0] 39)).next hG1
    simp at z0 z1 z2 z3 z4
    clear hb
    go_wp2
    refine bodyPost_ret (v := .tuple #[.agg #[.int .i64 0, .int .i64 0, .int .i64 0, .int .i64 0, .int .i64 0], .int .i64 100]) (by (simp [results, Tryz.results13, go_sem, z0, z1, z2, z3, z4, fr, hl1])) rfl ⟨?_, ?_⟩
    · rfl
    · repeat (first | (with_reducible exact hGw) | (with_reducible refine Gr.setCell ?_ (.inr (by dsimp only; omega)) _))
  | some i =>
    obtain ⟨j, n, gK, cK, gP, cP, gU, cU, hV, hj, hn, rfl, rfl, rfl, rK, rP, rU, lK, lP, lU, ck, cu, fu, q0, q1, q2, q3, q4, fP⟩ := hA.found a hp
    have e1 : S.getE id = 0 := by unfold St.getE; rw [hp]
    have e2 : pt S id = S.th i := by unfold pt; rw [if_pos e1]; unfold St.getT; rw [hp]
    have e3 : rG S V id = j := by unfold rG; rw [hp]; exact hV
    have hg := rget r S V _ _ _ h.ok id _ hA.rf
    rw [e1, e3] at hg
    rw [e1, e2]
    have hj0 : (0 : Int) ≤ j := by omega
    have hj1 : (j : Int) < n := by omega
    have hn9 : n ≤ 1000 := by omega
    have s25 := rf25 hA
    have hr := hA.lt
    have yl := hc0.lt
    have hc1 : ∀ w1, Same (w.alloc (.cells #[.int .i64 0, .int .i64 0, .int .i64 0, .int .i64 0, .int .i64 0] 39)) w1 → Blk w1 w.heap.size 39 #[.int .i64 0, .int .i64 0, .int .i64 0, .int .i64 0, .int .i64 0] := fun w1 hG => hG.blk hc0 (fun f => f)
    have HC := Lib.hid hc1
    clear hp e1 e2 e3 hV hn hc1 hc0
    go_enter Tryz.func13, Tryz.ntmps13
    go_wp2_with fail
    refine hg.mono ?_; rintro e w1 ⟨rfl, hG1⟩
    have t25 := (hG1.cell (p := ⟨r, 25, none⟩) hr (fun f => f)).trans s25
    have t0 := (hG1.cell (p := ⟨gP, j * 5, none⟩) lP (fun f => f)).trans q0
    have t1 := (hG1.cell (p := ⟨gP, j * 5 + 1, none⟩) lP (fun f => f)).trans q1
    have t2 := (hG1.cell (p := ⟨gP, j * 5 + 2, none⟩) lP (fun f => f)).trans q2
    have t3 := (hG1.cell (p := ⟨gP, j * 5 + 3, none⟩) lP (fun f => f)).trans q3
    have t4 := (hG1.cell (p := ⟨gP, j * 5 + 4, none⟩) lP (fun f => f)).trans q4
    have hb := HC.out w1 hG1
    have z0 := hb.cell 0
    have z1 := hb.cell 1
    have z2 := hb.cell 2
    have z3 := hb.cell 3
    have z4 := hb.cell 4
    have fr := fun o => hb.frozen o
    have hl1 := hb.lt
    have hGw := (Gr.a1 w (.cells #[.int .i64 0, .int .i64 0, .int .i64 0, .int .i64 0, .int .i64 0] 39)).next hG1
    simp at z0 z1 z2 z3 z4
    clear hb s25 cu ck q0 q1 q2 q3 q4 fu fP
    go_wp2
    refine bodyPost_ret (v := .tuple #[.agg #[.int .i64 (S.th i).u, .int .i64 (S.th i).g, .int .i64 (S.th i).cu, .int .i64 (S.th i).cg, .int .i64 (S.th i).m], .int .i64 0]) (by (simp [results, Tryz.results13, go_sem, z0, z1, z2, z3, z4, fr, hl1])) rfl ⟨?_, ?_⟩
    · rfl
    · repeat (first | (with_reducible exact hGw) | (with_reducible refine Gr.setCell ?_ (.inr (by dsimp only; omega)) _))

theorem RS.setU (h : RS w0 w r S V K P U kv pv (.slice (some ⟨gU, 0, none⟩) n cU)) {j : Nat} (hj : j < U.length) (hrU : r < gU) (v : Int) (S' : St Int) (hS : S'.sq = S.sq ∧ S'.hd = S.hd) :
    RS w0 (w.setCell ⟨gU, j, none⟩ (.int .i64 v)) r S' V K P (U.set j v) kv pv (.slice (some ⟨gU, 0, none⟩) n cU) := by
  have hG : Gr w (w.setCell ⟨gU, j, none⟩ (.int .i64 v)) (fun k => k = gU) := (Gr.refl w (fun k => k = gU)).set1 j _
  have hku : kv.ownBlock ≠ some gU := by
    rcases h.ku with e | e
    · rw [e]; simp
    · exact e
  have hpu : pv.ownBlock ≠ some gU := by
    rcases own_ne h.rp h.ru (by decide) with e | e
    · rw [e]; simp
    · exact e
  have hu0 := h.g
  refine ⟨?_, ownsRow_setCell_other h.rk hku _, ownsRow_setCell_other h.rp hpu _, ?_, h.lp, by rw [List.length_set]; exact h.lu, h.ku, ?_, h.g.trans hG (fun k hk e => by have := h.hr; omega), h.hr⟩
  · have := hG.blk h.rf (fun e => by omega)
    unfold Rf refCells
    rw [hS.1, hS.2]
    exact this
  · have hu := h.ru
    rcases hu.2 with ⟨e, _⟩ | ⟨g, cap, cur, e, hb, hg, h1, h2, h3, h4⟩
    · cases e
    · cases e
      have hb' : Blk w gU 3 cur := hg
      rw [List.length_set]
      refine ⟨by simp [Ints], .inr ⟨gU, _, cur.setIfInBounds j (.int .i64 v), rfl, hb, hb'.set_ j _, h1, h2, by simpa using h3, ?_⟩⟩
      rw [Array.toList_setIfInBounds, List.take_set, h4]
      simp [Ints, List.map_set]
  · intro x hx
    rw [hS.1]
    exact h.ok x hx
end
end Go.Proofs
