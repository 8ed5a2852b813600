/- The reference's Names: Set. -/
import Derived.Test.YthijminlalddcaaGreatDoorRD
import Derived.Deep.DeepCutAuto
import Derived.Deep.CutBlock
set_option linter.unusedVariables false
set_option linter.unusedSimpArgs false
namespace Go.Proofs
open Go.RowKit Go.Shelf
attribute [local go_sem] Oper.semAt_some

theorem cell_al {w : World} {p : Addr} {v : Value} (h : w.cell? p = some v) (o : Obj) : (w.alloc o).cell? p = some v := (World.cell?_alloc_lt w o (a := p) (World.block_lt_of_cell? _ _ h)).trans h
theorem permsL_set : ∀ (P : List (Th Int)) (j : Nat) (hj : j < P.length) (p : Th Int), (((((PermsL P).set (j * 5) (.int .i64 p.u)).set (j * 5 + 1) (.int .i64 p.g)).set (j * 5 + 2) (.int .i64 p.cu)).set (j * 5 + 3) (.int .i64 p.cg)).set (j * 5 + 4) (.int .i64 p.m) = PermsL (P.set j p)
  | [], j, hj, _ => absurd hj (by simp)
  | x :: xs, 0, _, p => rfl
  | x :: xs, j + 1, hj, p => by
    have ih := permsL_set xs j (by simpa using hj) p
    have e : ∀ (k : Nat) (v : Value) (l : List Value), (permCells x ++ l).set ((j + 1) * 5 + k) v = permCells x ++ l.set (j * 5 + k) v := fun k v l => by
      rw [List.set_append_right _ _ (by show 5 ≤ _; omega), show (j + 1) * 5 + k - (permCells x).length = j * 5 + k by show (j + 1) * 5 + k - 5 = _; omega]
    show ((((((permCells x ++ PermsL xs)).set ((j + 1) * 5 + 0) (.int .i64 p.u)).set ((j + 1) * 5 + 1) (.int .i64 p.g)).set ((j + 1) * 5 + 2) (.int .i64 p.cu)).set ((j + 1) * 5 + 3) (.int .i64 p.cg)).set ((j + 1) * 5 + 4) (.int .i64 p.m) = permCells x ++ PermsL (xs.set j p)
    rw [e, e, e, e, e, ← ih]
    rfl
section
variable {w0 w : World} {r N : Nat} {S : St Int}
variable {V : Nat → Int} {K : List Int} {P : List (Th Int)} {U : List Int} {kv pv uv : Value} {gP n cP : Nat}
theorem RS.setP (h : RS w0 w r S V K P U kv (.slice (some ⟨gP, 0, none⟩) n cP) uv) {j : Nat} (hj : j < P.length) (hrP : r < gP) (p : Th Int) (S' : St Int) (hS : S'.sq = S.sq ∧ S'.hd = S.hd) {w' : World}
    (hw : w' = ((((w.setCell ⟨gP, j * 5, none⟩ (.int .i64 p.u)).setCell ⟨gP, j * 5 + 1, none⟩ (.int .i64 p.g)).setCell ⟨gP, j * 5 + 2, none⟩ (.int .i64 p.cu)).setCell ⟨gP, j * 5 + 3, none⟩ (.int .i64 p.cg)).setCell ⟨gP, j * 5 + 4, none⟩ (.int .i64 p.m)) :
    RS w0 w' r S' V K (P.set j p) U kv (.slice (some ⟨gP, 0, none⟩) n cP) uv ∧ Gr w w' (fun k => k = gP) := by
  subst hw
  have hG := ((((((Gr.refl w (fun k => k = gP)).set1 (j * 5) (.int .i64 p.u)).set1 (j * 5 + 1) (.int .i64 p.g)).set1 (j * 5 + 2) (.int .i64 p.cu)).set1 (j * 5 + 3) (.int .i64 p.cg)).set1 (j * 5 + 4) (.int .i64 p.m))
  have hkp : kv.ownBlock ≠ some gP := by
    rcases own_ne h.rk h.rp (by decide) with e | e
    · rw [e]; simp
    · exact e
  have hup : uv.ownBlock ≠ some gP := by
    rcases own_ne h.ru h.rp (by decide) with e | e
    · rw [e]; simp
    · exact e
  have other : ∀ {b s m : Nat} {e : TypeId} {v : Value} {xs : List Value}, w.ownsRow b e s v m xs → v.ownBlock ≠ some gP → World.ownsRow (((((w.setCell ⟨gP, j * 5, none⟩ (.int .i64 p.u)).setCell ⟨gP, j * 5 + 1, none⟩ (.int .i64 p.g)).setCell ⟨gP, j * 5 + 2, none⟩ (.int .i64 p.cu)).setCell ⟨gP, j * 5 + 3, none⟩ (.int .i64 p.cg)).setCell ⟨gP, j * 5 + 4, none⟩ (.int .i64 p.m)) b e s v m xs := fun h1 h2 =>
    ownsRow_setCell_other (ownsRow_setCell_other (ownsRow_setCell_other (ownsRow_setCell_other (ownsRow_setCell_other h1 h2 _) h2 _) h2 _) h2 _) h2 _
  refine ⟨⟨?_, other h.rk hkp, ?_, other h.ru hup, by rw [List.length_set]; exact h.lp, h.lu, h.ku, ?_, h.g.trans hG (fun k hk e => by have := h.hr; omega), h.hr⟩, hG⟩
  · have := hG.blk h.rf (fun e => by omega)
    unfold Rf refCells
    rw [hS.1, hS.2]
    exact this
  · have hp := h.rp
    rcases hp.2 with ⟨e, _⟩ | ⟨g, cap, cur, e, hb, hg, h1, h2, h3, h4⟩
    · cases e
    · cases e
      have hb' : Blk w gP 39 cur := hg
      have hb5 := ((((hb'.set_ (j * 5) (.int .i64 p.u)).set_ (j * 5 + 1) (.int .i64 p.g)).set_ (j * 5 + 2) (.int .i64 p.cu)).set_ (j * 5 + 3) (.int .i64 p.cg)).set_ (j * 5 + 4) (.int .i64 p.m)
      rw [List.length_set]
      have hlen := permsL_length P
      refine ⟨by rw [permsL_length, List.length_set], .inr ⟨gP, _, _, rfl, hb, hb5, h1, h2, by simpa using h3, ?_⟩⟩
      simp only [Array.toList_setIfInBounds, List.take_set]
      rw [h4]
      exact permsL_set P j hj p
  · intro x hx
    rw [hS.1]
    exact h.ok x hx

set_option maxRecDepth 100000 in
set_option maxHeartbeats 40000000 in
theorem rnSet (x : RA w0 w r N S) (hN1 : N ≤ 1000) (cu0 cg0 id uid gid mode : Int) :
    Calls Tryz.prog 25 #[.pointer (some ⟨r, 0, none⟩), .agg #[.int .i64 cu0, .int .i64 cg0], .int .i64 id, .int .i64 uid, .int .i64 gid, .int .i64 mode] w fun e w' => e = .returned (.int .i64 (nsE (S.getT id zthI) (S.getE id) cu0 cg0 uid gid mode)) ∧ RA w0 w' r N (if nsE (S.getT id zthI) (S.getE id) cu0 cg0 uid gid mode = 0 then S.setI id ((S.getT id zthI).setP uid gid mode) else S) ∧ Gr w w' (Beh w r) := by
  have hc0 : Blk (w.alloc (.cells #[.int .i64 cu0, .int .i64 cg0] 37)) w.heap.size 37 #[.int .i64 cu0, .int .i64 cg0] := Blk.new _ _ _ _ rfl
  have x1 := x.same (Gr.a1 w (.cells #[.int .i64 cu0, .int .i64 cg0] 37))
  obtain ⟨V, K, P, U, kv, pv, uv, hA, a, hN⟩ := x1
  cases hp : S.place id with
  | none =>
    have e1 : S.getE id = 100 := by unfold St.getE; rw [hp]
    have e2 : nsE (S.getT id zthI) 100 cu0 cg0 uid gid mode = 100 := by unfold nsE; rw [if_pos (by decide)]
    rw [e1, e2, if_neg (by decide)]
    have hg := rget r S V kv pv uv hA.ok id _ hA.rf
    rw [e1] at hg
    have HR : Hid (∀ w', Same w w' → RA w0 w' r N S) := Lib.hid (fun w' hG => x.same hG)
    clear hp e1 e2 x
    go_enter Tryz.func25, Tryz.ntmps25
    go_wp2_with fail
    refine hg.mono ?_; rintro e w1 ⟨rfl, hG1⟩
    go_wp2
    go_ret
    exact ⟨rfl, HR.out _ ((Gr.a1 _ _).next hG1), ((Gr.a1 _ _).next hG1).no'⟩
  | some i =>
    obtain ⟨j, n, gK, cK, gP, cP, gU, cU, hV, hj, hn, rfl, rfl, rfl, rK, rP, rU, lK, lP, lU, ck, cu, fu, q0, q1, q2, q3, q4, fP⟩ := hA.found a hp
    have e1 : S.getE id = 0 := by unfold St.getE; rw [hp]
    have e2 : S.getT id zthI = S.th i := by unfold St.getT; rw [hp]
    have e3 : rG S V id = j := by unfold rG; rw [hp]; exact hV
    have hg := rget r S V _ _ _ hA.ok id _ hA.rf
    rw [e1, e3] at hg
    rw [e1, e2]
    have hj0 : (0 : Int) ≤ j := by omega
    have hj1 : (j : Int) < n := by omega
    have hn9 : n ≤ 1000 := by omega
    have s25 := rf25 hA
    have HBP : Hid (∀ cs, ¬ Blk w gP 41 cs) := Lib.hid (fun cs hb => own_not hA.rp rfl (by decide) cs (hb.alloc _))
    have hr := hA.lt
    have y0 : _ = some (Value.int .i64 cu0) := hc0.cell 0
    have y1 : _ = some (Value.int .i64 cg0) := hc0.cell 1
    have yl := hc0.lt
    have e4 : nsE (S.th i) 0 cu0 cg0 uid gid mode = stE cu0 cg0 (S.th i).u (S.th i).g (S.th i).cu (S.th i).cg (S.th i).m uid gid mode := by unfold nsE; rw [if_neg (by decide)]
    rw [e4]
    have HR : Hid (∀ w', Same w w' → RA w0 w' r N S) := Lib.hid (fun w' hG => x.same hG)
    by_cases hst : stE cu0 cg0 (S.th i).u (S.th i).g (S.th i).cu (S.th i).cg (S.th i).m uid gid mode = 0
    · have hal : ∀ W, Calls Tryz.prog 55 #[.agg #[.int .i64 cu0, .int .i64 cg0], .agg #[.int .i64 (S.th i).u, .int .i64 (S.th i).g, .int .i64 (S.th i).cu, .int .i64 (S.th i).cg, .int .i64 (S.th i).m], .int .i64 uid, .int .i64 gid, .int .i64 mode] W fun e w' => e = .returned (.tuple #[.agg #[.int .i64 uid, .int .i64 gid, .int .i64 (S.th i).cu, .int .i64 (S.th i).cg, .int .i64 mode], .int .i64 0]) ∧ Same W w' := fun W => by
        have := set_r cu0 cg0 (S.th i).u (S.th i).g (S.th i).cu (S.th i).cg (S.th i).m uid gid mode W
        rwa [setV_ok hst] at this
      rw [hst, if_pos rfl]
      have e5 : S.setI id ((S.th i).setP uid gid mode) = S.setT i ((S.th i).setP uid gid mode) := by unfold St.setI; rw [hp]
      have HS : Hid (∀ w2, Same (w.alloc (.cells #[.int .i64 cu0, .int .i64 cg0] 37)) w2 → ∀ w', w' = ((((w2.setCell ⟨gP, j * 5, none⟩ (.int .i64 uid)).setCell ⟨gP, j * 5 + 1, none⟩ (.int .i64 gid)).setCell ⟨gP, j * 5 + 2, none⟩ (.int .i64 (S.th i).cu)).setCell ⟨gP, j * 5 + 3, none⟩ (.int .i64 (S.th i).cg)).setCell ⟨gP, j * 5 + 4, none⟩ (.int .i64 mode) → RA w0 w' r N (S.setI id ((S.th i).setP uid gid mode)) ∧ Gr w2 w' (fun k => k = gP)) := Lib.hid (fun w2 hG w' hw => by
        obtain ⟨h1, h2⟩ := (hA.same hG).setP (j := j) (by rw [hA.lp, hn]; exact hj) rP ((S.th i).setP uid gid mode) (S.setI id ((S.th i).setP uid gid mode)) (by rw [e5]; exact ⟨rfl, rfl⟩) hw
        exact ⟨⟨V, K, _, U, _, _, _, h1, agr_setP a hA.lp hp hV uid gid mode _ rfl, hN⟩, h2⟩)
      clear hp e1 e2 e3 e4 e5 hV hn hst x
      go_enter Tryz.func25, Tryz.ntmps25
      go_wp2_with fail
      refine hg.mono ?_; rintro e w1 ⟨rfl, hG1⟩
      have t25 := (hG1.cell (p := ⟨r, 25, none⟩) hr (fun f => f)).trans s25
      have t0 := (hG1.cell (p := ⟨gP, j * 5, none⟩) lP (fun f => f)).trans q0
      have t1 := (hG1.cell (p := ⟨gP, j * 5 + 1, none⟩) lP (fun f => f)).trans q1
      have t2 := (hG1.cell (p := ⟨gP, j * 5 + 2, none⟩) lP (fun f => f)).trans q2
      have t3 := (hG1.cell (p := ⟨gP, j * 5 + 3, none⟩) lP (fun f => f)).trans q3
      have t4 := (hG1.cell (p := ⟨gP, j * 5 + 4, none⟩) lP (fun f => f)).trans q4
      have z0 := (hG1.cell (p := ⟨w.heap.size, 0, none⟩) yl (fun f => f)).trans y0
      have z1 := (hG1.cell (p := ⟨w.heap.size, 1, none⟩) yl (fun f => f)).trans y1
      have hsz := hG1.size
      have FP := Lib.hid fP
      clear s25 cu ck q0 q1 q2 q3 q4 fu fP y0 y1
      have hb0 : Blk (w1.alloc (.cells #[.int .i64 0, .int .i64 0, .int .i64 0, .int .i64 0, .int .i64 0] 39)).drew w1.heap.size 39 #[.int .i64 0, .int .i64 0, .int .i64 0, .int .i64 0, .int .i64 0] := Blk.new _ _ _ _ rfl
      have alz0 : (w1.alloc (.cells #[.int .i64 0, .int .i64 0, .int .i64 0, .int .i64 0, .int .i64 0] 39)).drew.cell? _ = _ := cell_al z0 _
      have alz1 : (w1.alloc (.cells #[.int .i64 0, .int .i64 0, .int .i64 0, .int .i64 0, .int .i64 0] 39)).drew.cell? _ = _ := cell_al z1 _
      have alt25 : (w1.alloc (.cells #[.int .i64 0, .int .i64 0, .int .i64 0, .int .i64 0, .int .i64 0] 39)).drew.cell? _ = _ := cell_al t25 _
      have alt0 : (w1.alloc (.cells #[.int .i64 0, .int .i64 0, .int .i64 0, .int .i64 0, .int .i64 0] 39)).drew.cell? _ = _ := cell_al t0 _
      have alt1 : (w1.alloc (.cells #[.int .i64 0, .int .i64 0, .int .i64 0, .int .i64 0, .int .i64 0] 39)).drew.cell? _ = _ := cell_al t1 _
      have alt2 : (w1.alloc (.cells #[.int .i64 0, .int .i64 0, .int .i64 0, .int .i64 0, .int .i64 0] 39)).drew.cell? _ = _ := cell_al t2 _
      have alt3 : (w1.alloc (.cells #[.int .i64 0, .int .i64 0, .int .i64 0, .int .i64 0, .int .i64 0] 39)).drew.cell? _ = _ := cell_al t3 _
      have alt4 : (w1.alloc (.cells #[.int .i64 0, .int .i64 0, .int .i64 0, .int .i64 0, .int .i64 0] 39)).drew.cell? _ = _ := cell_al t4 _
      go_upto_region 4 with fail
      go_cut [15, 16] (fun s15 s16 wx => ∃ bp, s15 = .pointer (some ⟨bp, 0, none⟩) ∧ s16 = .int .i64 0 ∧ wx.cell? ⟨bp, 0, none⟩ = some (.int .i64 uid) ∧ wx.cell? ⟨bp, 1, none⟩ = some (.int .i64 gid) ∧ wx.cell? ⟨bp, 2, none⟩ = some (.int .i64 (S.th i).cu) ∧ wx.cell? ⟨bp, 3, none⟩ = some (.int .i64 (S.th i).cg) ∧ wx.cell? ⟨bp, 4, none⟩ = some (.int .i64 mode) ∧ Same w1 wx)
      case first =>
        go_region_with (first | (go_at_call 55; refine (hal _).mono ?_; rintro e w2 ⟨rfl, hG2⟩; first | (have hb2 := hG2.blk hb0 (fun f => f); have p0 := hb2.cell 0; have f0 := hb2.frozen 0; have p1 := hb2.cell 1; have f1 := hb2.frozen 1; have p2 := hb2.cell 2; have f2 := hb2.frozen 2; have p3 := hb2.cell 3; have f3 := hb2.frozen 3; have p4 := hb2.cell 4; have f4 := hb2.frozen 4; simp at p0 p1 p2 p3 p4) | skip))
        all_goals (go_wp2_with fail)
        all_goals go_meet
        all_goals first
          | (have hbe := (((((hb2.set_ 0 (.int .i64 uid)).set_ 1 (.int .i64 gid)).set_ 2 (.int .i64 (S.th i).cu)).set_ 3 (.int .i64 (S.th i).cg)).set_ 4 (.int .i64 mode)); exact ⟨_, rfl, rfl, hbe.cell 0, hbe.cell 1, hbe.cell 2, hbe.cell 3, hbe.cell 4, ((((((Gr.a1 w1 _).drew.next hG2).setCell (.inr (Nat.le_refl _)) _).setCell (.inr (Nat.le_refl _)) _).setCell (.inr (Nat.le_refl _)) _).setCell (.inr (Nat.le_refl _)) _).setCell (.inr (Nat.le_refl _)) _⟩)
          | (have hbe := Blk.new w2 39 #[.int .i64 uid, .int .i64 gid, .int .i64 (S.th i).cu, .int .i64 (S.th i).cg, .int .i64 mode] _ rfl; exact ⟨_, rfl, rfl, hbe.cell 0, hbe.cell 1, hbe.cell 2, hbe.cell 3, hbe.cell 4, ((Gr.refl w1 _).drew.next hG2).alloc _⟩)
      case rest =>
        obtain ⟨bp, rfl, rfl, b0, b1, b2, b3, b4, hGx⟩ := hcut
        have hGy := hG1.next hGx
        have u25 := (hGx.cell (p := ⟨r, 25, none⟩) (by show r < w1.heap.size; omega) (fun f => f)).trans t25
        have c0 := (hGx.cell (p := ⟨gP, j * 5, none⟩) (by show gP < w1.heap.size; omega) (fun f => f)).trans t0
        have f0 := (hGx.frozen (p := ⟨gP, j * 5 + 0, none⟩) (by show gP < w1.heap.size; omega) (fun f => f)).trans ((hG1.frozen (p := ⟨gP, j * 5 + 0, none⟩) lP (fun f => f)).trans (FP.out 0 (by omega)))
        have c1 := (hGx.cell (p := ⟨gP, j * 5 + 1, none⟩) (by show gP < w1.heap.size; omega) (fun f => f)).trans t1
        have f1 := (hGx.frozen (p := ⟨gP, j * 5 + 1, none⟩) (by show gP < w1.heap.size; omega) (fun f => f)).trans ((hG1.frozen (p := ⟨gP, j * 5 + 1, none⟩) lP (fun f => f)).trans (FP.out 1 (by omega)))
        have c2 := (hGx.cell (p := ⟨gP, j * 5 + 2, none⟩) (by show gP < w1.heap.size; omega) (fun f => f)).trans t2
        have f2 := (hGx.frozen (p := ⟨gP, j * 5 + 2, none⟩) (by show gP < w1.heap.size; omega) (fun f => f)).trans ((hG1.frozen (p := ⟨gP, j * 5 + 2, none⟩) lP (fun f => f)).trans (FP.out 2 (by omega)))
        have c3 := (hGx.cell (p := ⟨gP, j * 5 + 3, none⟩) (by show gP < w1.heap.size; omega) (fun f => f)).trans t3
        have f3 := (hGx.frozen (p := ⟨gP, j * 5 + 3, none⟩) (by show gP < w1.heap.size; omega) (fun f => f)).trans ((hG1.frozen (p := ⟨gP, j * 5 + 3, none⟩) lP (fun f => f)).trans (FP.out 3 (by omega)))
        have c4 := (hGx.cell (p := ⟨gP, j * 5 + 4, none⟩) (by show gP < w1.heap.size; omega) (fun f => f)).trans t4
        have f4 := (hGx.frozen (p := ⟨gP, j * 5 + 4, none⟩) (by show gP < w1.heap.size; omega) (fun f => f)).trans ((hG1.frozen (p := ⟨gP, j * 5 + 4, none⟩) lP (fun f => f)).trans (FP.out 4 (by omega)))
        simp only [Nat.add_zero] at f0
        clear z0 z1 t25 t0 t1 t2 t3 t4
        go_wp2_with fail
        go_region
        go_wp2
        go_ret
        obtain ⟨h1, h2⟩ := HS.out _ hGy.drew _ rfl
        exact ⟨rfl, h1, (((Gr.a1 _ _).next hGy.drew).no'.trans h2 (fun k hk e => by subst e; exact ⟨by omega, HBP.out⟩))⟩
    · have hal : ∀ W, Calls Tryz.prog 55 #[.agg #[.int .i64 cu0, .int .i64 cg0], .agg #[.int .i64 (S.th i).u, .int .i64 (S.th i).g, .int .i64 (S.th i).cu, .int .i64 (S.th i).cg, .int .i64 (S.th i).m], .int .i64 uid, .int .i64 gid, .int .i64 mode] W fun e w' => e = .returned (.tuple #[.agg #[.int .i64 0, .int .i64 0, .int .i64 0, .int .i64 0, .int .i64 0], .int .i64 (stE cu0 cg0 (S.th i).u (S.th i).g (S.th i).cu (S.th i).cg (S.th i).m uid gid mode)]) ∧ Same W w' := fun W => by
        have := set_r cu0 cg0 (S.th i).u (S.th i).g (S.th i).cu (S.th i).cg (S.th i).m uid gid mode W
        rwa [setV_no hst] at this
      rw [if_neg hst]
      generalize stE cu0 cg0 (S.th i).u (S.th i).g (S.th i).cu (S.th i).cg (S.th i).m uid gid mode = f at *
      have hf1 : (f == 0) = false := by simp [hst]
      clear hp e1 e2 e3 e4 hV hn hst x
      go_enter Tryz.func25, Tryz.ntmps25
      go_wp2_with fail
      refine hg.mono ?_; rintro e w1 ⟨rfl, hG1⟩
      have t25 := (hG1.cell (p := ⟨r, 25, none⟩) hr (fun f => f)).trans s25
      have t0 := (hG1.cell (p := ⟨gP, j * 5, none⟩) lP (fun f => f)).trans q0
      have t1 := (hG1.cell (p := ⟨gP, j * 5 + 1, none⟩) lP (fun f => f)).trans q1
      have t2 := (hG1.cell (p := ⟨gP, j * 5 + 2, none⟩) lP (fun f => f)).trans q2
      have t3 := (hG1.cell (p := ⟨gP, j * 5 + 3, none⟩) lP (fun f => f)).trans q3
      have t4 := (hG1.cell (p := ⟨gP, j * 5 + 4, none⟩) lP (fun f => f)).trans q4
      have z0 := (hG1.cell (p := ⟨w.heap.size, 0, none⟩) yl (fun f => f)).trans y0
      have z1 := (hG1.cell (p := ⟨w.heap.size, 1, none⟩) yl (fun f => f)).trans y1
      have hsz := hG1.size
      have FP := Lib.hid fP
      clear s25 cu ck q0 q1 q2 q3 q4 fu fP y0 y1
      have hb0 : Blk (w1.alloc (.cells #[.int .i64 0, .int .i64 0, .int .i64 0, .int .i64 0, .int .i64 0] 39)).drew w1.heap.size 39 #[.int .i64 0, .int .i64 0, .int .i64 0, .int .i64 0, .int .i64 0] := Blk.new _ _ _ _ rfl
      have alz0 : (w1.alloc (.cells #[.int .i64 0, .int .i64 0, .int .i64 0, .int .i64 0, .int .i64 0] 39)).drew.cell? _ = _ := cell_al z0 _
      have alz1 : (w1.alloc (.cells #[.int .i64 0, .int .i64 0, .int .i64 0, .int .i64 0, .int .i64 0] 39)).drew.cell? _ = _ := cell_al z1 _
      have alt25 : (w1.alloc (.cells #[.int .i64 0, .int .i64 0, .int .i64 0, .int .i64 0, .int .i64 0] 39)).drew.cell? _ = _ := cell_al t25 _
      have alt0 : (w1.alloc (.cells #[.int .i64 0, .int .i64 0, .int .i64 0, .int .i64 0, .int .i64 0] 39)).drew.cell? _ = _ := cell_al t0 _
      have alt1 : (w1.alloc (.cells #[.int .i64 0, .int .i64 0, .int .i64 0, .int .i64 0, .int .i64 0] 39)).drew.cell? _ = _ := cell_al t1 _
      have alt2 : (w1.alloc (.cells #[.int .i64 0, .int .i64 0, .int .i64 0, .int .i64 0, .int .i64 0] 39)).drew.cell? _ = _ := cell_al t2 _
      have alt3 : (w1.alloc (.cells #[.int .i64 0, .int .i64 0, .int .i64 0, .int .i64 0, .int .i64 0] 39)).drew.cell? _ = _ := cell_al t3 _
      have alt4 : (w1.alloc (.cells #[.int .i64 0, .int .i64 0, .int .i64 0, .int .i64 0, .int .i64 0] 39)).drew.cell? _ = _ := cell_al t4 _
      go_upto_region 4 with fail
      go_cut [15, 16] (fun s15 s16 wx => ∃ bp, s15 = .pointer (some ⟨bp, 0, none⟩) ∧ s16 = .int .i64 f ∧ wx.cell? ⟨bp, 0, none⟩ = some (.int .i64 0) ∧ wx.cell? ⟨bp, 1, none⟩ = some (.int .i64 0) ∧ wx.cell? ⟨bp, 2, none⟩ = some (.int .i64 0) ∧ wx.cell? ⟨bp, 3, none⟩ = some (.int .i64 0) ∧ wx.cell? ⟨bp, 4, none⟩ = some (.int .i64 0) ∧ Same w1 wx)
      case first =>
        go_region_with (first | (go_at_call 55; refine (hal _).mono ?_; rintro e w2 ⟨rfl, hG2⟩; first | (have hb2 := hG2.blk hb0 (fun f => f); have p0 := hb2.cell 0; have f0 := hb2.frozen 0; have p1 := hb2.cell 1; have f1 := hb2.frozen 1; have p2 := hb2.cell 2; have f2 := hb2.frozen 2; have p3 := hb2.cell 3; have f3 := hb2.frozen 3; have p4 := hb2.cell 4; have f4 := hb2.frozen 4; simp at p0 p1 p2 p3 p4) | skip))
        all_goals (go_wp2_with fail)
        all_goals go_meet
        all_goals first
          | (have hbe := (((((hb2.set_ 0 (.int .i64 0)).set_ 1 (.int .i64 0)).set_ 2 (.int .i64 0)).set_ 3 (.int .i64 0)).set_ 4 (.int .i64 0)); exact ⟨_, rfl, rfl, hbe.cell 0, hbe.cell 1, hbe.cell 2, hbe.cell 3, hbe.cell 4, ((((((Gr.a1 w1 _).drew.next hG2).setCell (.inr (Nat.le_refl _)) _).setCell (.inr (Nat.le_refl _)) _).setCell (.inr (Nat.le_refl _)) _).setCell (.inr (Nat.le_refl _)) _).setCell (.inr (Nat.le_refl _)) _⟩)
          | (have hbe := Blk.new w2 39 #[.int .i64 0, .int .i64 0, .int .i64 0, .int .i64 0, .int .i64 0] _ rfl; exact ⟨_, rfl, rfl, hbe.cell 0, hbe.cell 1, hbe.cell 2, hbe.cell 3, hbe.cell 4, ((Gr.refl w1 _).drew.next hG2).alloc _⟩)
      case rest =>
        obtain ⟨bp, rfl, rfl, b0, b1, b2, b3, b4, hGx⟩ := hcut
        have hGz : Same w _ := ((Gr.a1 _ _).next hG1).next hGx
        clear z0 z1 t25 t0 t1 t2 t3 t4
        go_wp2
        go_ret
        exact ⟨by first | rfl | simp, HR.out _ hGz, hGz.no'⟩
end
end Go.Proofs
