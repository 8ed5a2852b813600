/- did: an act, on both. -/
import Derived.Test.YthijminlalddcaaGreatDoorRE
import Derived.Test.YthijminlalddcaaGreatDoorRG
import Derived.Deep.RegionHeld3
import Derived.Deep.QuietTactic
import Derived.BigQuiet
set_option linter.unusedVariables false
set_option linter.unusedSimpArgs false
namespace Go.Proofs
open Go.RowKit Go.Shelf
attribute [local go_sem] Oper.semAt_some

theorem NSI.behind {w0 w w' : World} {n h r : Nat} {S : St Int} (x : NSI w0 w n h S) (hG : Gr w w' (fun k => r ≤ k)) (hn : n < r) (hh : h < r) : NSI w0 w' n h S :=
  ⟨hG.blk x.nb (fun e => by omega), hG.blk x.sl (fun e => by omega), x.ok, x.ne, x.g.trans hG (fun j hj e => by have := x.hh; omega), x.hn, x.hh, x.e0⟩
theorem RA.turned {w0 w w' : World} {n h r N : Nat} {S S' : St Int} (y : RA w0 w r N S) (x : NSI w0 w n h S') (hG : Gr w w' (fun k => k = h)) (hh : h < r) : RA w0 w' r N S :=
  y.gr hG (fun k e => by omega) (fun k e => by have := x.hh; omega)
theorem nget_r {w0 w : World} {n h : Nat} {S : St Int} (x : NSI w0 w n h S) (cu cg key flags : Int) (v : Int) (hfl : -9223372036854775808 ≤ flags ∧ flags < 9223372036854775808) (id : Int) (mk : Bool) (E : Int) (S' : St Int) (hr : gt S cu cg key flags v = ((id, mk, E), S')) :
    Calls Tryz.prog 20 #[.pointer (some ⟨n, 0, none⟩), .agg #[.int .i64 cu, .int .i64 cg], .int .i64 key, .int .i64 flags, .int .i64 v] w fun e w' => e = .returned (.tuple #[.int .i64 id, .bool mk, .int .i64 E]) ∧ NSI w0 w' n h S' ∧ Gr w w' (fun j => j = h) := by
  have := nGet_fI x cu cg key flags v hfl
  rw [hr] at this
  exact this
theorem rnget_r {w0 w : World} {r N : Nat} {S : St Int} (y : RA w0 w r N S) (hN : N ≤ 900) (cu cg key flags : Int) (v : Int) (hfl : -9223372036854775808 ≤ flags ∧ flags < 9223372036854775808) (id : Int) (mk : Bool) (E : Int) (S' : St Int) (hr : gt S cu cg key flags v = ((id, mk, E), S')) :
    Calls Tryz.prog 21 #[.pointer (some ⟨r, 0, none⟩), .agg #[.int .i64 cu, .int .i64 cg], .int .i64 key, .int .i64 flags, .int .i64 v] w fun e w' => e = .returned (.tuple #[.int .i64 id, .bool mk, .int .i64 E]) ∧ RA w0 w' r (N + 1) S' ∧ Gr w w' (fun k => r ≤ k) := by
  have := rnGet y hN cu cg key flags v hfl
  rw [hr] at this
  exact this
theorem rids_R {w0 w : World} {r N : Nat} {S : St Int} (y : RA w0 w r N S) (m : Nat) (hm : S.ids.length = m) :
    Calls Tryz.prog 7 #[.pointer (some ⟨r, 0, none⟩)] w fun e w' => ∃ A c, e = .returned (.slice A m c) ∧ RdB w' w.heap.size A S.ids ∧ Same w w' := by
  obtain ⟨V, K, P, U, kv, pv, uv, h, a, hN⟩ := y
  exact rids_m r S V kv pv uv h.ok w h.rf m hm
theorem rnFindR {w0 w : World} {r N : Nat} {S : St Int} (y : RA w0 w r N S) (hN : N ≤ 900) (cu cg id want : Int) :
    Calls Tryz.prog 11 #[.pointer (some ⟨r, 0, none⟩), .agg #[.int .i64 cu, .int .i64 cg], .int .i64 id, .int .i64 want] w fun e w' => e = .returned (.tuple #[.int .i64 (fdVI (S.getT id zthI) (S.getE id) cu cg want), .int .i64 (fdEI (S.getT id zthI) (S.getE id) cu cg want)]) ∧ RA w0 w' r N S ∧ Same w w' := by
  have y0 := y
  obtain ⟨V, K, P, U, kv, pv, uv, h, a, hK⟩ := y
  exact (rnFind h a (by omega) cu cg id want).mono fun e w' ⟨he, hG⟩ => ⟨he, y0.same hG, hG⟩
theorem rnPermR {w0 w : World} {r N : Nat} {S : St Int} (y : RA w0 w r N S) (hN : N ≤ 900) (id : Int) :
    Calls Tryz.prog 13 #[.pointer (some ⟨r, 0, none⟩), .int .i64 id] w fun e w' => e = .returned (.tuple #[.agg #[.int .i64 (pt S id).u, .int .i64 (pt S id).g, .int .i64 (pt S id).cu, .int .i64 (pt S id).cg, .int .i64 (pt S id).m], .int .i64 (S.getE id)]) ∧ RA w0 w' r N S ∧ Same w w' := by
  have y0 := y
  obtain ⟨V, K, P, U, kv, pv, uv, h, a, hK⟩ := y
  exact (rnPerm h a (by omega) id).mono fun e w' ⟨he, hG⟩ => ⟨he, y0.same hG, hG⟩
def DidPost (w0 : World) (n h r N : Nat) (w : World) (e : Ending) (w' : World) : Prop := e = .returned (.bool true) ∧ ∃ S', NSI w0 w' n h S' ∧ RA w0 w' r N S' ∧ Gr w w' (fun k => k = h ∨ r ≤ k)
theorem DidPost.mk' {w0 : World} {n h r N : Nat} {wa w w1 w2 : World} {e : Ending} {S : St Int} (he : e = .returned (.bool true)) (hGa : Same wa w) (hra : r < wa.heap.size) (x : NSI w0 w1 n h S) (hG : Gr w w1 (fun k => k = h)) (y : RA w0 w2 r N S) (hG2 : Gr w1 w2 (fun k => r ≤ k)) (hn : n < r) (hh : h < r) : DidPost w0 n h r N wa e w2 :=
  ⟨he, S, x.behind hG2 hn hh, y, (hGa.no'.trans hG (fun k hk e => .inl e)).trans hG2 (fun k hk e => .inr e)⟩

set_option maxRecDepth 100000 in
set_option maxHeartbeats 16000000 in
theorem did_any {w0 w : World} {n h r N : Nat} {S : St Int} (x : NSI w0 w n h S) (y : RA w0 w r N S) (hN : N ≤ 900) (hn : n < r) (hh : h < r) (q : AcT) (hw : q.wf) :
    Calls Tryz.prog 6 #[.pointer (some ⟨n, 0, none⟩), .pointer (some ⟨r, 0, none⟩), .agg #[.int .i64 q.d, .int .i64 q.cu, .int .i64 q.cg, .int .i64 q.key, .bool q.pl, .int .i64 q.fl, .int .i64 q.v, .int .i64 q.p0, .int .i64 q.p1, .int .i64 q.p2, .int .i64 q.p3, .int .i64 q.p4]] w (DidPost w0 n h r (N + 1) w) := by
  obtain ⟨m, hm⟩ : ∃ m, S.ids.length = m := ⟨_, rfl⟩
  have hm8 : m ≤ 8 := by rw [← hm]; exact ids8 S
  have HM := Lib.hid hm
  have hwf := hw.fl
  have hrl := y.lt
  have hnl := x.lt
  have xa : NSI w0 (w.alloc (.cells #[.int .i64 q.d, .int .i64 q.cu, .int .i64 q.cg, .int .i64 q.key, .bool q.pl, .int .i64 q.fl, .int .i64 q.v, .int .i64 q.p0, .int .i64 q.p1, .int .i64 q.p2, .int .i64 q.p3, .int .i64 q.p4] 41)) n h S := x.same (Gr.a1 _ _)
  have raa : RA w0 (w.alloc (.cells #[.int .i64 q.d, .int .i64 q.cu, .int .i64 q.cg, .int .i64 q.key, .bool q.pl, .int .i64 q.fl, .int .i64 q.v, .int .i64 q.p0, .int .i64 q.p1, .int .i64 q.p2, .int .i64 q.p3, .int .i64 q.p4] 41)) r N S := y.same (Gr.a1 _ _)
  have hbx : Blk (w.alloc (.cells #[.int .i64 q.d, .int .i64 q.cu, .int .i64 q.cg, .int .i64 q.key, .bool q.pl, .int .i64 q.fl, .int .i64 q.v, .int .i64 q.p0, .int .i64 q.p1, .int .i64 q.p2, .int .i64 q.p3, .int .i64 q.p4] 41)) w.heap.size 41 #[.int .i64 q.d, .int .i64 q.cu, .int .i64 q.cg, .int .i64 q.key, .bool q.pl, .int .i64 q.fl, .int .i64 q.v, .int .i64 q.p0, .int .i64 q.p1, .int .i64 q.p2, .int .i64 q.p3, .int .i64 q.p4] := Blk.new _ _ _ _ rfl
  have y0 : (w.alloc (.cells #[.int .i64 q.d, .int .i64 q.cu, .int .i64 q.cg, .int .i64 q.key, .bool q.pl, .int .i64 q.fl, .int .i64 q.v, .int .i64 q.p0, .int .i64 q.p1, .int .i64 q.p2, .int .i64 q.p3, .int .i64 q.p4] 41)).drew.cell? ⟨w.heap.size, 0, none⟩ = some (.int .i64 q.d) := hbx.cell 0
  have y1 : (w.alloc (.cells #[.int .i64 q.d, .int .i64 q.cu, .int .i64 q.cg, .int .i64 q.key, .bool q.pl, .int .i64 q.fl, .int .i64 q.v, .int .i64 q.p0, .int .i64 q.p1, .int .i64 q.p2, .int .i64 q.p3, .int .i64 q.p4] 41)).drew.cell? ⟨w.heap.size, 1, none⟩ = some (.int .i64 q.cu) := hbx.cell 1
  have y2 : (w.alloc (.cells #[.int .i64 q.d, .int .i64 q.cu, .int .i64 q.cg, .int .i64 q.key, .bool q.pl, .int .i64 q.fl, .int .i64 q.v, .int .i64 q.p0, .int .i64 q.p1, .int .i64 q.p2, .int .i64 q.p3, .int .i64 q.p4] 41)).drew.cell? ⟨w.heap.size, 2, none⟩ = some (.int .i64 q.cg) := hbx.cell 2
  have y3 : (w.alloc (.cells #[.int .i64 q.d, .int .i64 q.cu, .int .i64 q.cg, .int .i64 q.key, .bool q.pl, .int .i64 q.fl, .int .i64 q.v, .int .i64 q.p0, .int .i64 q.p1, .int .i64 q.p2, .int .i64 q.p3, .int .i64 q.p4] 41)).drew.cell? ⟨w.heap.size, 3, none⟩ = some (.int .i64 q.key) := hbx.cell 3
  have y4 : (w.alloc (.cells #[.int .i64 q.d, .int .i64 q.cu, .int .i64 q.cg, .int .i64 q.key, .bool q.pl, .int .i64 q.fl, .int .i64 q.v, .int .i64 q.p0, .int .i64 q.p1, .int .i64 q.p2, .int .i64 q.p3, .int .i64 q.p4] 41)).drew.cell? ⟨w.heap.size, 4, none⟩ = some (.bool q.pl) := hbx.cell 4
  have y5 : (w.alloc (.cells #[.int .i64 q.d, .int .i64 q.cu, .int .i64 q.cg, .int .i64 q.key, .bool q.pl, .int .i64 q.fl, .int .i64 q.v, .int .i64 q.p0, .int .i64 q.p1, .int .i64 q.p2, .int .i64 q.p3, .int .i64 q.p4] 41)).drew.cell? ⟨w.heap.size, 5, none⟩ = some (.int .i64 q.fl) := hbx.cell 5
  have y6 : (w.alloc (.cells #[.int .i64 q.d, .int .i64 q.cu, .int .i64 q.cg, .int .i64 q.key, .bool q.pl, .int .i64 q.fl, .int .i64 q.v, .int .i64 q.p0, .int .i64 q.p1, .int .i64 q.p2, .int .i64 q.p3, .int .i64 q.p4] 41)).drew.cell? ⟨w.heap.size, 6, none⟩ = some (.int .i64 q.v) := hbx.cell 6
  have y7 : (w.alloc (.cells #[.int .i64 q.d, .int .i64 q.cu, .int .i64 q.cg, .int .i64 q.key, .bool q.pl, .int .i64 q.fl, .int .i64 q.v, .int .i64 q.p0, .int .i64 q.p1, .int .i64 q.p2, .int .i64 q.p3, .int .i64 q.p4] 41)).drew.cell? ⟨w.heap.size, 7, none⟩ = some (.int .i64 q.p0) := hbx.cell 7
  have y8 : (w.alloc (.cells #[.int .i64 q.d, .int .i64 q.cu, .int .i64 q.cg, .int .i64 q.key, .bool q.pl, .int .i64 q.fl, .int .i64 q.v, .int .i64 q.p0, .int .i64 q.p1, .int .i64 q.p2, .int .i64 q.p3, .int .i64 q.p4] 41)).drew.cell? ⟨w.heap.size, 8, none⟩ = some (.int .i64 q.p1) := hbx.cell 8
  have y9 : (w.alloc (.cells #[.int .i64 q.d, .int .i64 q.cu, .int .i64 q.cg, .int .i64 q.key, .bool q.pl, .int .i64 q.fl, .int .i64 q.v, .int .i64 q.p0, .int .i64 q.p1, .int .i64 q.p2, .int .i64 q.p3, .int .i64 q.p4] 41)).drew.cell? ⟨w.heap.size, 9, none⟩ = some (.int .i64 q.p2) := hbx.cell 9
  have y10 : (w.alloc (.cells #[.int .i64 q.d, .int .i64 q.cu, .int .i64 q.cg, .int .i64 q.key, .bool q.pl, .int .i64 q.fl, .int .i64 q.v, .int .i64 q.p0, .int .i64 q.p1, .int .i64 q.p2, .int .i64 q.p3, .int .i64 q.p4] 41)).drew.cell? ⟨w.heap.size, 10, none⟩ = some (.int .i64 q.p3) := hbx.cell 10
  have y11 : (w.alloc (.cells #[.int .i64 q.d, .int .i64 q.cu, .int .i64 q.cg, .int .i64 q.key, .bool q.pl, .int .i64 q.fl, .int .i64 q.v, .int .i64 q.p0, .int .i64 q.p1, .int .i64 q.p2, .int .i64 q.p3, .int .i64 q.p4] 41)).drew.cell? ⟨w.heap.size, 11, none⟩ = some (.int .i64 q.p4) := hbx.cell 11
  have hGa : Same w (w.alloc (.cells #[.int .i64 q.d, .int .i64 q.cu, .int .i64 q.cg, .int .i64 q.key, .bool q.pl, .int .i64 q.fl, .int .i64 q.v, .int .i64 q.p0, .int .i64 q.p1, .int .i64 q.p2, .int .i64 q.p3, .int .i64 q.p4] 41)) := Gr.a1 _ _
  have yad : RA w0 (w.alloc (.cells #[.int .i64 q.d, .int .i64 q.cu, .int .i64 q.cg, .int .i64 q.key, .bool q.pl, .int .i64 q.fl, .int .i64 q.v, .int .i64 q.p0, .int .i64 q.p1, .int .i64 q.p2, .int .i64 q.p3, .int .i64 q.p4] 41)).drew r N S := raa.same (Gr.refl _ _).drew
  have yz : w.heap.size < (w.alloc (.cells #[.int .i64 q.d, .int .i64 q.cu, .int .i64 q.cg, .int .i64 q.key, .bool q.pl, .int .i64 q.fl, .int .i64 q.v, .int .i64 q.p0, .int .i64 q.p1, .int .i64 q.p2, .int .i64 q.p3, .int .i64 q.p4] 41)).drew.heap.size := by show _ < (World.alloc _ _).heap.size; simp
  have hi8 : m ≤ 1000000 := by omega
  have HBX := Lib.hid hbx
  clear hm hbx
  go_enter Tryz.func6, Tryz.ntmps6
  go_wp2_with fail
  go_region_held3 (fun W => W.cell? ⟨w.heap.size, 0, none⟩ = some (.int .i64 q.d) ∧ W.cell? ⟨w.heap.size, 1, none⟩ = some (.int .i64 q.cu) ∧ W.cell? ⟨w.heap.size, 2, none⟩ = some (.int .i64 q.cg) ∧ W.cell? ⟨w.heap.size, 3, none⟩ = some (.int .i64 q.key) ∧ W.cell? ⟨w.heap.size, 4, none⟩ = some (.bool q.pl) ∧ W.cell? ⟨w.heap.size, 5, none⟩ = some (.int .i64 q.fl) ∧ W.cell? ⟨w.heap.size, 6, none⟩ = some (.int .i64 q.v) ∧ W.cell? ⟨w.heap.size, 7, none⟩ = some (.int .i64 q.p0) ∧ W.cell? ⟨w.heap.size, 8, none⟩ = some (.int .i64 q.p1) ∧ W.cell? ⟨w.heap.size, 9, none⟩ = some (.int .i64 q.p2) ∧ W.cell? ⟨w.heap.size, 10, none⟩ = some (.int .i64 q.p3) ∧ W.cell? ⟨w.heap.size, 11, none⟩ = some (.int .i64 q.p4))
    (first | ((repeat' (with_reducible apply And.intro)) <;> assumption))
    (first | (go_at_call 7; refine (rids_R yad m HM.out).mono ?_; rintro e w6 ⟨A6, c6, rfl, hr6, hG6⟩; have ya0 := (hG6.cell (p := ⟨w.heap.size, 0, none⟩) yz (fun f => f)).trans y0; have ya1 := (hG6.cell (p := ⟨w.heap.size, 1, none⟩) yz (fun f => f)).trans y1; have ya2 := (hG6.cell (p := ⟨w.heap.size, 2, none⟩) yz (fun f => f)).trans y2; have ya3 := (hG6.cell (p := ⟨w.heap.size, 3, none⟩) yz (fun f => f)).trans y3; have ya4 := (hG6.cell (p := ⟨w.heap.size, 4, none⟩) yz (fun f => f)).trans y4; have ya5 := (hG6.cell (p := ⟨w.heap.size, 5, none⟩) yz (fun f => f)).trans y5; have ya6 := (hG6.cell (p := ⟨w.heap.size, 6, none⟩) yz (fun f => f)).trans y6; have ya7 := (hG6.cell (p := ⟨w.heap.size, 7, none⟩) yz (fun f => f)).trans y7; have ya8 := (hG6.cell (p := ⟨w.heap.size, 8, none⟩) yz (fun f => f)).trans y8; have ya9 := (hG6.cell (p := ⟨w.heap.size, 9, none⟩) yz (fun f => f)).trans y9; have ya10 := (hG6.cell (p := ⟨w.heap.size, 10, none⟩) yz (fun f => f)).trans y10; have ya11 := (hG6.cell (p := ⟨w.heap.size, 11, none⟩) yz (fun f => f)).trans y11; have yz2 := Nat.lt_of_lt_of_le yz hG6.size) | (go_at_call 19; refine (number_any _ _ _ S.ids HM.out _ q _ hr6 (by rw [HM.out]; exact hi8)).mono ?_; rintro e w7 ⟨rfl, hG7⟩; have z0 := (hG7.cell (p := ⟨w.heap.size, 0, none⟩) yz2 (fun f => f)).trans ya0; have z1 := (hG7.cell (p := ⟨w.heap.size, 1, none⟩) yz2 (fun f => f)).trans ya1; have z2 := (hG7.cell (p := ⟨w.heap.size, 2, none⟩) yz2 (fun f => f)).trans ya2; have z3 := (hG7.cell (p := ⟨w.heap.size, 3, none⟩) yz2 (fun f => f)).trans ya3; have z4 := (hG7.cell (p := ⟨w.heap.size, 4, none⟩) yz2 (fun f => f)).trans ya4; have z5 := (hG7.cell (p := ⟨w.heap.size, 5, none⟩) yz2 (fun f => f)).trans ya5; have z6 := (hG7.cell (p := ⟨w.heap.size, 6, none⟩) yz2 (fun f => f)).trans ya6; have z7 := (hG7.cell (p := ⟨w.heap.size, 7, none⟩) yz2 (fun f => f)).trans ya7; have z8 := (hG7.cell (p := ⟨w.heap.size, 8, none⟩) yz2 (fun f => f)).trans ya8; have z9 := (hG7.cell (p := ⟨w.heap.size, 9, none⟩) yz2 (fun f => f)).trans ya9; have z10 := (hG7.cell (p := ⟨w.heap.size, 10, none⟩) yz2 (fun f => f)).trans ya10; have z11 := (hG7.cell (p := ⟨w.heap.size, 11, none⟩) yz2 (fun f => f)).trans ya11))
  have hG17 : Same (w.alloc (.cells #[.int .i64 q.d, .int .i64 q.cu, .int .i64 q.cg, .int .i64 q.key, .bool q.pl, .int .i64 q.fl, .int .i64 q.v, .int .i64 q.p0, .int .i64 q.p1, .int .i64 q.p2, .int .i64 q.p3, .int .i64 q.p4] 41)) w7 := ((Gr.refl _ _).drew.next hG6).next hG7
  have hGw := hGa.next hG17
  have x7 := xa.same hG17
  have ra7 := raa.same hG17
  have hb7 : Blk w7 w.heap.size 41 #[.int .i64 q.d, .int .i64 q.cu, .int .i64 q.cg, .int .i64 q.key, .bool q.pl, .int .i64 q.fl, .int .i64 q.v, .int .i64 q.p0, .int .i64 q.p1, .int .i64 q.p2, .int .i64 q.p3, .int .i64 q.p4] := hG17.blk HBX.out (fun f => f)
  have hl7 : w.heap.size < w7.heap.size := Nat.lt_of_lt_of_le yz2 hG7.size
  clear y0 y1 y2 y3 y4 y5 y6 y7 y8 y9 y10 y11 ya0 ya1 ya2 ya3 ya4 ya5 ya6 ya7 ya8 ya9 ya10 ya11
  clear hG17 hG6 hG7 xa raa yad hGa yz yz2 x y
  generalize numI S.ids q.key q.pl = id at *
  rcases eight_cases q.d with h8 | h8 | h8 | h8 | h8 | h8 | h8 | h8
  all_goals unfold eight at h8
  · obtain ⟨a1, m1, e1, S1, hq1⟩ : ∃ a1 m1 e1 S1, gt S q.cu q.cg q.key q.fl q.v = ((a1, m1, e1), S1) := ⟨_, _, _, _, rfl⟩
    have HQ := Lib.hid hq1
    clear hq1
    go_wp2_with fail
    refine (nget_r x7 q.cu q.cg q.key q.fl q.v hwf a1 m1 e1 S1 HQ.out).mono ?_; rintro e w8 ⟨rfl, x8, hG8⟩
    have u0 := (hG8.cell (p := ⟨w.heap.size, 0, none⟩) hl7 (fun e => by dsimp only at e; omega)).trans z0; have u1 := (hG8.cell (p := ⟨w.heap.size, 1, none⟩) hl7 (fun e => by dsimp only at e; omega)).trans z1; have u2 := (hG8.cell (p := ⟨w.heap.size, 2, none⟩) hl7 (fun e => by dsimp only at e; omega)).trans z2; have u3 := (hG8.cell (p := ⟨w.heap.size, 3, none⟩) hl7 (fun e => by dsimp only at e; omega)).trans z3; have u4 := (hG8.cell (p := ⟨w.heap.size, 4, none⟩) hl7 (fun e => by dsimp only at e; omega)).trans z4; have u5 := (hG8.cell (p := ⟨w.heap.size, 5, none⟩) hl7 (fun e => by dsimp only at e; omega)).trans z5; have u6 := (hG8.cell (p := ⟨w.heap.size, 6, none⟩) hl7 (fun e => by dsimp only at e; omega)).trans z6; have u7 := (hG8.cell (p := ⟨w.heap.size, 7, none⟩) hl7 (fun e => by dsimp only at e; omega)).trans z7; have u8 := (hG8.cell (p := ⟨w.heap.size, 8, none⟩) hl7 (fun e => by dsimp only at e; omega)).trans z8; have u9 := (hG8.cell (p := ⟨w.heap.size, 9, none⟩) hl7 (fun e => by dsimp only at e; omega)).trans z9; have u10 := (hG8.cell (p := ⟨w.heap.size, 10, none⟩) hl7 (fun e => by dsimp only at e; omega)).trans z10; have u11 := (hG8.cell (p := ⟨w.heap.size, 11, none⟩) hl7 (fun e => by dsimp only at e; omega)).trans z11
    clear z0 z1 z2 z3 z4 z5 z6 z7 z8 z9 z10 z11
    have ra8 := ra7.turned x7 hG8 hh
    go_wp2_with fail
    refine (rnget_r ra8 hN q.cu q.cg q.key q.fl q.v hwf a1 m1 e1 S1 HQ.out).mono ?_; rintro e w9 ⟨rfl, ra9, hG9⟩
    clear u0 u1 u2 u3 u4 u5 u6 u7 u8 u9 u10 u11
    go_wp2
    go_ret
    exact DidPost.mk' (by first | rfl | simp) hGw hrl x8 hG8 ra9 hG9 hn hh
  · obtain ⟨a1, m1, e1, S1, hq1⟩ : ∃ a1 m1 e1 S1, gt S q.cu q.cg q.key q.fl q.v = ((a1, m1, e1), S1) := ⟨_, _, _, _, rfl⟩
    have HQ := Lib.hid hq1
    clear hq1
    go_wp2_with fail
    refine (nget_r x7 q.cu q.cg q.key q.fl q.v hwf a1 m1 e1 S1 HQ.out).mono ?_; rintro e w8 ⟨rfl, x8, hG8⟩
    have u0 := (hG8.cell (p := ⟨w.heap.size, 0, none⟩) hl7 (fun e => by dsimp only at e; omega)).trans z0; have u1 := (hG8.cell (p := ⟨w.heap.size, 1, none⟩) hl7 (fun e => by dsimp only at e; omega)).trans z1; have u2 := (hG8.cell (p := ⟨w.heap.size, 2, none⟩) hl7 (fun e => by dsimp only at e; omega)).trans z2; have u3 := (hG8.cell (p := ⟨w.heap.size, 3, none⟩) hl7 (fun e => by dsimp only at e; omega)).trans z3; have u4 := (hG8.cell (p := ⟨w.heap.size, 4, none⟩) hl7 (fun e => by dsimp only at e; omega)).trans z4; have u5 := (hG8.cell (p := ⟨w.heap.size, 5, none⟩) hl7 (fun e => by dsimp only at e; omega)).trans z5; have u6 := (hG8.cell (p := ⟨w.heap.size, 6, none⟩) hl7 (fun e => by dsimp only at e; omega)).trans z6; have u7 := (hG8.cell (p := ⟨w.heap.size, 7, none⟩) hl7 (fun e => by dsimp only at e; omega)).trans z7; have u8 := (hG8.cell (p := ⟨w.heap.size, 8, none⟩) hl7 (fun e => by dsimp only at e; omega)).trans z8; have u9 := (hG8.cell (p := ⟨w.heap.size, 9, none⟩) hl7 (fun e => by dsimp only at e; omega)).trans z9; have u10 := (hG8.cell (p := ⟨w.heap.size, 10, none⟩) hl7 (fun e => by dsimp only at e; omega)).trans z10; have u11 := (hG8.cell (p := ⟨w.heap.size, 11, none⟩) hl7 (fun e => by dsimp only at e; omega)).trans z11
    clear z0 z1 z2 z3 z4 z5 z6 z7 z8 z9 z10 z11
    have ra8 := ra7.turned x7 hG8 hh
    go_wp2_with fail
    refine (rnget_r ra8 hN q.cu q.cg q.key q.fl q.v hwf a1 m1 e1 S1 HQ.out).mono ?_; rintro e w9 ⟨rfl, ra9, hG9⟩
    clear u0 u1 u2 u3 u4 u5 u6 u7 u8 u9 u10 u11
    go_wp2
    go_ret
    exact DidPost.mk' (by first | rfl | simp) hGw hrl x8 hG8 ra9 hG9 hn hh
  · obtain ⟨a1, m1, e1, S1, hq1⟩ : ∃ a1 m1 e1 S1, gt S q.cu q.cg q.key q.fl q.v = ((a1, m1, e1), S1) := ⟨_, _, _, _, rfl⟩
    have HQ := Lib.hid hq1
    clear hq1
    go_wp2_with fail
    refine (nget_r x7 q.cu q.cg q.key q.fl q.v hwf a1 m1 e1 S1 HQ.out).mono ?_; rintro e w8 ⟨rfl, x8, hG8⟩
    have u0 := (hG8.cell (p := ⟨w.heap.size, 0, none⟩) hl7 (fun e => by dsimp only at e; omega)).trans z0; have u1 := (hG8.cell (p := ⟨w.heap.size, 1, none⟩) hl7 (fun e => by dsimp only at e; omega)).trans z1; have u2 := (hG8.cell (p := ⟨w.heap.size, 2, none⟩) hl7 (fun e => by dsimp only at e; omega)).trans z2; have u3 := (hG8.cell (p := ⟨w.heap.size, 3, none⟩) hl7 (fun e => by dsimp only at e; omega)).trans z3; have u4 := (hG8.cell (p := ⟨w.heap.size, 4, none⟩) hl7 (fun e => by dsimp only at e; omega)).trans z4; have u5 := (hG8.cell (p := ⟨w.heap.size, 5, none⟩) hl7 (fun e => by dsimp only at e; omega)).trans z5; have u6 := (hG8.cell (p := ⟨w.heap.size, 6, none⟩) hl7 (fun e => by dsimp only at e; omega)).trans z6; have u7 := (hG8.cell (p := ⟨w.heap.size, 7, none⟩) hl7 (fun e => by dsimp only at e; omega)).trans z7; have u8 := (hG8.cell (p := ⟨w.heap.size, 8, none⟩) hl7 (fun e => by dsimp only at e; omega)).trans z8; have u9 := (hG8.cell (p := ⟨w.heap.size, 9, none⟩) hl7 (fun e => by dsimp only at e; omega)).trans z9; have u10 := (hG8.cell (p := ⟨w.heap.size, 10, none⟩) hl7 (fun e => by dsimp only at e; omega)).trans z10; have u11 := (hG8.cell (p := ⟨w.heap.size, 11, none⟩) hl7 (fun e => by dsimp only at e; omega)).trans z11
    clear z0 z1 z2 z3 z4 z5 z6 z7 z8 z9 z10 z11
    have ra8 := ra7.turned x7 hG8 hh
    go_wp2_with fail
    refine (rnget_r ra8 hN q.cu q.cg q.key q.fl q.v hwf a1 m1 e1 S1 HQ.out).mono ?_; rintro e w9 ⟨rfl, ra9, hG9⟩
    clear u0 u1 u2 u3 u4 u5 u6 u7 u8 u9 u10 u11
    go_wp2
    go_ret
    exact DidPost.mk' (by first | rfl | simp) hGw hrl x8 hG8 ra9 hG9 hn hh
  · go_wp2_with fail
    refine (nFind_fI x7 id q.cu q.cg q.fl).mono ?_; rintro e w8 ⟨rfl, x8, hG8⟩
    have u0 := (hG8.cell (p := ⟨w.heap.size, 0, none⟩) hl7 (fun f => f)).trans z0; have u1 := (hG8.cell (p := ⟨w.heap.size, 1, none⟩) hl7 (fun f => f)).trans z1; have u2 := (hG8.cell (p := ⟨w.heap.size, 2, none⟩) hl7 (fun f => f)).trans z2; have u3 := (hG8.cell (p := ⟨w.heap.size, 3, none⟩) hl7 (fun f => f)).trans z3; have u4 := (hG8.cell (p := ⟨w.heap.size, 4, none⟩) hl7 (fun f => f)).trans z4; have u5 := (hG8.cell (p := ⟨w.heap.size, 5, none⟩) hl7 (fun f => f)).trans z5; have u6 := (hG8.cell (p := ⟨w.heap.size, 6, none⟩) hl7 (fun f => f)).trans z6; have u7 := (hG8.cell (p := ⟨w.heap.size, 7, none⟩) hl7 (fun f => f)).trans z7; have u8 := (hG8.cell (p := ⟨w.heap.size, 8, none⟩) hl7 (fun f => f)).trans z8; have u9 := (hG8.cell (p := ⟨w.heap.size, 9, none⟩) hl7 (fun f => f)).trans z9; have u10 := (hG8.cell (p := ⟨w.heap.size, 10, none⟩) hl7 (fun f => f)).trans z10; have u11 := (hG8.cell (p := ⟨w.heap.size, 11, none⟩) hl7 (fun f => f)).trans z11
    clear z0 z1 z2 z3 z4 z5 z6 z7 z8 z9 z10 z11
    have ra8 := ra7.turned x7 hG8.no hh
    go_wp2_with fail
    refine (rnFindR ra8 hN q.cu q.cg id q.fl).mono ?_; rintro e w9 ⟨rfl, ra9, hG9⟩
    clear u0 u1 u2 u3 u4 u5 u6 u7 u8 u9 u10 u11
    go_wp2
    go_ret
    exact DidPost.mk' (by first | rfl | simp) hGw hrl x8 hG8.no (ra9.up (Nat.le_succ _)) hG9.no' hn hh
  · have x7d : NSI w0 w7.drew n h S := x7.same (Gr.refl _ _).drew
    have hl7d : w.heap.size < w7.drew.heap.size := hl7
    have ra7d : RA w0 w7.drew r N S := ra7.same (Gr.refl _ _).drew
    have z0 : w7.drew.cell? ⟨w.heap.size, 0, none⟩ = some (.int .i64 q.d) := z0
    have z1 : w7.drew.cell? ⟨w.heap.size, 1, none⟩ = some (.int .i64 q.cu) := z1
    have z2 : w7.drew.cell? ⟨w.heap.size, 2, none⟩ = some (.int .i64 q.cg) := z2
    have z3 : w7.drew.cell? ⟨w.heap.size, 3, none⟩ = some (.int .i64 q.key) := z3
    have z4 : w7.drew.cell? ⟨w.heap.size, 4, none⟩ = some (.bool q.pl) := z4
    have z5 : w7.drew.cell? ⟨w.heap.size, 5, none⟩ = some (.int .i64 q.fl) := z5
    have z6 : w7.drew.cell? ⟨w.heap.size, 6, none⟩ = some (.int .i64 q.v) := z6
    have z7 : w7.drew.cell? ⟨w.heap.size, 7, none⟩ = some (.int .i64 q.p0) := z7
    have z8 : w7.drew.cell? ⟨w.heap.size, 8, none⟩ = some (.int .i64 q.p1) := z8
    have z9 : w7.drew.cell? ⟨w.heap.size, 9, none⟩ = some (.int .i64 q.p2) := z9
    have z10 : w7.drew.cell? ⟨w.heap.size, 10, none⟩ = some (.int .i64 q.p3) := z10
    have z11 : w7.drew.cell? ⟨w.heap.size, 11, none⟩ = some (.int .i64 q.p4) := z11
    go_wp2_with fail
    go_region_held3 (fun W => W.cell? ⟨w.heap.size, 0, none⟩ = some (.int .i64 q.d) ∧ W.cell? ⟨w.heap.size, 1, none⟩ = some (.int .i64 q.cu) ∧ W.cell? ⟨w.heap.size, 2, none⟩ = some (.int .i64 q.cg) ∧ W.cell? ⟨w.heap.size, 3, none⟩ = some (.int .i64 q.key) ∧ W.cell? ⟨w.heap.size, 4, none⟩ = some (.bool q.pl) ∧ W.cell? ⟨w.heap.size, 5, none⟩ = some (.int .i64 q.fl) ∧ W.cell? ⟨w.heap.size, 6, none⟩ = some (.int .i64 q.v) ∧ W.cell? ⟨w.heap.size, 7, none⟩ = some (.int .i64 q.p0) ∧ W.cell? ⟨w.heap.size, 8, none⟩ = some (.int .i64 q.p1) ∧ W.cell? ⟨w.heap.size, 9, none⟩ = some (.int .i64 q.p2) ∧ W.cell? ⟨w.heap.size, 10, none⟩ = some (.int .i64 q.p3) ∧ W.cell? ⟨w.heap.size, 11, none⟩ = some (.int .i64 q.p4))
      (first | ((repeat' (with_reducible apply And.intro)) <;> assumption))
      (first | (go_at_call 22; refine (nPut_f x7d id q.v).mono ?_; rintro e w8 ⟨rfl, x8, hG8⟩; have u0 := (hG8.cell (p := ⟨w.heap.size, 0, none⟩) hl7d (fun e => by dsimp only at e; omega)).trans z0; have u1 := (hG8.cell (p := ⟨w.heap.size, 1, none⟩) hl7d (fun e => by dsimp only at e; omega)).trans z1; have u2 := (hG8.cell (p := ⟨w.heap.size, 2, none⟩) hl7d (fun e => by dsimp only at e; omega)).trans z2; have u3 := (hG8.cell (p := ⟨w.heap.size, 3, none⟩) hl7d (fun e => by dsimp only at e; omega)).trans z3; have u4 := (hG8.cell (p := ⟨w.heap.size, 4, none⟩) hl7d (fun e => by dsimp only at e; omega)).trans z4; have u5 := (hG8.cell (p := ⟨w.heap.size, 5, none⟩) hl7d (fun e => by dsimp only at e; omega)).trans z5; have u6 := (hG8.cell (p := ⟨w.heap.size, 6, none⟩) hl7d (fun e => by dsimp only at e; omega)).trans z6; have u7 := (hG8.cell (p := ⟨w.heap.size, 7, none⟩) hl7d (fun e => by dsimp only at e; omega)).trans z7; have u8 := (hG8.cell (p := ⟨w.heap.size, 8, none⟩) hl7d (fun e => by dsimp only at e; omega)).trans z8; have u9 := (hG8.cell (p := ⟨w.heap.size, 9, none⟩) hl7d (fun e => by dsimp only at e; omega)).trans z9; have u10 := (hG8.cell (p := ⟨w.heap.size, 10, none⟩) hl7d (fun e => by dsimp only at e; omega)).trans z10; have u11 := (hG8.cell (p := ⟨w.heap.size, 11, none⟩) hl7d (fun e => by dsimp only at e; omega)).trans z11; have ra8 := ra7d.turned x7d hG8 hh; have hb8 := hG8.blk (show Blk w7.drew w.heap.size 41 #[.int .i64 q.d, .int .i64 q.cu, .int .i64 q.cg, .int .i64 q.key, .bool q.pl, .int .i64 q.fl, .int .i64 q.v, .int .i64 q.p0, .int .i64 q.p1, .int .i64 q.p2, .int .i64 q.p3, .int .i64 q.p4] from hb7) (fun e => by omega); have hl8 := hb8.lt) | (go_at_call 23; refine (rnPut ra8 (by omega) id q.v).mono ?_; rintro e w9 ⟨rfl, ra9, hG9⟩; have v0 := (hG9.cell (p := ⟨w.heap.size, 0, none⟩) hl8 (fun e => e.2 _ hb8)).trans u0; have v1 := (hG9.cell (p := ⟨w.heap.size, 1, none⟩) hl8 (fun e => e.2 _ hb8)).trans u1; have v2 := (hG9.cell (p := ⟨w.heap.size, 2, none⟩) hl8 (fun e => e.2 _ hb8)).trans u2; have v3 := (hG9.cell (p := ⟨w.heap.size, 3, none⟩) hl8 (fun e => e.2 _ hb8)).trans u3; have v4 := (hG9.cell (p := ⟨w.heap.size, 4, none⟩) hl8 (fun e => e.2 _ hb8)).trans u4; have v5 := (hG9.cell (p := ⟨w.heap.size, 5, none⟩) hl8 (fun e => e.2 _ hb8)).trans u5; have v6 := (hG9.cell (p := ⟨w.heap.size, 6, none⟩) hl8 (fun e => e.2 _ hb8)).trans u6; have v7 := (hG9.cell (p := ⟨w.heap.size, 7, none⟩) hl8 (fun e => e.2 _ hb8)).trans u7; have v8 := (hG9.cell (p := ⟨w.heap.size, 8, none⟩) hl8 (fun e => e.2 _ hb8)).trans u8; have v9 := (hG9.cell (p := ⟨w.heap.size, 9, none⟩) hl8 (fun e => e.2 _ hb8)).trans u9; have v10 := (hG9.cell (p := ⟨w.heap.size, 10, none⟩) hl8 (fun e => e.2 _ hb8)).trans u10; have v11 := (hG9.cell (p := ⟨w.heap.size, 11, none⟩) hl8 (fun e => e.2 _ hb8)).trans u11))
    clear z0 z1 z2 z3 z4 z5 z6 z7 z8 z9 z10 z11 u0 u1 u2 u3 u4 u5 u6 u7 u8 u9 u10 u11 v0 v1 v2 v3 v4 v5 v6 v7 v8 v9 v10 v11
    go_wp2
    go_ret
    exact DidPost.mk' (by first | rfl | simp) (hGw.next (Gr.refl w7 (fun _ => False)).drew) hrl x8 hG8 (ra9.up (Nat.le_succ _)) (hG9.mono (fun _ _ e => e.1)) hn hh
  · have x7d : NSI w0 w7.drew n h S := x7.same (Gr.refl _ _).drew
    have hl7d : w.heap.size < w7.drew.heap.size := hl7
    have ra7d : RA w0 w7.drew r N S := ra7.same (Gr.refl _ _).drew
    have z0 : w7.drew.cell? ⟨w.heap.size, 0, none⟩ = some (.int .i64 q.d) := z0
    have z1 : w7.drew.cell? ⟨w.heap.size, 1, none⟩ = some (.int .i64 q.cu) := z1
    have z2 : w7.drew.cell? ⟨w.heap.size, 2, none⟩ = some (.int .i64 q.cg) := z2
    have z3 : w7.drew.cell? ⟨w.heap.size, 3, none⟩ = some (.int .i64 q.key) := z3
    have z4 : w7.drew.cell? ⟨w.heap.size, 4, none⟩ = some (.bool q.pl) := z4
    have z5 : w7.drew.cell? ⟨w.heap.size, 5, none⟩ = some (.int .i64 q.fl) := z5
    have z6 : w7.drew.cell? ⟨w.heap.size, 6, none⟩ = some (.int .i64 q.v) := z6
    have z7 : w7.drew.cell? ⟨w.heap.size, 7, none⟩ = some (.int .i64 q.p0) := z7
    have z8 : w7.drew.cell? ⟨w.heap.size, 8, none⟩ = some (.int .i64 q.p1) := z8
    have z9 : w7.drew.cell? ⟨w.heap.size, 9, none⟩ = some (.int .i64 q.p2) := z9
    have z10 : w7.drew.cell? ⟨w.heap.size, 10, none⟩ = some (.int .i64 q.p3) := z10
    have z11 : w7.drew.cell? ⟨w.heap.size, 11, none⟩ = some (.int .i64 q.p4) := z11
    go_wp2_with fail
    go_region_held3 (fun W => W.cell? ⟨w.heap.size, 0, none⟩ = some (.int .i64 q.d) ∧ W.cell? ⟨w.heap.size, 1, none⟩ = some (.int .i64 q.cu) ∧ W.cell? ⟨w.heap.size, 2, none⟩ = some (.int .i64 q.cg) ∧ W.cell? ⟨w.heap.size, 3, none⟩ = some (.int .i64 q.key) ∧ W.cell? ⟨w.heap.size, 4, none⟩ = some (.bool q.pl) ∧ W.cell? ⟨w.heap.size, 5, none⟩ = some (.int .i64 q.fl) ∧ W.cell? ⟨w.heap.size, 6, none⟩ = some (.int .i64 q.v) ∧ W.cell? ⟨w.heap.size, 7, none⟩ = some (.int .i64 q.p0) ∧ W.cell? ⟨w.heap.size, 8, none⟩ = some (.int .i64 q.p1) ∧ W.cell? ⟨w.heap.size, 9, none⟩ = some (.int .i64 q.p2) ∧ W.cell? ⟨w.heap.size, 10, none⟩ = some (.int .i64 q.p3) ∧ W.cell? ⟨w.heap.size, 11, none⟩ = some (.int .i64 q.p4))
      (first | ((repeat' (with_reducible apply And.intro)) <;> assumption))
      (first | (go_at_call 24; refine (nSet_f x7d id q.cu q.cg q.p0 q.p1 q.p4).mono ?_; rintro e w8 ⟨rfl, x8, hG8⟩; have u0 := (hG8.cell (p := ⟨w.heap.size, 0, none⟩) hl7d (fun e => by dsimp only at e; omega)).trans z0; have u1 := (hG8.cell (p := ⟨w.heap.size, 1, none⟩) hl7d (fun e => by dsimp only at e; omega)).trans z1; have u2 := (hG8.cell (p := ⟨w.heap.size, 2, none⟩) hl7d (fun e => by dsimp only at e; omega)).trans z2; have u3 := (hG8.cell (p := ⟨w.heap.size, 3, none⟩) hl7d (fun e => by dsimp only at e; omega)).trans z3; have u4 := (hG8.cell (p := ⟨w.heap.size, 4, none⟩) hl7d (fun e => by dsimp only at e; omega)).trans z4; have u5 := (hG8.cell (p := ⟨w.heap.size, 5, none⟩) hl7d (fun e => by dsimp only at e; omega)).trans z5; have u6 := (hG8.cell (p := ⟨w.heap.size, 6, none⟩) hl7d (fun e => by dsimp only at e; omega)).trans z6; have u7 := (hG8.cell (p := ⟨w.heap.size, 7, none⟩) hl7d (fun e => by dsimp only at e; omega)).trans z7; have u8 := (hG8.cell (p := ⟨w.heap.size, 8, none⟩) hl7d (fun e => by dsimp only at e; omega)).trans z8; have u9 := (hG8.cell (p := ⟨w.heap.size, 9, none⟩) hl7d (fun e => by dsimp only at e; omega)).trans z9; have u10 := (hG8.cell (p := ⟨w.heap.size, 10, none⟩) hl7d (fun e => by dsimp only at e; omega)).trans z10; have u11 := (hG8.cell (p := ⟨w.heap.size, 11, none⟩) hl7d (fun e => by dsimp only at e; omega)).trans z11; have ra8 := ra7d.turned x7d hG8 hh; have hb8 := hG8.blk (show Blk w7.drew w.heap.size 41 #[.int .i64 q.d, .int .i64 q.cu, .int .i64 q.cg, .int .i64 q.key, .bool q.pl, .int .i64 q.fl, .int .i64 q.v, .int .i64 q.p0, .int .i64 q.p1, .int .i64 q.p2, .int .i64 q.p3, .int .i64 q.p4] from hb7) (fun e => by omega); have hl8 := hb8.lt) | (go_at_call 25; refine (rnSet ra8 (by omega) q.cu q.cg id q.p0 q.p1 q.p4).mono ?_; rintro e w9 ⟨rfl, ra9, hG9⟩; have v0 := (hG9.cell (p := ⟨w.heap.size, 0, none⟩) hl8 (fun e => e.2 _ hb8)).trans u0; have v1 := (hG9.cell (p := ⟨w.heap.size, 1, none⟩) hl8 (fun e => e.2 _ hb8)).trans u1; have v2 := (hG9.cell (p := ⟨w.heap.size, 2, none⟩) hl8 (fun e => e.2 _ hb8)).trans u2; have v3 := (hG9.cell (p := ⟨w.heap.size, 3, none⟩) hl8 (fun e => e.2 _ hb8)).trans u3; have v4 := (hG9.cell (p := ⟨w.heap.size, 4, none⟩) hl8 (fun e => e.2 _ hb8)).trans u4; have v5 := (hG9.cell (p := ⟨w.heap.size, 5, none⟩) hl8 (fun e => e.2 _ hb8)).trans u5; have v6 := (hG9.cell (p := ⟨w.heap.size, 6, none⟩) hl8 (fun e => e.2 _ hb8)).trans u6; have v7 := (hG9.cell (p := ⟨w.heap.size, 7, none⟩) hl8 (fun e => e.2 _ hb8)).trans u7; have v8 := (hG9.cell (p := ⟨w.heap.size, 8, none⟩) hl8 (fun e => e.2 _ hb8)).trans u8; have v9 := (hG9.cell (p := ⟨w.heap.size, 9, none⟩) hl8 (fun e => e.2 _ hb8)).trans u9; have v10 := (hG9.cell (p := ⟨w.heap.size, 10, none⟩) hl8 (fun e => e.2 _ hb8)).trans u10; have v11 := (hG9.cell (p := ⟨w.heap.size, 11, none⟩) hl8 (fun e => e.2 _ hb8)).trans u11))
    clear z0 z1 z2 z3 z4 z5 z6 z7 z8 z9 z10 z11 u0 u1 u2 u3 u4 u5 u6 u7 u8 u9 u10 u11 v0 v1 v2 v3 v4 v5 v6 v7 v8 v9 v10 v11
    go_wp2
    go_ret
    exact DidPost.mk' (by first | rfl | simp) (hGw.next (Gr.refl w7 (fun _ => False)).drew) hrl x8 hG8 (ra9.up (Nat.le_succ _)) (hG9.mono (fun _ _ e => e.1)) hn hh
  · go_wp2_with fail
    refine (nRemove_fI x7 id q.cu q.cg).mono ?_; rintro e w8 ⟨rfl, x8, hG8⟩
    have u0 := (hG8.cell (p := ⟨w.heap.size, 0, none⟩) hl7 (fun e => by dsimp only at e; omega)).trans z0; have u1 := (hG8.cell (p := ⟨w.heap.size, 1, none⟩) hl7 (fun e => by dsimp only at e; omega)).trans z1; have u2 := (hG8.cell (p := ⟨w.heap.size, 2, none⟩) hl7 (fun e => by dsimp only at e; omega)).trans z2; have u3 := (hG8.cell (p := ⟨w.heap.size, 3, none⟩) hl7 (fun e => by dsimp only at e; omega)).trans z3; have u4 := (hG8.cell (p := ⟨w.heap.size, 4, none⟩) hl7 (fun e => by dsimp only at e; omega)).trans z4; have u5 := (hG8.cell (p := ⟨w.heap.size, 5, none⟩) hl7 (fun e => by dsimp only at e; omega)).trans z5; have u6 := (hG8.cell (p := ⟨w.heap.size, 6, none⟩) hl7 (fun e => by dsimp only at e; omega)).trans z6; have u7 := (hG8.cell (p := ⟨w.heap.size, 7, none⟩) hl7 (fun e => by dsimp only at e; omega)).trans z7; have u8 := (hG8.cell (p := ⟨w.heap.size, 8, none⟩) hl7 (fun e => by dsimp only at e; omega)).trans z8; have u9 := (hG8.cell (p := ⟨w.heap.size, 9, none⟩) hl7 (fun e => by dsimp only at e; omega)).trans z9; have u10 := (hG8.cell (p := ⟨w.heap.size, 10, none⟩) hl7 (fun e => by dsimp only at e; omega)).trans z10; have u11 := (hG8.cell (p := ⟨w.heap.size, 11, none⟩) hl7 (fun e => by dsimp only at e; omega)).trans z11
    clear z0 z1 z2 z3 z4 z5 z6 z7 z8 z9 z10 z11
    have ra8 := ra7.turned x7 hG8 hh
    go_wp2_with fail
    refine (rnRemove ra8 (by omega) q.cu q.cg id).mono ?_; rintro e w9 ⟨rfl, ra9, hG9⟩
    clear u0 u1 u2 u3 u4 u5 u6 u7 u8 u9 u10 u11
    go_wp2
    go_ret
    exact DidPost.mk' (by first | rfl | simp) hGw hrl x8 hG8 (ra9.up (Nat.le_succ _)) hG9 hn hh
  · go_wp2_with fail
    refine (nRemove_fI x7 id q.cu q.cg).mono ?_; rintro e w8 ⟨rfl, x8, hG8⟩
    have u0 := (hG8.cell (p := ⟨w.heap.size, 0, none⟩) hl7 (fun e => by dsimp only at e; omega)).trans z0; have u1 := (hG8.cell (p := ⟨w.heap.size, 1, none⟩) hl7 (fun e => by dsimp only at e; omega)).trans z1; have u2 := (hG8.cell (p := ⟨w.heap.size, 2, none⟩) hl7 (fun e => by dsimp only at e; omega)).trans z2; have u3 := (hG8.cell (p := ⟨w.heap.size, 3, none⟩) hl7 (fun e => by dsimp only at e; omega)).trans z3; have u4 := (hG8.cell (p := ⟨w.heap.size, 4, none⟩) hl7 (fun e => by dsimp only at e; omega)).trans z4; have u5 := (hG8.cell (p := ⟨w.heap.size, 5, none⟩) hl7 (fun e => by dsimp only at e; omega)).trans z5; have u6 := (hG8.cell (p := ⟨w.heap.size, 6, none⟩) hl7 (fun e => by dsimp only at e; omega)).trans z6; have u7 := (hG8.cell (p := ⟨w.heap.size, 7, none⟩) hl7 (fun e => by dsimp only at e; omega)).trans z7; have u8 := (hG8.cell (p := ⟨w.heap.size, 8, none⟩) hl7 (fun e => by dsimp only at e; omega)).trans z8; have u9 := (hG8.cell (p := ⟨w.heap.size, 9, none⟩) hl7 (fun e => by dsimp only at e; omega)).trans z9; have u10 := (hG8.cell (p := ⟨w.heap.size, 10, none⟩) hl7 (fun e => by dsimp only at e; omega)).trans z10; have u11 := (hG8.cell (p := ⟨w.heap.size, 11, none⟩) hl7 (fun e => by dsimp only at e; omega)).trans z11
    clear z0 z1 z2 z3 z4 z5 z6 z7 z8 z9 z10 z11
    have ra8 := ra7.turned x7 hG8 hh
    go_wp2_with fail
    refine (rnRemove ra8 (by omega) q.cu q.cg id).mono ?_; rintro e w9 ⟨rfl, ra9, hG9⟩
    clear u0 u1 u2 u3 u4 u5 u6 u7 u8 u9 u10 u11
    go_wp2
    go_ret
    exact DidPost.mk' (by first | rfl | simp) hGw hrl x8 hG8 (ra9.up (Nat.le_succ _)) hG9 hn hh
end Go.Proofs
