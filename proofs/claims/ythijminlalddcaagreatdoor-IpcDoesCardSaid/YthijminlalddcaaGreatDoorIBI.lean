/- Names (int): find. -/
import Derived.Test.YthijminlalddcaaGreatDoorSEI
import Derived.Test.YthijminlalddcaaGreatDoorIA
import Derived.Test.YthijminlalddcaaGreatDoorCS
import Derived.Deep.RegionHeld3
import Derived.Deep.QuietTactic
import Derived.BigQuiet
set_option linter.unusedVariables false
set_option linter.unusedSimpArgs false
namespace Go.Proofs
open Go.RowKit Go.Shelf
attribute [local go_sem] Oper.semAt_some

/-- Names in memory, behind the world w0. -/
structure NSI (w0 w : World) (n h : Nat) (S : St Int) : Prop where
  nb : Blk w n 62 #[.pointer (some ⟨h, 0, none⟩)]
  sl : Sl encI 103 w h S
  ok : S.ok
  ne : n ≠ h
  g : Same w0 w
  hn : w0.heap.size ≤ n
  hh : w0.heap.size ≤ h
  e0 : EtH w0
section
variable {w0 w w' : World} {n h : Nat} {S S' : St Int}
theorem NSI.same (x : NSI w0 w n h S) (hG : Same w w') : NSI w0 w' n h S := ⟨hG.blk x.nb (fun f => f), hG.blk x.sl (fun f => f), x.ok, x.ne, x.g.next hG, x.hn, x.hh, x.e0⟩
theorem NSI.turn (x : NSI w0 w n h S) (hG : Gr w w' (fun j => j = h)) (hs : Sl encI 103 w' h S') (ho : S'.ok) : NSI w0 w' n h S' :=
  ⟨hG.blk x.nb x.ne, hs, ho, x.ne, x.g.trans hG (fun j hj e => by have := x.hh; omega), x.hn, x.hh, x.e0⟩
theorem NSI.et (x : NSI w0 w n h S) : EtH w := x.e0.same x.g (fun f => f)
theorem NSI.lt (x : NSI w0 w n h S) : n < w.heap.size ∧ h < w.heap.size := ⟨x.nb.lt, Blk.lt x.sl⟩
theorem NSI.c0 (x : NSI w0 w n h S) : w.cell? ⟨n, 0, none⟩ = some (.pointer (some ⟨h, 0, none⟩)) := by simpa using x.nb.cell 0
end
theorem nnew_anyI (w : World) (he : EtH w) : Calls Tryz.prog 5 #[] w fun e w' => ∃ n h, e = .returned (.pointer (some ⟨n, 0, none⟩)) ∧ NSI w w' n h St.zeroI := by
  go_enter Tryz.func5, Tryz.ntmps5
  go_wp2_with fail
  refine (snew_anyI _).mono ?_; rintro e w1 ⟨rfl, hG, hS⟩
  have hl := Blk.lt hS
  go_wp2
  go_ret
  exact ⟨w1.heap.size, w.heap.size, rfl, Blk.new _ _ _ _ rfl, hS.alloc _, fun i _ => ⟨Int.le_refl _, (by decide : (0 : Int) ≤ 4095)⟩, by omega, hG.alloc _, hG.size, Nat.le_refl _, he⟩

/-- find(id) -/
def FindPostI (T : Th Int) (E : Int) (w : World) (e : Ending) (w' : World) : Prop := e = .returned (.tuple #[.agg #[.int .i64 T.u, .int .i64 T.g, .int .i64 T.cu, .int .i64 T.cg, .int .i64 T.m, .int .i64 T.key, .int .i64 T.v], errV E]) ∧ Same w w'
set_option maxRecDepth 100000 in
set_option maxHeartbeats 2000000 in
theorem nfind_anyI {w0 w : World} {n h : Nat} {S : St Int} (x : NSI w0 w n h S) (id : Int) :
    Calls Tryz.prog 30 #[.pointer (some ⟨n, 0, none⟩), .int .i64 id] w (FindPostI (S.getT id zthI) (S.getE id) w) := by
  have hl := x.lt
  have c0 := x.c0
  have hb1 : Sl encI 103 (w.alloc (.cells #[.int .i64 0, .int .i64 0, .int .i64 0, .int .i64 0, .int .i64 0, .int .i64 0, .int .i64 0] 60)) h S := Blk.alloc x.sl _
  have hs := sget_fI h S x.ok id _ hb1
  generalize S.getT id zthI = T at *
  generalize S.getE id = E at *
  have hr0 : Blk (w.alloc (.cells #[.int .i64 0, .int .i64 0, .int .i64 0, .int .i64 0, .int .i64 0, .int .i64 0, .int .i64 0] 60)) w.heap.size 60 #[.int .i64 0, .int .i64 0, .int .i64 0, .int .i64 0, .int .i64 0, .int .i64 0, .int .i64 0] := Blk.new _ _ _ _ rfl
  clear x hb1
  go_enter Tryz.func30, Tryz.ntmps30
  go_wp2_with fail
  refine hs.mono ?_
  rintro e w1 ⟨rfl, hG⟩
  have hr := hG.blk hr0 (fun f => f)
  have hGw := (Gr.a1 w (.cells #[.int .i64 0, .int .i64 0, .int .i64 0, .int .i64 0, .int .i64 0, .int .i64 0, .int .i64 0] 60)).next hG
  have hsz := hGw.size
  have hl1 := hr.lt
  have hl2 : w.heap.size < w1.heap.size + 1 := by omega
  have p0 := hr.cell 0
  have p1 := hr.cell 1
  have p2 := hr.cell 2
  have p3 := hr.cell 3
  have p4 := hr.cell 4
  have p5 := hr.cell 5
  have p6 := hr.cell 6
  have fr := fun o => hr.frozen o
  simp at p0 p1 p2 p3 p4 p5 p6
  clear hr hr0 hG hs c0
  go_wp2
  go_region_with (go_at_call 31; refine (first_any E _ _ (by first | exact Blk.new _ _ _ _ (by simp) | exact Blk.drew (Blk.new _ _ _ _ (by simp)))).mono ?_; rintro ev w2 ⟨rfl, rfl⟩)
  all_goals
    go_wp2
    refine bodyPost_ret (v := .tuple #[.agg #[.int .i64 T.u, .int .i64 T.g, .int .i64 T.cu, .int .i64 T.cg, .int .i64 T.m, .int .i64 T.key, .int .i64 T.v], errV E]) (by simp [results, Tryz.results30, go_sem, p0, p1, p2, p3, p4, p5, p6, fr, hl1, hl2]) rfl ⟨rfl, ?_⟩
    repeat (first | (with_reducible exact Gr.refl _ _) | (with_reducible refine Gr.setCell ?_ (.inr (by dsimp only; omega)) _) | (with_reducible refine Gr.alloc ?_ _) | (with_reducible refine Gr.drew ?_) | (with_reducible refine Gr.next ?_ (by assumption)))
end Go.Proofs
