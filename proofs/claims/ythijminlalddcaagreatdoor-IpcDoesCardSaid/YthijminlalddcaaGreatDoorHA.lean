/- Names: calls at a known answer; nil Names; shown. -/
import Derived.Test.YthijminlalddcaaGreatDoorIGI
import Derived.Test.YthijminlalddcaaGreatDoorIGS
import Derived.Test.YthijminlalddcaaGreatDoorIDI
import Derived.Test.YthijminlalddcaaGreatDoorIDS
set_option linter.unusedVariables false
set_option linter.unusedSimpArgs false
namespace Go.Proofs
open Go.RowKit Go.Shelf
attribute [local go_sem] Oper.semAt_some

section
variable {w0 w : World} {n h : Nat} {S : St Int} (x : NSI w0 w n h S)
include x
theorem nget_atI (cu cg key flags : Int) (v : Int) (hfl : -9223372036854775808 ≤ flags ∧ flags < 9223372036854775808) (id : Int) (mk : Bool) (E : Int) (hr : (gt S cu cg key flags v).1 = (id, mk, E)) :
    Calls Tryz.prog 20 #[.pointer (some ⟨n, 0, none⟩), .agg #[.int .i64 cu, .int .i64 cg], .int .i64 key, .int .i64 flags, .int .i64 v] w fun e w' => e = .returned (.tuple #[.int .i64 id, .bool mk, .int .i64 E]) ∧ NSI w0 w' n h (gt S cu cg key flags v).2 ∧ Gr w w' (fun j => j = h) := by
  have hg := nGet_fI x cu cg key flags v hfl
  unfold GtPostI at hg
  rw [hr] at hg
  exact hg
theorem nfind_atI (id cu cg want : Int) (v : Int) (E : Int) (hE : fdEI (S.getT id zthI) (S.getE id) cu cg want = E) (hv : fdVI (S.getT id zthI) (S.getE id) cu cg want = v) :
    Calls Tryz.prog 10 #[.pointer (some ⟨n, 0, none⟩), .agg #[.int .i64 cu, .int .i64 cg], .int .i64 id, .int .i64 want] w fun e w' => e = .returned (.tuple #[.int .i64 v, .int .i64 E]) ∧ NSI w0 w' n h S ∧ Gr w w' (fun j => j = h) := by
  have hg := nFind_fI x id cu cg want
  rw [hE, hv] at hg
  exact hg.mono fun e w' ⟨he, hx, hG⟩ => ⟨he, hx, hG.no⟩
theorem nremove_atI (id cu cg : Int) (v : Int) (E : Int) (S' : St Int) (hE : rmEI (S.getT id zthI) (S.getE id) cu cg = E) (hv : rmVI (S.getT id zthI) (S.getE id) cu cg = v) (hS : (if E = 0 then S.rmI id zthI else S) = S') :
    Calls Tryz.prog 26 #[.pointer (some ⟨n, 0, none⟩), .agg #[.int .i64 cu, .int .i64 cg], .int .i64 id] w fun e w' => e = .returned (.tuple #[.int .i64 v, .int .i64 E]) ∧ NSI w0 w' n h S' ∧ Gr w w' (fun j => j = h) := by
  have hg := nRemove_fI x id cu cg
  unfold RmPostI at hg
  rw [hE, hv, hS] at hg
  exact hg
theorem nset_atI (id cu cg uid gid mode : Int) (E : Int) (S' : St Int) (hE : nsE (S.getT id zthI) (S.getE id) cu cg uid gid mode = E) (hS : (if E = 0 then S.setI id ((S.getT id zthI).setP uid gid mode) else S) = S') :
    Calls Tryz.prog 24 #[.pointer (some ⟨n, 0, none⟩), .agg #[.int .i64 cu, .int .i64 cg], .int .i64 id, .int .i64 uid, .int .i64 gid, .int .i64 mode] w fun e w' => e = .returned (.int .i64 E) ∧ NSI w0 w' n h S' ∧ Gr w w' (fun j => j = h) := by
  have hg := nSet_f x id cu cg uid gid mode
  unfold PutPost at hg
  rw [hE, hS] at hg
  exact hg
end
theorem nfind_nilI (id : Int) (w : World) : Calls Tryz.prog 30 #[.pointer none, .int .i64 id] w (FindPostI zthI 1 w) := by
  have hr0 : Blk ((w.alloc (.cells #[.int .i64 0, .int .i64 0, .int .i64 0, .int .i64 0, .int .i64 0, .int .i64 0, .int .i64 0] 60)).alloc (.cells #[.int .i64 1] 44)) w.heap.size 60 #[.int .i64 0, .int .i64 0, .int .i64 0, .int .i64 0, .int .i64 0, .int .i64 0, .int .i64 0] := (Blk.new _ _ _ _ rfl).alloc _
  have hF := first_no 1 (by decide) (w.heap.size + 1) ((w.alloc (.cells #[.int .i64 0, .int .i64 0, .int .i64 0, .int .i64 0, .int .i64 0, .int .i64 0, .int .i64 0] 60)).alloc (.cells #[.int .i64 1] 44)) (Blk.new _ _ _ _ (by simp))
  clear hr0
  go_enter Tryz.func30, Tryz.ntmps30
  go_wp2_with fail
  refine hF.mono ?_; rintro e w1 ⟨rfl, rfl⟩
  go_wp2
  refine bodyPost_ret (v := .tuple #[.agg #[.int .i64 0, .int .i64 0, .int .i64 0, .int .i64 0, .int .i64 0, .int .i64 0, .int .i64 0], .iface 117 (.agg #[.int .i64 1])]) (by (simp [results, Tryz.results30, go_sem]) <;> rfl) rfl ⟨?_, ?_⟩
  · rw [errV_no (by decide)]; rfl
  · repeat (first | (with_reducible exact Gr.refl _ _) | (with_reducible refine Gr.setCell ?_ (.inr (by dsimp only; omega)) _) | (with_reducible refine Gr.alloc ?_ _) | (with_reducible refine Gr.drew ?_) | (with_reducible refine Gr.next ?_ (by assumption)))

section
variable {w0 w : World} {n h : Nat} {S : St ByteArray} (x : NSS w0 w n h S)
include x
theorem nget_atS (cu cg key flags : Int) (v : ByteArray) (hfl : -9223372036854775808 ≤ flags ∧ flags < 9223372036854775808) (id : Int) (mk : Bool) (E : Int) (hr : (gt S cu cg key flags v).1 = (id, mk, E)) :
    Calls Tryz.prog 15 #[.pointer (some ⟨n, 0, none⟩), .agg #[.int .i64 cu, .int .i64 cg], .int .i64 key, .int .i64 flags, .string v] w fun e w' => e = .returned (.tuple #[.int .i64 id, .bool mk, .int .i64 E]) ∧ NSS w0 w' n h (gt S cu cg key flags v).2 ∧ Gr w w' (fun j => j = h) := by
  have hg := nGet_fS x cu cg key flags v hfl
  unfold GtPostS at hg
  rw [hr] at hg
  exact hg
theorem nfind_atS (id cu cg want : Int) (v : ByteArray) (E : Int) (hE : fdES (S.getT id zthS) (S.getE id) cu cg want = E) (hv : fdVS (S.getT id zthS) (S.getE id) cu cg want = v) :
    Calls Tryz.prog 16 #[.pointer (some ⟨n, 0, none⟩), .agg #[.int .i64 cu, .int .i64 cg], .int .i64 id, .int .i64 want] w fun e w' => e = .returned (.tuple #[.string v, .int .i64 E]) ∧ NSS w0 w' n h S ∧ Gr w w' (fun j => j = h) := by
  have hg := nFind_fS x id cu cg want
  rw [hE, hv] at hg
  exact hg.mono fun e w' ⟨he, hx, hG⟩ => ⟨he, hx, hG.no⟩
theorem nremove_atS (id cu cg : Int) (v : ByteArray) (E : Int) (S' : St ByteArray) (hE : rmES (S.getT id zthS) (S.getE id) cu cg = E) (hv : rmVS (S.getT id zthS) (S.getE id) cu cg = v) (hS : (if E = 0 then S.rmI id zthS else S) = S') :
    Calls Tryz.prog 17 #[.pointer (some ⟨n, 0, none⟩), .agg #[.int .i64 cu, .int .i64 cg], .int .i64 id] w fun e w' => e = .returned (.tuple #[.string v, .int .i64 E]) ∧ NSS w0 w' n h S' ∧ Gr w w' (fun j => j = h) := by
  have hg := nRemove_fS x id cu cg
  unfold RmPostS at hg
  rw [hE, hv, hS] at hg
  exact hg
end
theorem nfind_nilS (id : Int) (w : World) : Calls Tryz.prog 44 #[.pointer none, .int .i64 id] w (FindPostS zthS 1 w) := by
  have hr0 : Blk ((w.alloc (.cells #[.int .i64 0, .int .i64 0, .int .i64 0, .int .i64 0, .int .i64 0, .int .i64 0, .string ByteArray.empty] 82)).alloc (.cells #[.int .i64 1] 44)) w.heap.size 82 #[.int .i64 0, .int .i64 0, .int .i64 0, .int .i64 0, .int .i64 0, .int .i64 0, .string ByteArray.empty] := (Blk.new _ _ _ _ rfl).alloc _
  have hF := first_no 1 (by decide) (w.heap.size + 1) ((w.alloc (.cells #[.int .i64 0, .int .i64 0, .int .i64 0, .int .i64 0, .int .i64 0, .int .i64 0, .string ByteArray.empty] 82)).alloc (.cells #[.int .i64 1] 44)) (Blk.new _ _ _ _ (by simp))
  clear hr0
  go_enter Tryz.func44, Tryz.ntmps44
  go_wp2_with fail
  refine hF.mono ?_; rintro e w1 ⟨rfl, rfl⟩
  go_wp2
  refine bodyPost_ret (v := .tuple #[.agg #[.int .i64 0, .int .i64 0, .int .i64 0, .int .i64 0, .int .i64 0, .int .i64 0, .string ByteArray.empty], .iface 117 (.agg #[.int .i64 1])]) (by (simp [results, Tryz.results44, go_sem]) <;> rfl) rfl ⟨?_, ?_⟩
  · rw [errV_no (by decide)]; rfl
  · repeat (first | (with_reducible exact Gr.refl _ _) | (with_reducible refine Gr.setCell ?_ (.inr (by dsimp only; omega)) _) | (with_reducible refine Gr.alloc ?_ _) | (with_reducible refine Gr.drew ?_) | (with_reducible refine Gr.next ?_ (by assumption)))

def vS : ByteArray := ⟨#[118]⟩
def wS : ByteArray := ⟨#[119]⟩
def shZ1 : St ByteArray := (gt St.zeroS 7 9 5 1920 vS).2
def shZ2 : St ByteArray := (gt shZ1 7 9 5 1920 wS).2
theorem shG1 : (gt St.zeroS 7 9 5 1920 vS).1 = (0, true, 0) := by decide +kernel
theorem shG2 : (gt shZ1 7 9 5 1920 wS).1 = (0, false, 20) := by decide +kernel
theorem shF1 : fdES (shZ2.getT 0 zthS) (shZ2.getE 0) 7 9 4 = 0 := by decide +kernel
theorem shF2 : fdVS (shZ2.getT 0 zthS) (shZ2.getE 0) 7 9 4 = vS := by decide +kernel
theorem shR1 : rmES (shZ2.getT 0 zthS) (shZ2.getE 0) 8 0 = 51 := by decide +kernel
theorem shR2 : rmVS (shZ2.getT 0 zthS) (shZ2.getE 0) 8 0 = ByteArray.empty := by decide +kernel
theorem shF3 : fdES (shZ2.getT 1 zthS) (shZ2.getE 1) 7 9 0 = 100 := by decide +kernel
theorem shF4 : fdVS (shZ2.getT 1 zthS) (shZ2.getE 1) 7 9 0 = ByteArray.empty := by decide +kernel
set_option maxRecDepth 100000 in
set_option maxHeartbeats 2000000 in
theorem shown_any (w : World) (he : EtH w) : Calls Tryz.prog 4 #[] w fun e w' => e = .returned (.bool true) ∧ Same w w' := by
  go_enter Tryz.func4, Tryz.ntmps4
  go_wp2_with fail
  refine (nnew_anyS _ he).mono ?_; rintro e w1 ⟨n, h, rfl, x1⟩
  have hl1 := x1.lt
  have hcb : Blk (w1.alloc (.cells #[.int .i64 7, .int .i64 9] 37)) w1.heap.size 37 #[.int .i64 7, .int .i64 9] := Blk.new _ _ _ _ rfl
  have x1a := x1.same (Gr.a1 w1 (.cells #[.int .i64 7, .int .i64 9] 37))
  have hsz1 : w1.heap.size < (w1.alloc (.cells #[.int .i64 7, .int .i64 9] 37)).heap.size := by simp
  have hne : w1.heap.size ≠ h := by omega
  go_wp2_with fail
  refine (nget_atS x1a 7 9 5 1920 vS (by omega) 0 true 0 shG1).mono ?_; rintro e w2 ⟨rfl, x2, hG2⟩
  have yB2 := hG2.blk hcb hne
  have y0 := yB2.cell 0
  have y1 := yB2.cell 1
  simp at y0 y1
  have yl := yB2.lt
  go_wp2_with fail
  refine (nget_atS x2 7 9 5 1920 wS (by omega) 0 false 20 shG2).mono ?_; rintro e w3 ⟨rfl, x3, hG3⟩
  clear y0 y1 yl
  have yB3 := hG3.blk yB2 hne
  have y0 := yB3.cell 0
  have y1 := yB3.cell 1
  simp at y0 y1
  have yl := yB3.lt
  go_wp2_with fail
  refine (nfind_atS x3 0 7 9 4 vS 0 shF1 shF2).mono ?_; rintro e w4 ⟨rfl, x4, hG4⟩
  clear y0 y1 yl
  have yB4 := hG4.blk yB3 hne
  have y0 := yB4.cell 0
  have y1 := yB4.cell 1
  simp at y0 y1
  have yl := yB4.lt
  go_wp2_with fail
  refine (nremove_atS x4 0 8 0 ByteArray.empty 51 _ shR1 shR2 (by rw [if_neg (by decide)])).mono ?_; rintro e w5 ⟨rfl, x5, hG5⟩
  clear y0 y1 yl
  have yB5 := hG5.blk yB4 hne
  have y0 := yB5.cell 0
  have y1 := yB5.cell 1
  simp at y0 y1
  have yl := yB5.lt
  go_wp2_with fail
  refine (nfind_atS x5 1 7 9 0 ByteArray.empty 100 shF3 shF4).mono ?_; rintro e w6 ⟨rfl, x6, hG6⟩
  go_wp2
  go_ret
  exact ⟨by first | rfl | simp [vS], x6.g⟩
end Go.Proofs
