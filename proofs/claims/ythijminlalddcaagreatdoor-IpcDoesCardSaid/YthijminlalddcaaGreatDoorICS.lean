/- Names (string): Find, Perm, Put, Set, Remove, Ids. -/
import Derived.Test.YthijminlalddcaaGreatDoorIBS
import Derived.Test.YthijminlalddcaaGreatDoorICI
set_option linter.unusedVariables false
set_option linter.unusedSimpArgs false
namespace Go.Proofs
open Go.RowKit Go.Shelf
attribute [local go_sem] Oper.semAt_some


/-- What Find answers. -/
def fdES (T : Th ByteArray) (E cu cg want : Int) : Int := if E ≠ 0 then E else if want = 0 then 0 else allowedV cu cg T.u T.g T.cu T.cg T.m want
def fdVS (T : Th ByteArray) (E cu cg want : Int) : ByteArray := if fdES T E cu cg want = 0 then T.v else ByteArray.empty
def FdPostS (v : ByteArray) (E : Int) (w : World) (e : Ending) (w' : World) : Prop := e = .returned (.tuple #[.string v, .int .i64 E]) ∧ Same w w'
set_option maxRecDepth 100000 in
set_option maxHeartbeats 2000000 in
theorem nFind_coreS (N : Value) (T : Th ByteArray) (E id cu cg want : Int) (w : World) (HF : ∀ W, Same w W → Calls Tryz.prog 44 #[N, .int .i64 id] W (FindPostS T E W)) (he : EtH w) :
    Calls Tryz.prog 16 #[N, .agg #[.int .i64 cu, .int .i64 cg], .int .i64 id, .int .i64 want] w (FdPostS (fdVS T E cu cg want) (fdES T E cu cg want) w) := by
  have hf := HF _ (Gr.a1 w (.cells #[.int .i64 cu, .int .i64 cg] 37))
  have hb0 : Blk (w.alloc (.cells #[.int .i64 cu, .int .i64 cg] 37)) w.heap.size 37 #[.int .i64 cu, .int .i64 cg] := Blk.new _ _ _ _ rfl
  have he0 := he.same (Gr.a1 w (.cells #[.int .i64 cu, .int .i64 cg] 37)) (fun f => f)
  clear HF
  by_cases hE : E = 0
  · subst hE
    rcases (show want = 0 ∨ (want ≠ 0 ∧ allowedV cu cg T.u T.g T.cu T.cg T.m want = 0) ∨ (want ≠ 0 ∧ allowedV cu cg T.u T.g T.cu T.cg T.m want ≠ 0) by omega) with hw | ⟨hw, ha⟩ | ⟨hw, ha⟩
    · subst hw
      rw [show fdVS T 0 cu cg 0 = T.v by unfold fdVS fdES; simp, show fdES T 0 cu cg 0 = 0 by unfold fdES; simp]
      unfold FindPostS at hf
      rw [errV_ok] at hf
      go_enter Tryz.func16, Tryz.ntmps16
      go_wp2_with fail
      refine hf.mono ?_; rintro e w1 ⟨rfl, hG⟩
      go_wp2
      go_ret2
      exact ⟨rfl, ((Gr.a1 _ _).next hG).alloc _⟩
    · rw [show fdVS T 0 cu cg want = T.v by unfold fdVS fdES; simp [hw, ha], show fdES T 0 cu cg want = 0 by unfold fdES; simp [ha]]
      unfold FindPostS at hf
      rw [errV_ok] at hf
      have hw' : (want != 0) = true := by simp [hw]
      have HA := allowed_s cu cg T.u T.g T.cu T.cg T.m want
      rw [ha] at HA
      clear hw ha
      go_enter Tryz.func16, Tryz.ntmps16
      go_wp2_with fail
      refine hf.mono ?_; rintro e w1 ⟨rfl, hG⟩
      have hb1 := hG.blk hb0 (fun f => f)
      have y0 := hb1.cell 0
      have y1 := hb1.cell 1
      have hl1 := hb1.lt
      simp at y0 y1
      have hGa := ((Gr.a1 w (.cells #[.int .i64 cu, .int .i64 cg] 37)).next hG).alloc (.cells #[.int .i64 T.u, .int .i64 T.g, .int .i64 T.cu, .int .i64 T.cg, .int .i64 T.m, .int .i64 T.key, .string T.v] 82)
      have hz1 : w1.heap.size < (w1.alloc (.cells #[.int .i64 T.u, .int .i64 T.g, .int .i64 T.cu, .int .i64 T.cg, .int .i64 T.m, .int .i64 T.key, .string T.v] 82)).heap.size := by simp
      have hbx : Blk (w1.alloc (.cells #[.int .i64 T.u, .int .i64 T.g, .int .i64 T.cu, .int .i64 T.cg, .int .i64 T.m, .int .i64 T.key, .string T.v] 82)) w1.heap.size 82 #[.int .i64 T.u, .int .i64 T.g, .int .i64 T.cu, .int .i64 T.cg, .int .i64 T.m, .int .i64 T.key, .string T.v] := Blk.new _ _ _ _ rfl
      clear hb1 hb0 hf
      go_wp2_with fail
      refine (HA _).mono ?_; rintro e w2 ⟨rfl, hG2⟩
      have hx2 := hG2.blk hbx (fun f => f)
      have hGb := hGa.next hG2
      have q0 := hx2.cell 0
      have q1 := hx2.cell 1
      have q2 := hx2.cell 2
      have q3 := hx2.cell 3
      have q4 := hx2.cell 4
      have q5 := hx2.cell 5
      have q6 := hx2.cell 6
      simp at q0 q1 q2 q3 q4 q5 q6
      have hl2 := hx2.lt
      clear hbx hx2 y0 y1 HA hG2 hG
      go_wp2_with fail
      refine (first_ok _ _ (Blk.new _ _ _ _ rfl)).mono ?_; rintro e w3 ⟨rfl, rfl⟩
      go_wp2
      go_ret2
      exact ⟨rfl, hGb.alloc _⟩
    · rw [show fdVS T 0 cu cg want = ByteArray.empty by unfold fdVS fdES; simp [hw, ha], show fdES T 0 cu cg want = allowedV cu cg T.u T.g T.cu T.cg T.m want by unfold fdES; simp [hw]]
      unfold FindPostS at hf
      rw [errV_ok] at hf
      have hw' : (want != 0) = true := by simp [hw]
      have HA := allowed_s cu cg T.u T.g T.cu T.cg T.m want
      generalize allowedV cu cg T.u T.g T.cu T.cg T.m want = a at *
      have ha' : (a == 0) = false := by simp [ha]
      clear hw
      go_enter Tryz.func16, Tryz.ntmps16
      go_wp2_with fail
      refine hf.mono ?_; rintro e w1 ⟨rfl, hG⟩
      have hb1 := hG.blk hb0 (fun f => f)
      have y0 := hb1.cell 0
      have y1 := hb1.cell 1
      have hl1 := hb1.lt
      simp at y0 y1
      have hGa := ((Gr.a1 w (.cells #[.int .i64 cu, .int .i64 cg] 37)).next hG).alloc (.cells #[.int .i64 T.u, .int .i64 T.g, .int .i64 T.cu, .int .i64 T.cg, .int .i64 T.m, .int .i64 T.key, .string T.v] 82)
      have he1 : EtH (w1.alloc (.cells #[.int .i64 T.u, .int .i64 T.g, .int .i64 T.cu, .int .i64 T.cg, .int .i64 T.m, .int .i64 T.key, .string T.v] 82)) := (he0.same hG (fun f => f)).same (Gr.a1 _ _) (fun f => f)
      clear hb1 hb0 hf
      go_wp2_with fail
      refine (HA _).mono ?_; rintro e w2 ⟨rfl, hG2⟩
      have hGb := hGa.next hG2
      have he2 := (he1.same hG2 (fun f => f)).same (Gr.a1 w2 (.cells #[.int .i64 a] 44)) (fun f => f)
      clear y0 y1 HA hG2 hG
      go_wp2_with fail
      refine (first_no a ha' _ _ (Blk.new _ _ _ _ rfl)).mono ?_; rintro e w3 ⟨rfl, rfl⟩
      go_wp2_with fail
      refine (told_no a _ he2).mono ?_; rintro e w4 ⟨rfl, hG4⟩
      go_wp2
      go_ret2
      exact ⟨rfl, (hGb.alloc _).next hG4⟩
  · rw [show fdVS T E cu cg want = ByteArray.empty by unfold fdVS fdES; simp [hE], show fdES T E cu cg want = E by unfold fdES; simp [hE]]
    unfold FindPostS at hf
    rw [errV_no hE] at hf
    go_enter Tryz.func16, Tryz.ntmps16
    go_wp2_with fail
    refine hf.mono ?_; rintro e w1 ⟨rfl, hG⟩
    have he1 : EtH (w1.alloc (.cells #[.int .i64 T.u, .int .i64 T.g, .int .i64 T.cu, .int .i64 T.cg, .int .i64 T.m, .int .i64 T.key, .string T.v] 82)) := (he0.same hG (fun f => f)).same (Gr.a1 _ _) (fun f => f)
    go_wp2_with fail
    refine (told_no E _ he1).mono ?_; rintro e w4 ⟨rfl, hG4⟩
    go_wp2
    go_ret2
    exact ⟨rfl, (((Gr.a1 _ _).next hG).alloc _).next hG4⟩
theorem nFind_fS {w0 w : World} {n h : Nat} {S : St ByteArray} (x : NSS w0 w n h S) (id cu cg want : Int) :
    Calls Tryz.prog 16 #[.pointer (some ⟨n, 0, none⟩), .agg #[.int .i64 cu, .int .i64 cg], .int .i64 id, .int .i64 want] w fun e w' =>
      e = .returned (.tuple #[.string (fdVS (S.getT id zthS) (S.getE id) cu cg want), .int .i64 (fdES (S.getT id zthS) (S.getE id) cu cg want)]) ∧ NSS w0 w' n h S ∧ Same w w' :=
  (nFind_coreS _ _ _ id cu cg want w (fun W hG => nfind_anyS (x.same hG) id) x.et).mono fun e w' ⟨he, hG⟩ => ⟨he, x.same hG, hG⟩
end Go.Proofs
