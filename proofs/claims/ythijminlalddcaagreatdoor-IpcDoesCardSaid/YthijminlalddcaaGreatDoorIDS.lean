/- Names (string): Perm, Put, Set, Remove, Ids. -/
import Derived.Test.YthijminlalddcaaGreatDoorICS
import Derived.Test.YthijminlalddcaaGreatDoorICI
set_option linter.unusedVariables false
set_option linter.unusedSimpArgs false
namespace Go.Proofs
open Go.RowKit Go.Shelf
attribute [local go_sem] Oper.semAt_some

/-! ### Remove -/
def rmES (T : Th ByteArray) (E cu cg : Int) : Int := if E ≠ 0 then E else if ownsB cu cg T.u T.g T.cu T.cg T.m = true then 0 else 51
def rmVS (T : Th ByteArray) (E cu cg : Int) : ByteArray := if rmES T E cu cg = 0 then T.v else ByteArray.empty
set_option maxRecDepth 100000 in
set_option maxHeartbeats 2000000 in
theorem nRemove_noS (N : Value) (T : Th ByteArray) (E id cu cg : Int) (hE : rmES T E cu cg ≠ 0) (w : World) (HF : ∀ W, Same w W → Calls Tryz.prog 44 #[N, .int .i64 id] W (FindPostS T E W)) (he : EtH w) :
    Calls Tryz.prog 17 #[N, .agg #[.int .i64 cu, .int .i64 cg], .int .i64 id] w (FdPostS ByteArray.empty (rmES T E cu cg) w) := by
  have hf := HF _ (Gr.a1 w (.cells #[.int .i64 cu, .int .i64 cg] 37))
  have he0 := he.same (Gr.a1 w (.cells #[.int .i64 cu, .int .i64 cg] 37)) (fun f => f)
  have hb0 : Blk (w.alloc (.cells #[.int .i64 cu, .int .i64 cg] 37)) w.heap.size 37 #[.int .i64 cu, .int .i64 cg] := Blk.new _ _ _ _ rfl
  clear HF
  unfold FindPostS at hf
  by_cases hE0 : E = 0
  · subst hE0
    have ho : ownsB cu cg T.u T.g T.cu T.cg T.m = false := by
      unfold rmES at hE
      cases ho : ownsB cu cg T.u T.g T.cu T.cg T.m
      · rfl
      · exact absurd (by rw [if_neg (by simp), if_pos ho]) hE
    have h51 : rmES T 0 cu cg = 51 := by unfold rmES; rw [if_neg (by simp), ho]; rfl
    rw [h51]
    have HO := owns_s cu cg T.u T.g T.cu T.cg T.m
    rw [ho] at HO
    rw [errV_ok] at hf
    clear hE ho h51
    go_enter Tryz.func17, Tryz.ntmps17
    go_wp2_with fail
    refine hf.mono ?_; rintro e w1 ⟨rfl, hG⟩
    have hb1 := hG.blk hb0 (fun f => f)
    have y0 := hb1.cell 0
    have y1 := hb1.cell 1
    have hl1 := hb1.lt
    simp at y0 y1
    have hGa := ((Gr.a1 w (.cells #[.int .i64 cu, .int .i64 cg] 37)).next hG).alloc (.cells #[.int .i64 T.u, .int .i64 T.g, .int .i64 T.cu, .int .i64 T.cg, .int .i64 T.m, .int .i64 T.key, .string T.v] 82)
    have he1 : EtH (w1.alloc (.cells #[.int .i64 T.u, .int .i64 T.g, .int .i64 T.cu, .int .i64 T.cg, .int .i64 T.m, .int .i64 T.key, .string T.v] 82)) := (he0.same hG (fun f => f)).same (Gr.a1 _ _) (fun f => f)
    clear hb1 hb0 hf
    go_wp2_with fail
    refine (HO _).mono ?_; rintro e w2 ⟨rfl, hG2⟩
    have hGb := hGa.next hG2
    have he2 := (he1.same hG2 (fun f => f)).same (Gr.a1 w2 (.cells #[.int .i64 51] 44)) (fun f => f)
    clear y0 y1 HO hG2 hG
    go_wp2_with fail
    refine (first_no 51 (by decide) _ _ (Blk.new _ _ _ _ rfl)).mono ?_; rintro e w3 ⟨rfl, rfl⟩
    go_wp2_with fail
    refine (told_no 51 _ he2).mono ?_; rintro e w4 ⟨rfl, hG4⟩
    go_wp2
    go_ret2
    exact ⟨rfl, (hGb.alloc _).next hG4⟩
  · rw [show rmES T E cu cg = E by unfold rmES; rw [if_pos hE0]]
    rw [errV_no hE0] at hf
    clear hE
    go_enter Tryz.func17, Tryz.ntmps17
    go_wp2_with fail
    refine hf.mono ?_; rintro e w1 ⟨rfl, hG⟩
    have he1 : EtH (w1.alloc (.cells #[.int .i64 T.u, .int .i64 T.g, .int .i64 T.cu, .int .i64 T.cg, .int .i64 T.m, .int .i64 T.key, .string T.v] 82)) := (he0.same hG (fun f => f)).same (Gr.a1 _ _) (fun f => f)
    go_wp2_with fail
    refine (told_no E _ he1).mono ?_; rintro e w4 ⟨rfl, hG4⟩
    go_wp2
    go_ret2
    exact ⟨rfl, (((Gr.a1 _ _).next hG).alloc _).next hG4⟩
def RmPostS (w0 : World) (n h : Nat) (S : St ByteArray) (v : ByteArray) (E : Int) (w : World) (e : Ending) (w' : World) : Prop := e = .returned (.tuple #[.string v, .int .i64 E]) ∧ NSS w0 w' n h S ∧ Gr w w' (fun j => j = h)
set_option maxRecDepth 100000 in
set_option maxHeartbeats 2000000 in
theorem nRemove_fS {w0 w : World} {n h : Nat} {S : St ByteArray} (x : NSS w0 w n h S) (id cu cg : Int) :
    Calls Tryz.prog 17 #[.pointer (some ⟨n, 0, none⟩), .agg #[.int .i64 cu, .int .i64 cg], .int .i64 id] w
      (RmPostS w0 n h (if rmES (S.getT id zthS) (S.getE id) cu cg = 0 then S.rmI id zthS else S) (rmVS (S.getT id zthS) (S.getE id) cu cg) (rmES (S.getT id zthS) (S.getE id) cu cg) w) := by
  by_cases hE : rmES (S.getT id zthS) (S.getE id) cu cg = 0
  · rw [if_pos hE]
    unfold rmVS
    rw [if_pos hE, hE]
    have hE0 : S.getE id = 0 := by
      unfold rmES at hE
      by_cases h0 : S.getE id = 0
      · exact h0
      · rw [if_pos h0] at hE; exact hE
    have ho : ownsB cu cg (S.getT id zthS).u (S.getT id zthS).g (S.getT id zthS).cu (S.getT id zthS).cg (S.getT id zthS).m = true := by
      unfold rmES at hE
      rw [hE0, if_neg (by simp)] at hE
      split at hE
      · assumption
      · exact absurd hE (by decide)
    have hf := nfind_anyS (x.same (Gr.a1 w (.cells #[.int .i64 cu, .int .i64 cg] 37))) id
    have hs := fun W => sremove_fS h S x.ok id W
    have hok : (S.rmI id zthS).ok := x.ok.rmI _ _
    have HO := owns_s cu cg (S.getT id zthS).u (S.getT id zthS).g (S.getT id zthS).cu (S.getT id zthS).cg (S.getT id zthS).m
    rw [ho] at HO
    rw [hE0] at hf hs
    generalize S.rmI id zthS = S' at *
    generalize S.getT id zthS = T at *
    unfold FindPostS at hf
    rw [errV_ok] at hf
    have hb0 : Blk (w.alloc (.cells #[.int .i64 cu, .int .i64 cg] 37)) w.heap.size 37 #[.int .i64 cu, .int .i64 cg] := Blk.new _ _ _ _ rfl
    have HX := Lib.hid x
    clear hE hE0 ho x
    go_enter Tryz.func17, Tryz.ntmps17
    go_wp2_with fail
    refine hf.mono ?_; rintro e w1 ⟨rfl, hG⟩
    have hb1 := hG.blk hb0 (fun f => f)
    have y0 := hb1.cell 0
    have y1 := hb1.cell 1
    have hl1 := hb1.lt
    simp at y0 y1
    have hbt : Blk (w1.alloc (.cells #[.int .i64 T.u, .int .i64 T.g, .int .i64 T.cu, .int .i64 T.cg, .int .i64 T.m, .int .i64 T.key, .string T.v] 82)) w1.heap.size 82 #[.int .i64 T.u, .int .i64 T.g, .int .i64 T.cu, .int .i64 T.cg, .int .i64 T.m, .int .i64 T.key, .string T.v] := Blk.new _ _ _ _ rfl
    have hGa := ((Gr.a1 w (.cells #[.int .i64 cu, .int .i64 cg] 37)).next hG).alloc (.cells #[.int .i64 T.u, .int .i64 T.g, .int .i64 T.cu, .int .i64 T.cg, .int .i64 T.m, .int .i64 T.key, .string T.v] 82)
    clear hb1 hb0 hf
    go_wp2_with fail
    refine (HO _).mono ?_; rintro e w2 ⟨rfl, hG2⟩
    have hGb := hGa.next hG2
    have hx2 := HX.out.same hGb
    have hbt2 := hG2.blk hbt (fun f => f)
    have c2 := hx2.c0
    have HX2 := Lib.hid hx2
    clear y0 y1 HO hx2
    go_wp2_with fail
    refine (hs _ HX2.out.sl).mono ?_; rintro e w5 ⟨rfl, hG5, hB5⟩
    have hbt5 := hG5.blk hbt2 (by have := HX.out.lt; have := ((Gr.a1 w (.cells #[.int .i64 cu, .int .i64 cg] 37)).next hG).size; omega)
    have q6 := hbt5.cell 6
    simp at q6
    go_wp2
    go_ret2
    exact ⟨rfl, HX2.out.turn hG5 hB5 hok, hGb.no.trans hG5 (fun _ _ e => e)⟩
  · rw [if_neg hE]
    unfold rmVS
    rw [if_neg hE]
    exact (nRemove_noS _ (S.getT id zthS) (S.getE id) id cu cg hE w (fun W hG => nfind_anyS (x.same hG) id) x.et).mono fun e w' ⟨he, hG⟩ => ⟨he, x.same hG, hG.no⟩
end Go.Proofs
