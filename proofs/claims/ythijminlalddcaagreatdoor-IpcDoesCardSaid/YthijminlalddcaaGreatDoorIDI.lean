/- Names (int): Perm, Put, Set, Remove, Ids. -/
import Derived.Test.YthijminlalddcaaGreatDoorICI
set_option linter.unusedVariables false
set_option linter.unusedSimpArgs false
namespace Go.Proofs
open Go.RowKit Go.Shelf
attribute [local go_sem] Oper.semAt_some

def PmPost (P : Value) (E : Int) (w : World) (e : Ending) (w' : World) : Prop := e = .returned (.tuple #[P, .int .i64 E]) ∧ Same w w'
def pmP (T : Th Int) (E : Int) : Value := if E = 0 then .agg #[.int .i64 T.u, .int .i64 T.g, .int .i64 T.cu, .int .i64 T.cg, .int .i64 T.m] else .agg #[.int .i64 0, .int .i64 0, .int .i64 0, .int .i64 0, .int .i64 0]
set_option maxRecDepth 100000 in
set_option maxHeartbeats 2000000 in
theorem nPerm_core (N : Value) (T : Th Int) (E id : Int) (w : World) (HF : ∀ W, Same w W → Calls Tryz.prog 30 #[N, .int .i64 id] W (FindPostI T E W)) (he : EtH w) :
    Calls Tryz.prog 12 #[N, .int .i64 id] w (PmPost (pmP T E) E w) := by
  have hf := HF _ (Gr.a1 w (.cells #[.int .i64 0, .int .i64 0, .int .i64 0, .int .i64 0, .int .i64 0] 39))
  have hr0 : Blk (w.alloc (.cells #[.int .i64 0, .int .i64 0, .int .i64 0, .int .i64 0, .int .i64 0] 39)) w.heap.size 39 #[.int .i64 0, .int .i64 0, .int .i64 0, .int .i64 0, .int .i64 0] := Blk.new _ _ _ _ rfl
  have he0 := he.same (Gr.a1 w (.cells #[.int .i64 0, .int .i64 0, .int .i64 0, .int .i64 0, .int .i64 0] 39)) (fun f => f)
  clear HF
  by_cases hE : E = 0
  · subst hE
    rw [show pmP T 0 = .agg #[.int .i64 T.u, .int .i64 T.g, .int .i64 T.cu, .int .i64 T.cg, .int .i64 T.m] by unfold pmP; rw [if_pos rfl]]
    unfold FindPostI at hf
    rw [errV_ok] at hf
    go_enter Tryz.func12, Tryz.ntmps12
    go_wp2_with fail
    refine hf.mono ?_; rintro e w1 ⟨rfl, hG⟩
    have hGw := (Gr.a1 w (.cells #[.int .i64 0, .int .i64 0, .int .i64 0, .int .i64 0, .int .i64 0] 39)).next hG
    have hr1 := hG.blk hr0 (fun f => f)
    have hl1 := hr1.lt
    have hl2 : w.heap.size < w1.heap.size + 1 := by omega
    have p0 := hr1.cell 0
    have p1 := hr1.cell 1
    have p2 := hr1.cell 2
    have p3 := hr1.cell 3
    have p4 := hr1.cell 4
    have fr := fun o => hr1.frozen o
    simp at p0 p1 p2 p3 p4
    clear hr1 hr0 hf hG
    go_wp2
    refine bodyPost_ret (v := .tuple #[.agg #[.int .i64 T.u, .int .i64 T.g, .int .i64 T.cu, .int .i64 T.cg, .int .i64 T.m], .int .i64 0]) (by simp [results, Tryz.results12, go_sem, p0, p1, p2, p3, p4, fr, hl1, hl2]) rfl ⟨rfl, ?_⟩
    repeat (first | (with_reducible exact Gr.refl _ _) | (with_reducible refine Gr.setCell ?_ (.inr (by dsimp only; omega)) _) | (with_reducible refine Gr.alloc ?_ _) | (with_reducible refine Gr.drew ?_) | (with_reducible refine Gr.next ?_ (by assumption)))
  · rw [show pmP T E = .agg #[.int .i64 0, .int .i64 0, .int .i64 0, .int .i64 0, .int .i64 0] by unfold pmP; rw [if_neg hE]]
    unfold FindPostI at hf
    rw [errV_no hE] at hf
    go_enter Tryz.func12, Tryz.ntmps12
    go_wp2_with fail
    refine hf.mono ?_; rintro e w1 ⟨rfl, hG⟩
    have hGw := (Gr.a1 w (.cells #[.int .i64 0, .int .i64 0, .int .i64 0, .int .i64 0, .int .i64 0] 39)).next hG
    have he1 : EtH (w1.alloc (.cells #[.int .i64 T.u, .int .i64 T.g, .int .i64 T.cu, .int .i64 T.cg, .int .i64 T.m, .int .i64 T.key, .int .i64 T.v] 60)) := (he0.same hG (fun f => f)).same (Gr.a1 _ _) (fun f => f)
    have hr1 := (hG.blk hr0 (fun f => f)).alloc (.cells #[.int .i64 T.u, .int .i64 T.g, .int .i64 T.cu, .int .i64 T.cg, .int .i64 T.m, .int .i64 T.key, .int .i64 T.v] 60)
    have hGx := hGw.alloc (.cells #[.int .i64 T.u, .int .i64 T.g, .int .i64 T.cu, .int .i64 T.cg, .int .i64 T.m, .int .i64 T.key, .int .i64 T.v] 60)
    clear hr0 hf hG hGw
    go_wp2_with fail
    refine (told_no E _ he1).mono ?_; rintro e w4 ⟨rfl, hG4⟩
    have hr4 := hG4.blk hr1 (fun f => f)
    have hGw := hGx.next hG4
    have p0 := hr4.cell 0
    have p1 := hr4.cell 1
    have p2 := hr4.cell 2
    have p3 := hr4.cell 3
    have p4 := hr4.cell 4
    have fr := fun o => hr4.frozen o
    have hl1 := hr4.lt
    simp at p0 p1 p2 p3 p4
    clear hr1 hr4 hGx hG4
    go_wp2
    refine bodyPost_ret (v := .tuple #[.agg #[.int .i64 0, .int .i64 0, .int .i64 0, .int .i64 0, .int .i64 0], .int .i64 E]) (by simp [results, Tryz.results12, go_sem, p0, p1, p2, p3, p4, fr, hl1]) rfl ⟨rfl, ?_⟩
    repeat (first | (with_reducible exact Gr.refl _ _) | (with_reducible refine Gr.setCell ?_ (.inr (by dsimp only; omega)) _) | (with_reducible refine Gr.alloc ?_ _) | (with_reducible refine Gr.drew ?_) | (with_reducible refine Gr.next ?_ (by assumption)))
theorem nPerm_f {w0 w : World} {n h : Nat} {S : St Int} (x : NSI w0 w n h S) (id : Int) :
    Calls Tryz.prog 12 #[.pointer (some ⟨n, 0, none⟩), .int .i64 id] w fun e w' =>
      e = .returned (.tuple #[pmP (S.getT id zthI) (S.getE id), .int .i64 (S.getE id)]) ∧ NSI w0 w' n h S ∧ Same w w' :=
  (nPerm_core _ _ _ id w (fun W hG => nfind_anyI (x.same hG) id) x.et).mono fun e w' ⟨he, hG⟩ => ⟨he, x.same hG, hG⟩

/-! ### Put -/
theorem nPut_no (N : Value) (T : Th Int) (E id v : Int) (hE : E ≠ 0) (w : World) (HF : ∀ W, Same w W → Calls Tryz.prog 30 #[N, .int .i64 id] W (FindPostI T E W)) (he : EtH w) :
    Calls Tryz.prog 22 #[N, .int .i64 id, .int .i64 v] w fun e w' => e = .returned (.int .i64 E) ∧ Same w w' := by
  have hf := HF _ (Gr.refl w _)
  clear HF
  unfold FindPostI at hf
  rw [errV_no hE] at hf
  go_enter Tryz.func22, Tryz.ntmps22
  go_wp2_with fail
  refine hf.mono ?_; rintro e w1 ⟨rfl, hG⟩
  have he1 : EtH (w1.alloc (.cells #[.int .i64 T.u, .int .i64 T.g, .int .i64 T.cu, .int .i64 T.cg, .int .i64 T.m, .int .i64 T.key, .int .i64 T.v] 60)) := (he.same hG (fun f => f)).same (Gr.a1 _ _) (fun f => f)
  go_wp2_with fail
  refine (told_no E _ he1).mono ?_; rintro e w4 ⟨rfl, hG4⟩
  go_wp2
  go_ret
  exact ⟨rfl, (hG.alloc _).next hG4⟩
def Th.setv {α : Type} (t : Th α) (v : α) : Th α := { t with v := v }
def PutPost (w0 : World) (n h : Nat) (S : St Int) (E : Int) (w : World) (e : Ending) (w' : World) : Prop := e = .returned (.int .i64 E) ∧ NSI w0 w' n h S ∧ Gr w w' (fun j => j = h)
set_option maxRecDepth 100000 in
set_option maxHeartbeats 2000000 in
theorem nPut_f {w0 w : World} {n h : Nat} {S : St Int} (x : NSI w0 w n h S) (id v : Int) :
    Calls Tryz.prog 22 #[.pointer (some ⟨n, 0, none⟩), .int .i64 id, .int .i64 v] w (PutPost w0 n h (S.setI id ((S.getT id zthI).setv v)) (S.getE id) w) := by
  by_cases hE : S.getE id = 0
  · have hf := nfind_anyI x id
    have hs := fun W => sset_fI h S x.ok id ((S.getT id zthI).setv v) W
    have c0 := x.c0
    rw [hE] at hf hs ⊢
    have hok : (S.setI id ((S.getT id zthI).setv v)).ok := x.ok.setI _ _
    generalize S.setI id ((S.getT id zthI).setv v) = S' at *
    unfold Th.setv at hs
    generalize S.getT id zthI = T at *
    unfold FindPostI at hf
    rw [errV_ok] at hf
    have HX := Lib.hid x
    clear hE x
    go_enter Tryz.func22, Tryz.ntmps22
    go_wp2_with fail
    refine hf.mono ?_; rintro e w1 ⟨rfl, hG⟩
    have hx1 := HX.out.same hG
    have c1 := hx1.c0
    have hl := hx1.lt
    have hsl := Blk.alloc hx1.sl (.cells #[.int .i64 T.u, .int .i64 T.g, .int .i64 T.cu, .int .i64 T.cg, .int .i64 T.m, .int .i64 T.key, .int .i64 v] 60)
    have HX1 := Lib.hid hx1
    clear c0 hf hx1
    go_wp2
    go_region_with (go_at_call 53; refine (hs _ (by first | exact hsl | exact Blk.drew hsl)).mono ?_; rintro e w2 ⟨rfl, hG2, hB2⟩)
    all_goals
      go_wp2
      go_ret
      have hG2' : Gr w1 w2 (fun j => j = h) := ((Gr.a1 w1 _).drew.no).trans hG2 (fun _ _ e => e)
      exact ⟨rfl, HX1.out.turn hG2' hB2 hok, hG.no.trans hG2' (fun _ _ e => e)⟩
  · have hf := nPut_no (.pointer (some ⟨n, 0, none⟩)) (S.getT id zthI) (S.getE id) id v hE w (fun W hG => nfind_anyI (x.same hG) id) x.et
    have hS : S.setI id ((S.getT id zthI).setv v) = S := by
      unfold St.setI
      cases hp : S.place id with
      | none => rfl
      | some i => exact absurd (by unfold St.getE; rw [hp]) hE
    rw [hS]
    exact hf.mono fun e w' ⟨he, hG⟩ => ⟨he, x.same hG, hG.no⟩

/-! ### Set -/
theorem nSet_no (N : Value) (T : Th Int) (E id cu cg uid gid mode : Int) (hE : E ≠ 0) (w : World) (HF : ∀ W, Same w W → Calls Tryz.prog 30 #[N, .int .i64 id] W (FindPostI T E W)) (he : EtH w) :
    Calls Tryz.prog 24 #[N, .agg #[.int .i64 cu, .int .i64 cg], .int .i64 id, .int .i64 uid, .int .i64 gid, .int .i64 mode] w fun e w' => e = .returned (.int .i64 E) ∧ Same w w' := by
  have hf := HF _ (Gr.a1 w (.cells #[.int .i64 cu, .int .i64 cg] 37))
  have he0 := he.same (Gr.a1 w (.cells #[.int .i64 cu, .int .i64 cg] 37)) (fun f => f)
  clear HF
  unfold FindPostI at hf
  rw [errV_no hE] at hf
  go_enter Tryz.func24, Tryz.ntmps24
  go_wp2_with fail
  refine hf.mono ?_; rintro e w1 ⟨rfl, hG⟩
  have he1 : EtH (w1.alloc (.cells #[.int .i64 T.u, .int .i64 T.g, .int .i64 T.cu, .int .i64 T.cg, .int .i64 T.m, .int .i64 T.key, .int .i64 T.v] 60)) := (he0.same hG (fun f => f)).same (Gr.a1 _ _) (fun f => f)
  go_wp2_with fail
  refine (told_no E _ he1).mono ?_; rintro e w4 ⟨rfl, hG4⟩
  go_wp2
  go_ret
  exact ⟨rfl, (((Gr.a1 _ _).next hG).alloc _).next hG4⟩
def Th.setP {α : Type} (t : Th α) (uid gid mode : Int) : Th α := { t with u := uid, g := gid, m := mode }
/-- What Set answers, and leaves. -/
def nsE (T : Th Int) (E cu cg uid gid mode : Int) : Int := if E ≠ 0 then E else stE cu cg T.u T.g T.cu T.cg T.m uid gid mode
set_option maxRecDepth 100000 in
set_option maxHeartbeats 4000000 in
theorem nSet_f {w0 w : World} {n h : Nat} {S : St Int} (x : NSI w0 w n h S) (id cu cg uid gid mode : Int) :
    Calls Tryz.prog 24 #[.pointer (some ⟨n, 0, none⟩), .agg #[.int .i64 cu, .int .i64 cg], .int .i64 id, .int .i64 uid, .int .i64 gid, .int .i64 mode] w
      (PutPost w0 n h (if nsE (S.getT id zthI) (S.getE id) cu cg uid gid mode = 0 then S.setI id ((S.getT id zthI).setP uid gid mode) else S) (nsE (S.getT id zthI) (S.getE id) cu cg uid gid mode) w) := by
  by_cases hE : S.getE id = 0
  · have hf := nfind_anyI (x.same (Gr.a1 w (.cells #[.int .i64 cu, .int .i64 cg] 37))) id
    have hs := fun W => sset_fI h S x.ok id ((S.getT id zthI).setP uid gid mode) W
    have hok : (S.setI id ((S.getT id zthI).setP uid gid mode)).ok := x.ok.setI _ _
    rw [hE] at hf hs ⊢
    rw [show nsE (S.getT id zthI) 0 cu cg uid gid mode = stE cu cg (S.getT id zthI).u (S.getT id zthI).g (S.getT id zthI).cu (S.getT id zthI).cg (S.getT id zthI).m uid gid mode by unfold nsE; simp]
    generalize S.setI id ((S.getT id zthI).setP uid gid mode) = S' at *
    unfold Th.setP at hs
    generalize S.getT id zthI = T at *
    unfold FindPostI at hf
    rw [errV_ok] at hf
    have HP := set_s cu cg T.u T.g T.cu T.cg T.m uid gid mode
    have HX := Lib.hid x
    have hb0 : Blk (w.alloc (.cells #[.int .i64 cu, .int .i64 cg] 37)) w.heap.size 37 #[.int .i64 cu, .int .i64 cg] := Blk.new _ _ _ _ rfl
    have hl0 := x.lt
    clear hE x
    by_cases ha : stE cu cg T.u T.g T.cu T.cg T.m uid gid mode = 0
    · rw [ha, if_pos rfl]
      rw [setV_ok ha] at HP
      clear ha
      go_enter Tryz.func24, Tryz.ntmps24
      go_wp2_with fail
      refine hf.mono ?_; rintro e w1 ⟨rfl, hG⟩
      have hGa := (Gr.a1 w (.cells #[.int .i64 cu, .int .i64 cg] 37)).next hG
      have hx1 := HX.out.same hGa
      have hb1 := hG.blk hb0 (fun f => f)
      have y0 := hb1.cell 0
      have y1 := hb1.cell 1
      have hl1 := hb1.lt
      simp at y0 y1
      have hx2 := hx1.same (Gr.a1 w1 (.cells #[.int .i64 T.u, .int .i64 T.g, .int .i64 T.cu, .int .i64 T.cg, .int .i64 T.m, .int .i64 T.key, .int .i64 T.v] 60))
      have HX2 := Lib.hid hx2
      have hGb := hGa.alloc (.cells #[.int .i64 T.u, .int .i64 T.g, .int .i64 T.cu, .int .i64 T.cg, .int .i64 T.m, .int .i64 T.key, .int .i64 T.v] 60)
      have hbt : Blk (w1.alloc (.cells #[.int .i64 T.u, .int .i64 T.g, .int .i64 T.cu, .int .i64 T.cg, .int .i64 T.m, .int .i64 T.key, .int .i64 T.v] 60)) w1.heap.size 60 #[.int .i64 T.u, .int .i64 T.g, .int .i64 T.cu, .int .i64 T.cg, .int .i64 T.m, .int .i64 T.key, .int .i64 T.v] := Blk.new _ _ _ _ rfl
      clear hb1 hb0 hf hx1 hx2
      go_wp2_with fail
      refine (HP _).mono ?_; rintro e w2 ⟨rfl, hG2⟩
      have hx3 := HX2.out.same hG2
      have hbt2 := hG2.blk hbt (fun f => f)
      have hGc := hGb.next hG2
      have hl3 := hx3.lt
      have hl2 := hbt2.lt
      have q0 := hbt2.cell 0
      have q1 := hbt2.cell 1
      have q2 := hbt2.cell 2
      have q3 := hbt2.cell 3
      have q4 := hbt2.cell 4
      have q5 := hbt2.cell 5
      have q6 := hbt2.cell 6
      have fr := fun o => hbt2.frozen o
      simp at q0 q1 q2 q3 q4 q5 q6
      have HX3 := Lib.hid hx3
      have c3 := hx3.c0
      have HBT := Lib.hid hbt2
      clear hbt hbt2 y0 y1 hx3
      go_wp2_with fail
      have hSl : Sl encI 103 ((((((w2.setCell ⟨w1.heap.size, 0, none⟩ (.int .i64 uid)).setCell ⟨w1.heap.size, 1, none⟩ (.int .i64 gid)).setCell ⟨w1.heap.size, 2, none⟩ (.int .i64 T.cu)).setCell ⟨w1.heap.size, 3, none⟩ (.int .i64 T.cg)).setCell ⟨w1.heap.size, 4, none⟩ (.int .i64 mode)).alloc (.cells #[.int .i64 uid, .int .i64 gid, .int .i64 T.cu, .int .i64 T.cg, .int .i64 mode] 39)) h S := by
        have hne : h ≠ w1.heap.size := by have := HX.out.lt; have := hGa.size; omega
        exact Blk.alloc (Blk.far (Blk.far (Blk.far (Blk.far (Blk.far HX3.out.sl (p := ⟨w1.heap.size, 0, none⟩) (by dsimp only; omega) (.int .i64 uid)) (p := ⟨w1.heap.size, 1, none⟩) (by dsimp only; omega) (.int .i64 gid)) (p := ⟨w1.heap.size, 2, none⟩) (by dsimp only; omega) (.int .i64 T.cu)) (p := ⟨w1.heap.size, 3, none⟩) (by dsimp only; omega) (.int .i64 T.cg)) (p := ⟨w1.heap.size, 4, none⟩) (by dsimp only; omega) (.int .i64 mode)) _
      have hnn : n ≠ w1.heap.size := by have := HX.out.lt; have := hGa.size; omega
      have hSame : Same w ((((((w2.setCell ⟨w1.heap.size, 0, none⟩ (.int .i64 uid)).setCell ⟨w1.heap.size, 1, none⟩ (.int .i64 gid)).setCell ⟨w1.heap.size, 2, none⟩ (.int .i64 T.cu)).setCell ⟨w1.heap.size, 3, none⟩ (.int .i64 T.cg)).setCell ⟨w1.heap.size, 4, none⟩ (.int .i64 mode)).alloc (.cells #[.int .i64 uid, .int .i64 gid, .int .i64 T.cu, .int .i64 T.cg, .int .i64 mode] 39)) := by
        have := hGa.size
        repeat (first | (with_reducible exact hGc) | (with_reducible refine Gr.setCell ?_ (.inr (by dsimp only; omega)) _) | (with_reducible refine Gr.alloc ?_ _))
      go_region_with (go_at_call 53; refine (hs _ (by first | exact hSl | exact Blk.drew hSl)).mono ?_; rintro e w5 ⟨rfl, hG5, hB5⟩)
      all_goals
        go_wp2
        go_ret
        have hG6 : Gr w w5 (fun j => j = h) := (hSame.drew.no).trans hG5 (fun _ _ e => e)
        exact ⟨rfl, HX.out.turn hG6 hB5 hok, hG6⟩
    · rw [if_neg ha]
      have HPn := setV_no ha
      rw [HPn] at HP
      have ha' : (stE cu cg T.u T.g T.cu T.cg T.m uid gid mode != 0) = true := by simp [ha]
      generalize stE cu cg T.u T.g T.cu T.cg T.m uid gid mode = a at *
      clear HPn ha
      go_enter Tryz.func24, Tryz.ntmps24
      go_wp2_with fail
      refine hf.mono ?_; rintro e w1 ⟨rfl, hG⟩
      have hGa := (Gr.a1 w (.cells #[.int .i64 cu, .int .i64 cg] 37)).next hG
      have hb1 := hG.blk hb0 (fun f => f)
      have y0 := hb1.cell 0
      have y1 := hb1.cell 1
      have hl1 := hb1.lt
      simp at y0 y1
      clear hb1 hb0 hf
      go_wp2_with fail
      refine (HP _).mono ?_; rintro e w2 ⟨rfl, hG2⟩
      go_wp2
      go_ret
      have hGz := ((hGa.alloc (.cells #[.int .i64 T.u, .int .i64 T.g, .int .i64 T.cu, .int .i64 T.cg, .int .i64 T.m, .int .i64 T.key, .int .i64 T.v] 60)).next hG2).alloc (.cells #[.int .i64 0, .int .i64 0, .int .i64 0, .int .i64 0, .int .i64 0] 39)
      exact ⟨rfl, HX.out.same hGz, hGz.no⟩
  · have hn : nsE (S.getT id zthI) (S.getE id) cu cg uid gid mode = S.getE id := by unfold nsE; rw [if_pos hE]
    rw [hn, if_neg hE]
    have hf := nSet_no (.pointer (some ⟨n, 0, none⟩)) (S.getT id zthI) (S.getE id) id cu cg uid gid mode hE w (fun W hG => nfind_anyI (x.same hG) id) x.et
    exact hf.mono fun e w' ⟨he, hG⟩ => ⟨he, x.same hG, hG.no⟩

/-! ### Ids -/
theorem nIds_f {w0 w : World} {n h : Nat} {S : St Int} (x : NSI w0 w n h S) :
    Calls Tryz.prog 9 #[.pointer (some ⟨n, 0, none⟩)] w fun e w' => ∃ v, e = .returned v ∧ w'.ownsRow w.heap.size 3 1 v S.ids.length (Ints S.ids) ∧ NSI w0 w' n h S ∧ Same w w' := by
  have c0 := x.c0
  go_enter Tryz.func9, Tryz.ntmps9
  go_wp2_with fail
  refine (sids_anyI h S x.ok w x.sl).mono ?_; rintro e w1 ⟨v, rfl, hr, hG⟩
  go_wp2
  go_ret
  exact ⟨v, rfl, hr, x.same hG, hG⟩
theorem nIds_nil (w : World) : Calls Tryz.prog 9 #[.pointer none] w fun e w' => e = .returned (.slice none 0 0) ∧ w = w' := by
  go_enter Tryz.func9, Tryz.ntmps9
  go_wp2
  go_ret
  exact ⟨rfl, rfl⟩

/-! ### Remove -/
def rmEI (T : Th Int) (E cu cg : Int) : Int := if E ≠ 0 then E else if ownsB cu cg T.u T.g T.cu T.cg T.m = true then 0 else 51
def rmVI (T : Th Int) (E cu cg : Int) : Int := if rmEI T E cu cg = 0 then T.v else 0
set_option maxRecDepth 100000 in
set_option maxHeartbeats 2000000 in
theorem nRemove_noI (N : Value) (T : Th Int) (E id cu cg : Int) (hE : rmEI T E cu cg ≠ 0) (w : World) (HF : ∀ W, Same w W → Calls Tryz.prog 30 #[N, .int .i64 id] W (FindPostI T E W)) (he : EtH w) :
    Calls Tryz.prog 26 #[N, .agg #[.int .i64 cu, .int .i64 cg], .int .i64 id] w (FdPostI 0 (rmEI T E cu cg) w) := by
  have hf := HF _ (Gr.a1 w (.cells #[.int .i64 cu, .int .i64 cg] 37))
  have he0 := he.same (Gr.a1 w (.cells #[.int .i64 cu, .int .i64 cg] 37)) (fun f => f)
  have hb0 : Blk (w.alloc (.cells #[.int .i64 cu, .int .i64 cg] 37)) w.heap.size 37 #[.int .i64 cu, .int .i64 cg] := Blk.new _ _ _ _ rfl
  clear HF
  unfold FindPostI at hf
  by_cases hE0 : E = 0
  · subst hE0
    have ho : ownsB cu cg T.u T.g T.cu T.cg T.m = false := by
      unfold rmEI at hE
      cases ho : ownsB cu cg T.u T.g T.cu T.cg T.m
      · rfl
      · exact absurd (by rw [if_neg (by simp), if_pos ho]) hE
    have h51 : rmEI T 0 cu cg = 51 := by unfold rmEI; rw [if_neg (by simp), ho]; rfl
    rw [h51]
    have HO := owns_s cu cg T.u T.g T.cu T.cg T.m
    rw [ho] at HO
    rw [errV_ok] at hf
    clear hE ho h51
    go_enter Tryz.func26, Tryz.ntmps26
    go_wp2_with fail
    refine hf.mono ?_; rintro e w1 ⟨rfl, hG⟩
    have hb1 := hG.blk hb0 (fun f => f)
    have y0 := hb1.cell 0
    have y1 := hb1.cell 1
    have hl1 := hb1.lt
    simp at y0 y1
    have hGa := ((Gr.a1 w (.cells #[.int .i64 cu, .int .i64 cg] 37)).next hG).alloc (.cells #[.int .i64 T.u, .int .i64 T.g, .int .i64 T.cu, .int .i64 T.cg, .int .i64 T.m, .int .i64 T.key, .int .i64 T.v] 60)
    have he1 : EtH (w1.alloc (.cells #[.int .i64 T.u, .int .i64 T.g, .int .i64 T.cu, .int .i64 T.cg, .int .i64 T.m, .int .i64 T.key, .int .i64 T.v] 60)) := (he0.same hG (fun f => f)).same (Gr.a1 _ _) (fun f => f)
    clear hb1 hb0 hf
    go_wp2_with fail
    refine (HO _).mono ?_; rintro e w2 ⟨rfl, hG2⟩
    have hGb := hGa.next hG2
    have he2 := (he1.same hG2 (fun f => f)).same (Gr.a1 w2 (.cells #[.int .i64 51] 44)) (fun f => f)
    clear y0 y1 HO hG2 hG
    go_wp2_with fail
    refine (first_no 51 (by decide) _ _ (Blk.new _ _ _ _ rfl)).mono ?_; rintro e w3 ⟨rfl, rfl⟩
    go_wp2_with fail
    refine (told_no 51 _ he2).mono ?_; rintro e w4 ⟨rfl, hG4⟩
    go_wp2
    go_ret2
    exact ⟨rfl, (hGb.alloc _).next hG4⟩
  · rw [show rmEI T E cu cg = E by unfold rmEI; rw [if_pos hE0]]
    rw [errV_no hE0] at hf
    clear hE
    go_enter Tryz.func26, Tryz.ntmps26
    go_wp2_with fail
    refine hf.mono ?_; rintro e w1 ⟨rfl, hG⟩
    have he1 : EtH (w1.alloc (.cells #[.int .i64 T.u, .int .i64 T.g, .int .i64 T.cu, .int .i64 T.cg, .int .i64 T.m, .int .i64 T.key, .int .i64 T.v] 60)) := (he0.same hG (fun f => f)).same (Gr.a1 _ _) (fun f => f)
    go_wp2_with fail
    refine (told_no E _ he1).mono ?_; rintro e w4 ⟨rfl, hG4⟩
    go_wp2
    go_ret2
    exact ⟨rfl, (((Gr.a1 _ _).next hG).alloc _).next hG4⟩
def RmPostI (w0 : World) (n h : Nat) (S : St Int) (v : Int) (E : Int) (w : World) (e : Ending) (w' : World) : Prop := e = .returned (.tuple #[.int .i64 v, .int .i64 E]) ∧ NSI w0 w' n h S ∧ Gr w w' (fun j => j = h)
set_option maxRecDepth 100000 in
set_option maxHeartbeats 2000000 in
theorem nRemove_fI {w0 w : World} {n h : Nat} {S : St Int} (x : NSI w0 w n h S) (id cu cg : Int) :
    Calls Tryz.prog 26 #[.pointer (some ⟨n, 0, none⟩), .agg #[.int .i64 cu, .int .i64 cg], .int .i64 id] w
      (RmPostI w0 n h (if rmEI (S.getT id zthI) (S.getE id) cu cg = 0 then S.rmI id zthI else S) (rmVI (S.getT id zthI) (S.getE id) cu cg) (rmEI (S.getT id zthI) (S.getE id) cu cg) w) := by
  by_cases hE : rmEI (S.getT id zthI) (S.getE id) cu cg = 0
  · rw [if_pos hE]
    unfold rmVI
    rw [if_pos hE, hE]
    have hE0 : S.getE id = 0 := by
      unfold rmEI at hE
      by_cases h0 : S.getE id = 0
      · exact h0
      · rw [if_pos h0] at hE; exact hE
    have ho : ownsB cu cg (S.getT id zthI).u (S.getT id zthI).g (S.getT id zthI).cu (S.getT id zthI).cg (S.getT id zthI).m = true := by
      unfold rmEI at hE
      rw [hE0, if_neg (by simp)] at hE
      split at hE
      · assumption
      · exact absurd hE (by decide)
    have hf := nfind_anyI (x.same (Gr.a1 w (.cells #[.int .i64 cu, .int .i64 cg] 37))) id
    have hs := fun W => sremove_fI h S x.ok id W
    have hok : (S.rmI id zthI).ok := x.ok.rmI _ _
    have HO := owns_s cu cg (S.getT id zthI).u (S.getT id zthI).g (S.getT id zthI).cu (S.getT id zthI).cg (S.getT id zthI).m
    rw [ho] at HO
    rw [hE0] at hf hs
    generalize S.rmI id zthI = S' at *
    generalize S.getT id zthI = T at *
    unfold FindPostI at hf
    rw [errV_ok] at hf
    have hb0 : Blk (w.alloc (.cells #[.int .i64 cu, .int .i64 cg] 37)) w.heap.size 37 #[.int .i64 cu, .int .i64 cg] := Blk.new _ _ _ _ rfl
    have HX := Lib.hid x
    clear hE hE0 ho x
    go_enter Tryz.func26, Tryz.ntmps26
    go_wp2_with fail
    refine hf.mono ?_; rintro e w1 ⟨rfl, hG⟩
    have hb1 := hG.blk hb0 (fun f => f)
    have y0 := hb1.cell 0
    have y1 := hb1.cell 1
    have hl1 := hb1.lt
    simp at y0 y1
    have hbt : Blk (w1.alloc (.cells #[.int .i64 T.u, .int .i64 T.g, .int .i64 T.cu, .int .i64 T.cg, .int .i64 T.m, .int .i64 T.key, .int .i64 T.v] 60)) w1.heap.size 60 #[.int .i64 T.u, .int .i64 T.g, .int .i64 T.cu, .int .i64 T.cg, .int .i64 T.m, .int .i64 T.key, .int .i64 T.v] := Blk.new _ _ _ _ rfl
    have hGa := ((Gr.a1 w (.cells #[.int .i64 cu, .int .i64 cg] 37)).next hG).alloc (.cells #[.int .i64 T.u, .int .i64 T.g, .int .i64 T.cu, .int .i64 T.cg, .int .i64 T.m, .int .i64 T.key, .int .i64 T.v] 60)
    clear hb1 hb0 hf
    go_wp2_with fail
    refine (HO _).mono ?_; rintro e w2 ⟨rfl, hG2⟩
    have hGb := hGa.next hG2
    have hx2 := HX.out.same hGb
    have hbt2 := hG2.blk hbt (fun f => f)
    have c2 := hx2.c0
    have HX2 := Lib.hid hx2
    clear y0 y1 HO hx2
    go_wp2_with fail
    refine (hs _ HX2.out.sl).mono ?_; rintro e w5 ⟨rfl, hG5, hB5⟩
    have hbt5 := hG5.blk hbt2 (by have := HX.out.lt; have := ((Gr.a1 w (.cells #[.int .i64 cu, .int .i64 cg] 37)).next hG).size; omega)
    have q6 := hbt5.cell 6
    simp at q6
    go_wp2
    go_ret2
    exact ⟨rfl, HX2.out.turn hG5 hB5 hok, hGb.no.trans hG5 (fun _ _ e => e)⟩
  · rw [if_neg hE]
    unfold rmVI
    rw [if_neg hE]
    exact (nRemove_noI _ (S.getT id zthI) (S.getE id) id cu cg hE w (fun W hG => nfind_anyI (x.same hG) id) x.et).mono fun e w' ⟨he, hG⟩ => ⟨he, x.same hG, hG.no⟩
end Go.Proofs
