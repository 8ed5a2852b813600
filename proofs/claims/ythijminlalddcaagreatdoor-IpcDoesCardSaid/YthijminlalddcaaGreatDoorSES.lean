/- Slots of things (string): New, Get, Set, Remove, Ids. -/
import Derived.Test.YthijminlalddcaaGreatDoorSDS
import Derived.Maps.AppendAt
set_option linter.unusedVariables false
set_option linter.unusedSimpArgs false
namespace Go.Proofs
open Go.RowKit Go.Shelf
attribute [local go_sem] Oper.semAt_some

def St.zeroS : St ByteArray := { sq := fun _ => 0, th := fun _ => zthS, hd := fun _ => false }
theorem snew_anyS (w : World) : Calls Tryz.prog 36 #[] w fun e w' => e = .returned (.pointer (some ⟨w.heap.size, 0, none⟩)) ∧ Same w w' ∧ Sl encS 125 w' w.heap.size St.zeroS := by
  go_enter Tryz.func36, Tryz.ntmps36
  go_wp2
  go_ret
  exact ⟨rfl, Gr.a1 _ _, Blk.new _ _ _ _ rfl⟩

def GetPostS (S : St ByteArray) (id : Int) (w : World) (e : Ending) (w' : World) : Prop :=
  (S.place id = none ∧ e = .returned (.tuple #[.agg #[.int .i64 0, .int .i64 0, .int .i64 0, .int .i64 0, .int .i64 0, .int .i64 0, .string ByteArray.empty], .int .i64 100]) ∧ Same w w') ∨ (∃ i, S.place id = some i ∧ e = .returned (.tuple #[.agg #[.int .i64 (S.th i).u, .int .i64 (S.th i).g, .int .i64 (S.th i).cu, .int .i64 (S.th i).cg, .int .i64 (S.th i).m, .int .i64 (S.th i).key, .string (S.th i).v], .int .i64 0]) ∧ Same w w')
set_option maxHeartbeats 1000000 in
theorem sget_anyS (b : Nat) (S : St ByteArray) (hS : S.ok) (id : Int) (w : World) (hb : Sl encS 125 w b S) :
    Calls Tryz.prog 69 #[.pointer (some ⟨b, 0, none⟩), .int .i64 id] w (GetPostS S id w) := by
  have hlt := Blk.lt hb
  have hb1 : ∀ o o', Sl encS 125 ((w.alloc o).alloc o') b S := fun o o' => Blk.alloc (Blk.alloc hb o) o'
  have hr0 : Blk ((w.alloc (.cells #[.int .i64 0, .int .i64 0, .int .i64 0, .int .i64 0, .int .i64 0, .int .i64 0, .string ByteArray.empty] 82)).alloc (.cells #[.int .i64 0, .int .i64 0, .int .i64 0, .int .i64 0, .int .i64 0, .int .i64 0, .string ByteArray.empty] 82)) w.heap.size 82 #[.int .i64 0, .int .i64 0, .int .i64 0, .int .i64 0, .int .i64 0, .int .i64 0, .string ByteArray.empty] := (Blk.new _ _ _ _ rfl).alloc _
  have ho0 : Blk ((w.alloc (.cells #[.int .i64 0, .int .i64 0, .int .i64 0, .int .i64 0, .int .i64 0, .int .i64 0, .string ByteArray.empty] 82)).alloc (.cells #[.int .i64 0, .int .i64 0, .int .i64 0, .int .i64 0, .int .i64 0, .int .i64 0, .string ByteArray.empty] 82)) (w.heap.size + 1) 82 #[.int .i64 0, .int .i64 0, .int .i64 0, .int .i64 0, .int .i64 0, .int .i64 0, .string ByteArray.empty] := Blk.new _ _ _ _ (by simp)
  go_enter Tryz.func69, Tryz.ntmps69
  go_wp2_with fail
  refine (with_getS b S hS id (w.heap.size + 1) zthS _ (hb1 _ _) ho0 (by omega)).mono ?_
  rintro e w1 (⟨rfl, hno, hG⟩ | ⟨i, hi, h1, h2, rfl, hG, hB⟩)
  · have hr := hG.blk hr0 (fun f => f)
    have ho := hG.blk ho0 (fun f => f)
    have hGw := (Gr.a2 w (.cells #[.int .i64 0, .int .i64 0, .int .i64 0, .int .i64 0, .int .i64 0, .int .i64 0, .string ByteArray.empty] 82) (.cells #[.int .i64 0, .int .i64 0, .int .i64 0, .int .i64 0, .int .i64 0, .int .i64 0, .string ByteArray.empty] 82)).next hG
    have HP := Lib.hid (place_none hno)
    have p0 := hr.cell 0
    have p1 := hr.cell 1
    have p2 := hr.cell 2
    have p3 := hr.cell 3
    have p4 := hr.cell 4
    have p5 := hr.cell 5
    have p6 := hr.cell 6
    have q0 := ho.cell 0
    have q1 := ho.cell 1
    have q2 := ho.cell 2
    have q3 := ho.cell 3
    have q4 := ho.cell 4
    have q5 := ho.cell 5
    have q6 := ho.cell 6
    have fr := fun o => hr.frozen o
    simp at p0 p1 p2 p3 p4 p5 p6 q0 q1 q2 q3 q4 q5 q6
    clear hno hr ho hr0 ho0 hb1 hb
    go_wp2
    refine bodyPost_ret (v := .tuple #[.agg #[.int .i64 0, .int .i64 0, .int .i64 0, .int .i64 0, .int .i64 0, .int .i64 0, .string ByteArray.empty], .int .i64 100]) (by simp [results, Tryz.results69, go_sem, p0, p1, p2, p3, p4, p5, p6, q0, q1, q2, q3, q4, q5, q6, fr]) rfl ?_
    refine .inl ⟨HP.out, rfl, ?_⟩
    repeat (first | (with_reducible exact Gr.refl _ _) | (with_reducible refine Gr.setCell ?_ (.inr (by dsimp only; omega)) _) | (with_reducible refine Gr.alloc ?_ _) | (with_reducible refine Gr.drew ?_) | (with_reducible refine Gr.next ?_ (by assumption)))
  · have hr := hG.blk hr0 (by omega)
    have hGw : Same w w1 := (Gr.a2 w (.cells #[.int .i64 0, .int .i64 0, .int .i64 0, .int .i64 0, .int .i64 0, .int .i64 0, .string ByteArray.empty] 82) (.cells #[.int .i64 0, .int .i64 0, .int .i64 0, .int .i64 0, .int .i64 0, .int .i64 0, .string ByteArray.empty] 82)).trans (Y := fun k => k = w.heap.size + 1) hG (fun j hj e => by omega)
    have HP := Lib.hid (place_some hi h1 h2)
    obtain ⟨T, hT⟩ : ∃ T, S.th i = T := ⟨_, rfl⟩
    rw [hT] at hB
    have HT := Lib.hid hT
    have p0 := hr.cell 0
    have p1 := hr.cell 1
    have p2 := hr.cell 2
    have p3 := hr.cell 3
    have p4 := hr.cell 4
    have p5 := hr.cell 5
    have p6 := hr.cell 6
    have q0 := hB.cell 0
    have q1 := hB.cell 1
    have q2 := hB.cell 2
    have q3 := hB.cell 3
    have q4 := hB.cell 4
    have q5 := hB.cell 5
    have q6 := hB.cell 6
    have fr := fun o => hr.frozen o
    simp at p0 p1 p2 p3 p4 p5 p6 q0 q1 q2 q3 q4 q5 q6
    clear hr hr0 ho0 hb1 hb hB h1 h2 hG hT
    go_wp2
    refine bodyPost_ret (v := .tuple #[.agg #[.int .i64 T.u, .int .i64 T.g, .int .i64 T.cu, .int .i64 T.cg, .int .i64 T.m, .int .i64 T.key, .string T.v], .int .i64 0]) (by simp [results, Tryz.results69, go_sem, p0, p1, p2, p3, p4, p5, p6, q0, q1, q2, q3, q4, q5, q6, fr]) rfl ?_
    refine .inr ⟨i, HP.out, by rw [HT.out], ?_⟩
    repeat (first | (with_reducible exact Gr.refl _ _) | (with_reducible refine Gr.setCell ?_ (.inr (by dsimp only; omega)) _) | (with_reducible refine Gr.alloc ?_ _) | (with_reducible refine Gr.drew ?_) | (with_reducible refine Gr.next ?_ (by assumption)))
theorem sget_fS (b : Nat) (S : St ByteArray) (hS : S.ok) (id : Int) (w : World) (hb : Sl encS 125 w b S) :
    Calls Tryz.prog 69 #[.pointer (some ⟨b, 0, none⟩), .int .i64 id] w fun e w' => e = .returned (.tuple #[.agg #[.int .i64 (S.getT id zthS).u, .int .i64 (S.getT id zthS).g, .int .i64 (S.getT id zthS).cu, .int .i64 (S.getT id zthS).cg, .int .i64 (S.getT id zthS).m, .int .i64 (S.getT id zthS).key, .string (S.getT id zthS).v], .int .i64 (S.getE id)]) ∧ Same w w' := by
  refine (sget_anyS b S hS id w hb).mono ?_
  unfold St.getT St.getE
  rintro e w' (⟨hp, rfl, hG⟩ | ⟨i, hp, rfl, hG⟩)
  · rw [hp]; exact ⟨rfl, hG⟩
  · rw [hp]; exact ⟨rfl, hG⟩

def RemPostS (b : Nat) (S : St ByteArray) (id : Int) (w : World) (e : Ending) (w' : World) : Prop :=
  (S.place id = none ∧ e = .returned (.tuple #[.agg #[.int .i64 0, .int .i64 0, .int .i64 0, .int .i64 0, .int .i64 0, .int .i64 0, .string ByteArray.empty], .int .i64 100]) ∧ Same w w') ∨ (∃ i, S.place id = some i ∧ e = .returned (.tuple #[.agg #[.int .i64 (S.th i).u, .int .i64 (S.th i).g, .int .i64 (S.th i).cu, .int .i64 (S.th i).cg, .int .i64 (S.th i).m, .int .i64 (S.th i).key, .string (S.th i).v], .int .i64 0]) ∧ Gr w w' (fun k => k = b) ∧ Sl encS 125 w' b (S.rm i zthS))
set_option maxHeartbeats 1000000 in
theorem sremove_anyS (b : Nat) (S : St ByteArray) (hS : S.ok) (id : Int) (w : World) (hb : Sl encS 125 w b S) :
    Calls Tryz.prog 46 #[.pointer (some ⟨b, 0, none⟩), .int .i64 id] w (RemPostS b S id w) := by
  have hlt := Blk.lt hb
  have hb1 : ∀ o o' o'', Sl encS 125 (((w.alloc o).alloc o').alloc o'') b S := fun o o' o'' => Blk.alloc (Blk.alloc (Blk.alloc hb o) o') o''
  have hr0 : Blk (((w.alloc (.cells #[.int .i64 0, .int .i64 0, .int .i64 0, .int .i64 0, .int .i64 0, .int .i64 0, .string ByteArray.empty] 82)).alloc (.cells #[.int .i64 0, .int .i64 0, .int .i64 0, .int .i64 0, .int .i64 0, .int .i64 0, .string ByteArray.empty] 82)).alloc (.cells #[.int .i64 0, .int .i64 0, .int .i64 0, .int .i64 0, .int .i64 0, .int .i64 0, .string ByteArray.empty] 82)) w.heap.size 82 #[.int .i64 0, .int .i64 0, .int .i64 0, .int .i64 0, .int .i64 0, .int .i64 0, .string ByteArray.empty] := ((Blk.new _ _ _ _ rfl).alloc _).alloc _
  have ho0 : Blk (((w.alloc (.cells #[.int .i64 0, .int .i64 0, .int .i64 0, .int .i64 0, .int .i64 0, .int .i64 0, .string ByteArray.empty] 82)).alloc (.cells #[.int .i64 0, .int .i64 0, .int .i64 0, .int .i64 0, .int .i64 0, .int .i64 0, .string ByteArray.empty] 82)).alloc (.cells #[.int .i64 0, .int .i64 0, .int .i64 0, .int .i64 0, .int .i64 0, .int .i64 0, .string ByteArray.empty] 82)) (w.heap.size + 1) 82 #[.int .i64 0, .int .i64 0, .int .i64 0, .int .i64 0, .int .i64 0, .int .i64 0, .string ByteArray.empty] := (Blk.new _ _ _ _ (by simp)).alloc _
  have hz0 : Blk (((w.alloc (.cells #[.int .i64 0, .int .i64 0, .int .i64 0, .int .i64 0, .int .i64 0, .int .i64 0, .string ByteArray.empty] 82)).alloc (.cells #[.int .i64 0, .int .i64 0, .int .i64 0, .int .i64 0, .int .i64 0, .int .i64 0, .string ByteArray.empty] 82)).alloc (.cells #[.int .i64 0, .int .i64 0, .int .i64 0, .int .i64 0, .int .i64 0, .int .i64 0, .string ByteArray.empty] 82)) (w.heap.size + 1 + 1) 82 #[.int .i64 0, .int .i64 0, .int .i64 0, .int .i64 0, .int .i64 0, .int .i64 0, .string ByteArray.empty] := Blk.new _ _ _ _ (by simp)
  go_enter Tryz.func46, Tryz.ntmps46
  go_wp2_with fail
  refine (with_removeS b S hS id (w.heap.size + 1) (w.heap.size + 1 + 1) zthS _ (hb1 _ _ _) ho0 hz0 (by omega) (by omega) (by omega)).mono ?_
  rintro e w1 (⟨rfl, hno, hG⟩ | ⟨i, hi, h1, h2, rfl, hG, hB, hB'⟩)
  · have hr := hG.blk hr0 (fun f => f)
    have ho := hG.blk ho0 (fun f => f)
    have hGw := (Gr.a3 w (.cells #[.int .i64 0, .int .i64 0, .int .i64 0, .int .i64 0, .int .i64 0, .int .i64 0, .string ByteArray.empty] 82) (.cells #[.int .i64 0, .int .i64 0, .int .i64 0, .int .i64 0, .int .i64 0, .int .i64 0, .string ByteArray.empty] 82) (.cells #[.int .i64 0, .int .i64 0, .int .i64 0, .int .i64 0, .int .i64 0, .int .i64 0, .string ByteArray.empty] 82)).next hG
    have HP := Lib.hid (place_none hno)
    have p0 := hr.cell 0
    have p1 := hr.cell 1
    have p2 := hr.cell 2
    have p3 := hr.cell 3
    have p4 := hr.cell 4
    have p5 := hr.cell 5
    have p6 := hr.cell 6
    have q0 := ho.cell 0
    have q1 := ho.cell 1
    have q2 := ho.cell 2
    have q3 := ho.cell 3
    have q4 := ho.cell 4
    have q5 := ho.cell 5
    have q6 := ho.cell 6
    have fr := fun o => hr.frozen o
    simp at p0 p1 p2 p3 p4 p5 p6 q0 q1 q2 q3 q4 q5 q6
    clear hno hr ho hr0 ho0 hz0 hb1 hb
    go_wp2
    refine bodyPost_ret (v := .tuple #[.agg #[.int .i64 0, .int .i64 0, .int .i64 0, .int .i64 0, .int .i64 0, .int .i64 0, .string ByteArray.empty], .int .i64 100]) (by simp [results, Tryz.results46, go_sem, p0, p1, p2, p3, p4, p5, p6, q0, q1, q2, q3, q4, q5, q6, fr]) rfl ?_
    refine .inl ⟨HP.out, rfl, ?_⟩
    repeat (first | (with_reducible exact Gr.refl _ _) | (with_reducible refine Gr.setCell ?_ (.inr (by dsimp only; omega)) _) | (with_reducible refine Gr.alloc ?_ _) | (with_reducible refine Gr.drew ?_) | (with_reducible refine Gr.next ?_ (by assumption)))
  · have hr := hG.blk hr0 (by omega)
    have hGw : Gr w w1 (fun k => k = b) := (Gr.a3 w (.cells #[.int .i64 0, .int .i64 0, .int .i64 0, .int .i64 0, .int .i64 0, .int .i64 0, .string ByteArray.empty] 82) (.cells #[.int .i64 0, .int .i64 0, .int .i64 0, .int .i64 0, .int .i64 0, .int .i64 0, .string ByteArray.empty] 82) (.cells #[.int .i64 0, .int .i64 0, .int .i64 0, .int .i64 0, .int .i64 0, .int .i64 0, .string ByteArray.empty] 82)).no.trans (Y := fun k => k = b ∨ k = w.heap.size + 1) hG (fun j hj e => by omega)
    have HP := Lib.hid (place_some hi h1 h2)
    obtain ⟨T, hT⟩ : ∃ T, S.th i = T := ⟨_, rfl⟩
    rw [hT] at hB
    have HT := Lib.hid hT
    have p0 := hr.cell 0
    have p1 := hr.cell 1
    have p2 := hr.cell 2
    have p3 := hr.cell 3
    have p4 := hr.cell 4
    have p5 := hr.cell 5
    have p6 := hr.cell 6
    have q0 := hB.cell 0
    have q1 := hB.cell 1
    have q2 := hB.cell 2
    have q3 := hB.cell 3
    have q4 := hB.cell 4
    have q5 := hB.cell 5
    have q6 := hB.cell 6
    have fr := fun o => hr.frozen o
    have HB' := Lib.hid hB'
    simp at p0 p1 p2 p3 p4 p5 p6 q0 q1 q2 q3 q4 q5 q6
    clear hr hr0 ho0 hz0 hb1 hb hB hB' h1 h2 hG hT
    go_wp2
    refine bodyPost_ret (v := .tuple #[.agg #[.int .i64 T.u, .int .i64 T.g, .int .i64 T.cu, .int .i64 T.cg, .int .i64 T.m, .int .i64 T.key, .string T.v], .int .i64 0]) (by simp [results, Tryz.results46, go_sem, p0, p1, p2, p3, p4, p5, p6, q0, q1, q2, q3, q4, q5, q6, fr]) rfl ?_
    refine .inr ⟨i, HP.out, by rw [HT.out], ?_, ?_⟩
    · repeat (first | (with_reducible exact hGw) | (with_reducible refine Gr.setCell ?_ (.inr (by dsimp only; omega)) _))
    · exact (Blk.far (Blk.far (Blk.far (Blk.far (Blk.far (Blk.far (Blk.far HB'.out (p := ⟨w.heap.size, 0, none⟩) (by dsimp only; omega) (.int .i64 T.u)) (p := ⟨w.heap.size, 1, none⟩) (by dsimp only; omega) (.int .i64 T.g)) (p := ⟨w.heap.size, 2, none⟩) (by dsimp only; omega) (.int .i64 T.cu)) (p := ⟨w.heap.size, 3, none⟩) (by dsimp only; omega) (.int .i64 T.cg)) (p := ⟨w.heap.size, 4, none⟩) (by dsimp only; omega) (.int .i64 T.m)) (p := ⟨w.heap.size, 5, none⟩) (by dsimp only; omega) (.int .i64 T.key)) (p := ⟨w.heap.size, 6, none⟩) (by dsimp only; omega) (.string T.v))
theorem sremove_fS (b : Nat) (S : St ByteArray) (hS : S.ok) (id : Int) (w : World) (hb : Sl encS 125 w b S) :
    Calls Tryz.prog 46 #[.pointer (some ⟨b, 0, none⟩), .int .i64 id] w fun e w' => e = .returned (.tuple #[.agg #[.int .i64 (S.getT id zthS).u, .int .i64 (S.getT id zthS).g, .int .i64 (S.getT id zthS).cu, .int .i64 (S.getT id zthS).cg, .int .i64 (S.getT id zthS).m, .int .i64 (S.getT id zthS).key, .string (S.getT id zthS).v], .int .i64 (S.getE id)]) ∧ Gr w w' (fun k => k = b) ∧ Sl encS 125 w' b (S.rmI id zthS) := by
  refine (sremove_anyS b S hS id w hb).mono ?_
  unfold St.getT St.getE St.rmI
  rintro e w' (⟨hp, rfl, hG⟩ | ⟨i, hp, rfl, hG, hB⟩)
  · rw [hp]; exact ⟨rfl, hG.no, hG.blk hb (fun f => f)⟩
  · rw [hp]; exact ⟨rfl, hG, hB⟩

set_option maxRecDepth 100000 in
set_option maxHeartbeats 2000000 in
theorem sids_anyS (b : Nat) (S : St ByteArray) (hS : S.ok) (w : World) (hb : Sl encS 125 w b S) :
    Calls Tryz.prog 85 #[.pointer (some ⟨b, 0, none⟩)] w fun e w' => ∃ v, e = .returned v ∧ w'.ownsRow w.heap.size 3 1 v S.ids.length (Ints S.ids) ∧ Same w w' := by
  have hlt := Blk.lt hb
  obtain ⟨i0, hi, hz0, hz1, hz2⟩ := info_parts info3
  refine (callsIn_wide (n := 9)).1 ?_
  refine callsIn_of_wp_marks Tryz.func85 rfl trivial ?_ rfl
  simp only [Tryz.ntmps85, List.size_toArray, List.length_cons, List.length_nil, Nat.reduceAdd, Nat.reduceSub, Array.replicate_succ, Array.replicate_zero, List.push_toArray, List.append_toArray, List.nil_append, List.cons_append]
  gi_wp2_with (refine ⟨trivial, ?_⟩; gi_at_call 68; refine (callsIn_wide.2 (all_anyS _ _)).mono ?_; rintro e w1 ⟨rfl, hG, hBs⟩)
  have hr0 : Blk w1 w.heap.size 31 #[.slice none 0 0] := hG.blk (Blk.new _ _ _ _ rfl) (fun f => f)
  have hGw : Same w w1 := (Gr.a1 _ _).next hG
  have hb1 : Sl encS 125 w1 b S := hGw.blk hb (fun f => f)
  have hsz := hGw.size
  have hBs' : Blk w1 (w.heap.size + 1) 79 #[.pointer (some ⟨b, 0, none⟩)] := by simpa using hBs
  have hlB := hBs'.lt
  clear hBs
  refine wpIn_rangeFunc_ownG rfl (by omega) (gf := 87) (lb := #[.pointer (some ⟨w.heap.size + 1, 0, none⟩)]) rfl trivial (enters_of Tryz.func87 (by kernel_rfl) rfl)
    (all_stopsS _ b _ (by omega) S hS (fun k => k = w.heap.size ∨ w1.heap.size ≤ k) _ hb1 hBs' (by have := Blk.lt hb1; omega) (by omega)) keptX_t keptX_b (Below.refl _ _) (fun _ => rfl)
    (fun pre W => (∃ v, Blk W w.heap.size 31 #[v] ∧ W.ownsRow w1.heap.size 3 1 v (idsOf S (pre.map Fin.val)).length (Ints (idsOf S (pre.map Fin.val)))) ∧ Gr w1 W (fun k => k = w.heap.size))
    (fun _ _ _ => False)
    (OwnFrom.and (ownFrom_ex fun v => OwnFrom.and (ownFrom_blk _ _ _) (ownFrom_row _ _ _ _ _)) (ownFrom_gr _ (Nat.le_refl _)))
    (fun _ => ownFrom_no)
    ⟨⟨_, hr0, World.ownsRow_nil _ _ _ _⟩, Gr.refl _ _⟩
    (fun x => { tmps := #[.pointer (some ⟨b, 0, none⟩), undef, .slice none 0 0, .pointer (some ⟨w.heap.size, 0, none⟩), .int .i64 (idOf S x.1), .pointer (some ⟨b, x.1 * 9, none⟩), .pointer (some ⟨b, 0, none⟩), .bool false, .pointer (some ⟨b, 0, none⟩), .func (Fn.func 87) #[] #[.pointer (some ⟨w.heap.size + 1, 0, none⟩)], .int .i64 (idOf S x.1), .pointer (some ⟨b, x.1 * 9, none⟩), undef, undef, undef, undef, undef, undef, undef, undef, undef], defers := [] }) ?assign ?body ?done ?stop
  case assign =>
    intro l x W K hK
    gi_wp2
    exact hK
  case body =>
    rintro l pre x W ⟨⟨v, hv, hrow⟩, hW⟩ hl8
    have hBx := hW.blk hb1 (by have := Blk.lt hb1; omega)
    obtain ⟨c0, c1, c2, c3, c4, c5, c6, hc⟩ := Sl.factsS hBx x.1 x.2
    clear c0 c1 c2 c3 c4 c5 c6
    have hcv := hv.cell 0
    have hle := ids_le S (pre.map Fin.val)
    simp at hcv hle
    have hzW := hW.size
    cases hx : S.hd x.1
    · rw [hx] at hc
      have HE : Hid (idsOf S ((pre ++ [x]).map Fin.val) = idsOf S (pre.map Fin.val)) := by rw [List.map_append]; exact ids_miss _ _ _ hx
      have HV := Lib.hid hv
      clear hx hv
      gi_wp2
      exact ⟨KeepsFrom.refl _ _, KeptX.refl _ _, ⟨v, HV.out, by rw [HE.out]; exact hrow⟩, hW⟩
    · rw [hx] at hc
      have HE : Hid (idsOf S ((pre ++ [x]).map Fin.val) = idsOf S (pre.map Fin.val) ++ [idOf S x.1]) := by rw [List.map_append]; exact ids_hit _ _ _ hx
      have HV := Lib.hid hv
      clear hx hv
      gi_wp2_with (gi_at_builtin; refine wpListIn_append_own _ rfl _ _ 31 rfl w1.heap.size 3 i0 (.int .i64 0) 1 8 Tryz.underlying31 hi hz0 hz1 hz2 rfl (by decide) _ _ _ rfl (hrow.alloc _) ⟨W.heap.size, 0, none⟩ 1 1 [.int .i64 (idOf S x.1)] rfl rfl (cell_one_new _ _ _) (by simp [Value.oneCell']) (by unfold maxLen; omega) (by omega) (by simp; omega) ?_; intro v' w2 hown' hgrow _; obtain ⟨g', cap', rfl⟩ := ownsRow_succ hown'; obtain ⟨hv1, hv2, hr2, hg2, hk2⟩ := appended2 HV.out hrow hzW (by omega) hown' hgrow; have hc1 := hv1.cell 0; have hf1 := hv1.frozen 0; simp at hc1)
      refine ⟨hk2.from _, KeptX.of_gr hg2, ⟨_, hv2, ?_⟩, hW.trans hg2 (fun j hj h => by rcases h with h | h; exact h; omega)⟩
      rw [HE.out]
      simpa [Ints] using hr2
  case done =>
    rintro D ys W hD hys ⟨⟨v, hv, hrow⟩, hW⟩ hK
    have hcv := hv.cell 0
    simp at hcv
    rw [hys] at hrow
    clear hv hys
    gi_wp2
    refine ⟨by simp, .inl ⟨_, _, rfl, run_takeDeferred hK, ?_⟩⟩
    refine ⟨_, results_tmp rfl _ _ _, v, rfl, ?_, ?_⟩
    · exact own_low (ownsRow_putObj hrow _ hK rfl) (by omega)
    · exact (Gr.put (hGw.no.trans hW (fun j hj h => h)) _ (by omega)).mono (fun j hj h => by omega)
  case stop =>
    rintro D c pre W _ _ h _
    exact h.elim
end Go.Proofs
