/- Names (string): named. -/
import Derived.Test.YthijminlalddcaaGreatDoorIES
import Derived.Test.YthijminlalddcaaGreatDoorIEI
import Derived.BigRegion
import Derived.ScopeJumps
set_option linter.unusedVariables false
set_option linter.unusedSimpArgs false
namespace Go.Proofs
open Go.RowKit Go.Shelf
attribute [local go_sem] Oper.semAt_some

def NmPostS (S : St ByteArray) (key : Int) (w : World) (e : Ending) (w' : World) : Prop :=
  (nmd S key = none ∧ e = .returned (.tuple #[.int .i64 0, .agg #[.int .i64 0, .int .i64 0, .int .i64 0, .int .i64 0, .int .i64 0, .int .i64 0, .string ByteArray.empty], .bool false]) ∧ Same w w') ∨ (∃ i, nmd S key = some i ∧ e = .returned (.tuple #[.int .i64 (idOf S i), .agg #[.int .i64 (S.th i).u, .int .i64 (S.th i).g, .int .i64 (S.th i).cu, .int .i64 (S.th i).cg, .int .i64 (S.th i).m, .int .i64 (S.th i).key, .string (S.th i).v], .bool true]) ∧ Same w w')
def HitS (S : St ByteArray) (key : Int) (pre : List Nat) (x : Nat) : Prop := key ≠ 0 ∧ ∃ q, pre = q ++ [x] ∧ (∀ j ∈ q, (S.th j).key ≠ key) ∧ (S.th x).key = key
theorem res_namedS {fn : Func} (h : fn.results = #[.tmp 4, .cell 5 82, .tmp 6]) {tmps : Array Value} {w : World} {b : Nat} {x : Int} {y : Bool} {T : Th ByteArray}
    (a1 : tmps.getD 4 undef = .int .i64 x) (a2 : tmps.getD 5 undef = .pointer (some ⟨b, 0, none⟩)) (a3 : tmps.getD 6 undef = .bool y)
    (hb : Blk w b 82 #[.int .i64 T.u, .int .i64 T.g, .int .i64 T.cu, .int .i64 T.cg, .int .i64 T.m, .int .i64 T.key, .string T.v]) : (results fn tmps).run Tryz.prog w = .ok (.tuple #[.int .i64 x, .agg #[.int .i64 T.u, .int .i64 T.g, .int .i64 T.cu, .int .i64 T.cg, .int .i64 T.m, .int .i64 T.key, .string T.v], .bool y]) w := by
  have c0 := hb.cell 0
  have c1 := hb.cell 1
  have c2 := hb.cell 2
  have c3 := hb.cell 3
  have c4 := hb.cell 4
  have c5 := hb.cell 5
  have c6 := hb.cell 6
  simp at c0 c1 c2 c3 c4 c5 c6
  simp only [Array.getD_eq_getD_getElem?] at a1 a2 a3
  simp [results, h, go_sem, a1, a2, a3, c0, c1, c2, c3, c4, c5, c6]
set_option maxRecDepth 100000 in
set_option maxHeartbeats 4000000 in
theorem named_anyS {w0 w : World} {n h : Nat} {S : St ByteArray} (nx : NSS w0 w n h S) (key : Int) :
    Calls Tryz.prog 38 #[.pointer (some ⟨n, 0, none⟩), .int .i64 key] w (NmPostS S key w) := by
  have hln := nx.lt
  refine (callsIn_wide (n := 9)).1 ?_
  refine callsIn_of_wp_marks Tryz.func38 rfl trivial ?_ rfl
  simp only [Tryz.ntmps38, List.size_toArray, List.length_cons, List.length_nil, Nat.reduceAdd, Nat.reduceSub, Array.replicate_succ, Array.replicate_zero, List.push_toArray, List.append_toArray, List.nil_append, List.cons_append]
  gi_wp2
  refine wpIn_scope ?_
  gi_wp2
  first | refine wpIn_label_seq ?_ | refine wpIn_label ?_
  gi_wp2_with (refine ⟨trivial, ?_⟩; gi_at_call 66; refine (callsIn_wide.2 (nall_anyS _ _)).mono ?_; rintro e w1 ⟨rfl, hG, hBs⟩)
  have hb0 : Blk w1 (w.heap.size) 3 #[.int .i64 key] := hG.blk (((((Blk.new _ _ _ _ rfl).alloc _).alloc _).alloc _).alloc _) (fun f => f)
  have hb1 : Blk w1 (w.heap.size + 1) 82 #[.int .i64 0, .int .i64 0, .int .i64 0, .int .i64 0, .int .i64 0, .int .i64 0, .string ByteArray.empty] := hG.blk ((((Blk.new _ _ _ _ (by simp)).alloc _).alloc _).alloc _) (fun f => f)
  have hb2 : Blk w1 (w.heap.size + 1 + 1) 82 #[.int .i64 0, .int .i64 0, .int .i64 0, .int .i64 0, .int .i64 0, .int .i64 0, .string ByteArray.empty] := hG.blk (((Blk.new _ _ _ _ (by simp)).alloc _).alloc _) (fun f => f)
  have hb3 : Blk w1 (w.heap.size + 1 + 1 + 1) 3 #[.int .i64 0] := hG.blk ((Blk.new _ _ _ _ (by simp)).alloc _) (fun f => f)
  have hb4 : Blk w1 (w.heap.size + 1 + 1 + 1 + 1) 4 #[.bool false] := hG.blk (Blk.new _ _ _ _ (by simp)) (fun f => f)
  have hGw : Same w w1 := (((Gr.a3 _ _ _ _).alloc _).alloc _).next hG
  have nx1 := nx.same hGw
  have hsz := hGw.size
  have hBs' : Blk w1 (w.heap.size + 1 + 1 + 1 + 1 + 1) 50 #[.pointer (some ⟨n, 0, none⟩)] := by simpa using hBs
  have hl5 := hBs'.lt
  clear hBs
  refine wpIn_rangeFunc_ownH rfl (by omega) (gf := 84) (lb := #[.pointer (some ⟨w.heap.size + 1 + 1 + 1 + 1 + 1, 0, none⟩)]) rfl trivial (enters_of Tryz.func84 (by kernel_rfl) rfl)
    (nall_stopsS _ (w.heap.size + 1 + 1 + 1 + 1 + 1) n h (by omega) S nx.ok (fun _ => False) _ (fun _ f => f.elim) nx1.nb nx1.sl hBs' (fun f => f) (fun f => f) (fun f => f)) keptX_t keptX_b (Below.refl _ _) (fun _ => rfl)
    (fun pre W => (key ≠ 0 → ∀ j ∈ pre, (S.th j).key ≠ key) ∧ Same w1 W)
    (fun c pre W => c = .exit 0 ∧ (∃ x, HitS S key pre x ∧ Blk W (w.heap.size + 1 + 1) 82 #[.int .i64 (S.th x).u, .int .i64 (S.th x).g, .int .i64 (S.th x).cu, .int .i64 (S.th x).cg, .int .i64 (S.th x).m, .int .i64 (S.th x).key, .string (S.th x).v] ∧ Blk W (w.heap.size + 1 + 1 + 1) 3 #[.int .i64 (idOf S x)]) ∧ Blk W (w.heap.size + 1 + 1 + 1 + 1) 4 #[.bool true] ∧ Gr w1 W (fun k => w.heap.size + 1 < k))
    (OwnFrom.and (ownFrom_pure _ _) (ownFrom_gr _ (Nat.le_refl _)))
    (fun c => OwnFrom.and (ownFrom_pure _ _) (OwnFrom.and (ownFrom_ex fun x => OwnFrom.and (ownFrom_pure _ _) (OwnFrom.and (ownFrom_blk _ _ _) (ownFrom_blk _ _ _))) (OwnFrom.and (ownFrom_blk _ _ _) (ownFrom_gr _ (Nat.le_refl _)))))
    ⟨fun _ => by simp, Gr.refl _ _⟩
    (fun x a' W => ∃ gg, w1.heap.size ≤ gg ∧ Blk W gg 82 #[.int .i64 (S.th x).u, .int .i64 (S.th x).g, .int .i64 (S.th x).cu, .int .i64 (S.th x).cg, .int .i64 (S.th x).m, .int .i64 (S.th x).key, .string (S.th x).v] ∧ a' = { tmps := #[.pointer (some ⟨n, 0, none⟩), .int .i64 key, undef, .pointer (some ⟨w.heap.size, 0, none⟩), .int .i64 0, .pointer (some ⟨w.heap.size + 1, 0, none⟩), .bool false, .pointer (some ⟨w.heap.size + 1 + 1, 0, none⟩), .pointer (some ⟨w.heap.size + 1 + 1 + 1, 0, none⟩), .pointer (some ⟨w.heap.size + 1 + 1 + 1 + 1, 0, none⟩), .int .i64 (idOf S x), .pointer (some ⟨gg, 0, none⟩), .pointer (some ⟨n, 0, none⟩), .func (Fn.func 84) #[] #[.pointer (some ⟨w.heap.size + 1 + 1 + 1 + 1 + 1, 0, none⟩)], .int .i64 (idOf S x), .agg #[.int .i64 (S.th x).u, .int .i64 (S.th x).g, .int .i64 (S.th x).cu, .int .i64 (S.th x).cg, .int .i64 (S.th x).m, .int .i64 (S.th x).key, .string (S.th x).v], undef, undef, undef, undef, undef, undef, undef, undef, undef, undef, undef, undef, undef], defers := [] })
    (fun x a' => ownFrom_ex fun gg => OwnFrom.and (ownFrom_pure _ _) (OwnFrom.and (ownFrom_blk (fun _ => gg) _ _) (ownFrom_pure _ _)))
    ?assign ?body ?done ?stop
  case assign =>
    rintro l pre x W K ⟨hp, hW⟩ hK
    have HP := Lib.hid hp
    clear hp
    gi_wp2
    exact hK _ _ ((KeepsOthers.alloc _ _).from _) (KeptX.of_gr (Gr.a1 _ _)) ⟨HP.out, hW.alloc _⟩ ⟨W.heap.size, hW.size, Blk.new _ _ _ _ rfl, rfl⟩
  case body =>
    rintro l pre x a' W hl ⟨r, hr⟩ ⟨hp, hW⟩ ⟨gg, hgg, hbx, rfl⟩ hl8
    have HP := Lib.hid hp
    clear hp
    have k0 := (hW.blk hb0 (fun f => f)).cell 0
    have x5 := hbx.cell 5
    simp at k0 x5
    by_cases hk : key = 0
    · have hk' : (key != 0) = false := by simp [hk]
      have HK := Lib.hid hk
      clear hk
      gi_wp2
      exact ⟨KeepsFrom.refl _ _, KeptX.refl _ _, fun hne => absurd HK.out hne, hW⟩
    · have hk' : (key != 0) = true := by simp [hk]
      by_cases hx : (S.th x).key = key
      · have hx' : ((S.th x).key == key) = true := by simp [hx]
        have HK := Lib.hid hk
        have HX := Lib.hid hx
        have x0 := hbx.cell 0
        have x1 := hbx.cell 1
        have x2 := hbx.cell 2
        have x3 := hbx.cell 3
        have x4 := hbx.cell 4
        have x6 := hbx.cell 6
        have hw2 := hW.blk hb2 (fun f => f)
        have hw3 := hW.blk hb3 (fun f => f)
        have hw4 := hW.blk hb4 (fun f => f)
        have f2 := fun o => hw2.frozen o
        have f3 := hw3.frozen 0
        have f4 := hw4.frozen 0
        have d0 := hw2.cell 0
        have d1 := hw2.cell 1
        have d2 := hw2.cell 2
        have d3 := hw2.cell 3
        have d4 := hw2.cell 4
        have d5 := hw2.cell 5
        have d6 := hw2.cell 6
        have d7 := hw3.cell 0
        have d8 := hw4.cell 0
        simp at x0 x1 x2 x3 x4 x6 d0 d1 d2 d3 d4 d5 d6 d7 d8
        have HW2 := Lib.hid hw2
        have HW3 := Lib.hid hw3
        have HW4 := Lib.hid hw4
        obtain ⟨T, hT⟩ : ∃ T, S.th x = T := ⟨_, rfl⟩
        obtain ⟨id, hid⟩ : ∃ id, idOf S x = id := ⟨_, rfl⟩
        rw [hT] at x0 x1 x2 x3 x4 x5 x6 hx' ⊢
        rw [hid]
        have HT := Lib.hid hT
        have HI := Lib.hid hid
        clear hk hx hT hid hw2 hw3 hw4 hbx
        gi_wp2
        gi_region
        all_goals
          gi_wp2
          refine ⟨((KeepsOthers.trans (KeepsOthers.trans (KeepsOthers.trans (KeepsOthers.trans (KeepsOthers.trans (KeepsOthers.trans (KeepsOthers.trans (KeepsOthers.trans (KeepsOthers.setCell _ _ _) (KeepsOthers.setCell _ _ _)) (KeepsOthers.setCell _ _ _)) (KeepsOthers.setCell _ _ _)) (KeepsOthers.setCell _ _ _)) (KeepsOthers.setCell _ _ _)) (KeepsOthers.setCell _ _ _)) (KeepsOthers.setCell _ _ _)) (KeepsOthers.setCell _ _ _)).trans (KeepsOthers.drew _)).from _, rfl, ⟨x, ⟨HK.out, pre, rfl, HP.out HK.out, HX.out⟩, ?_, ?_⟩, ?_, ?_⟩
          · refine Blk.drew ?_
            rw [HT.out]
            have hh := (Blk.far (Blk.set_ (Blk.set_ (Blk.set_ (Blk.set_ (Blk.set_ (Blk.set_ (Blk.set_ (Blk.far HW2.out (p := ⟨w.heap.size + 1 + 1 + 1, 0, none⟩) (by dsimp only; omega) (.int .i64 id)) (0) (.int .i64 T.u)) (1) (.int .i64 T.g)) (2) (.int .i64 T.cu)) (3) (.int .i64 T.cg)) (4) (.int .i64 T.m)) (5) (.int .i64 T.key)) (6) (.string T.v)) (p := ⟨w.heap.size + 1 + 1 + 1 + 1, 0, none⟩) (by dsimp only; omega) (.bool true))
            simpa using hh
          · refine Blk.drew ?_
            rw [HI.out]
            have hh := (Blk.far (Blk.far (Blk.far (Blk.far (Blk.far (Blk.far (Blk.far (Blk.far (Blk.set_ HW3.out (0) (.int .i64 id)) (p := ⟨w.heap.size + 1 + 1, 0, none⟩) (by dsimp only; omega) (.int .i64 T.u)) (p := ⟨w.heap.size + 1 + 1, 1, none⟩) (by dsimp only; omega) (.int .i64 T.g)) (p := ⟨w.heap.size + 1 + 1, 2, none⟩) (by dsimp only; omega) (.int .i64 T.cu)) (p := ⟨w.heap.size + 1 + 1, 3, none⟩) (by dsimp only; omega) (.int .i64 T.cg)) (p := ⟨w.heap.size + 1 + 1, 4, none⟩) (by dsimp only; omega) (.int .i64 T.m)) (p := ⟨w.heap.size + 1 + 1, 5, none⟩) (by dsimp only; omega) (.int .i64 T.key)) (p := ⟨w.heap.size + 1 + 1, 6, none⟩) (by dsimp only; omega) (.string T.v)) (p := ⟨w.heap.size + 1 + 1 + 1 + 1, 0, none⟩) (by dsimp only; omega) (.bool true))
            simpa using hh
          · refine Blk.drew ?_
            have hh := (Blk.set_ (Blk.far (Blk.far (Blk.far (Blk.far (Blk.far (Blk.far (Blk.far (Blk.far HW4.out (p := ⟨w.heap.size + 1 + 1 + 1, 0, none⟩) (by dsimp only; omega) (.int .i64 id)) (p := ⟨w.heap.size + 1 + 1, 0, none⟩) (by dsimp only; omega) (.int .i64 T.u)) (p := ⟨w.heap.size + 1 + 1, 1, none⟩) (by dsimp only; omega) (.int .i64 T.g)) (p := ⟨w.heap.size + 1 + 1, 2, none⟩) (by dsimp only; omega) (.int .i64 T.cu)) (p := ⟨w.heap.size + 1 + 1, 3, none⟩) (by dsimp only; omega) (.int .i64 T.cg)) (p := ⟨w.heap.size + 1 + 1, 4, none⟩) (by dsimp only; omega) (.int .i64 T.m)) (p := ⟨w.heap.size + 1 + 1, 5, none⟩) (by dsimp only; omega) (.int .i64 T.key)) (p := ⟨w.heap.size + 1 + 1, 6, none⟩) (by dsimp only; omega) (.string T.v)) (0) (.bool true))
            simpa using hh
          · exact Gr.drew (Gr.setCell (Gr.setCell (Gr.setCell (Gr.setCell (Gr.setCell (Gr.setCell (Gr.setCell (Gr.setCell (Gr.setCell (hW.mono (fun _ _ f => f.elim)) (p := ⟨w.heap.size + 1 + 1 + 1, 0, none⟩) (X := fun k => w.heap.size + 1 < k) (.inl (by dsimp only; omega)) _) (p := ⟨w.heap.size + 1 + 1, 0, none⟩) (X := fun k => w.heap.size + 1 < k) (.inl (by dsimp only; omega)) _) (p := ⟨w.heap.size + 1 + 1, 1, none⟩) (X := fun k => w.heap.size + 1 < k) (.inl (by dsimp only; omega)) _) (p := ⟨w.heap.size + 1 + 1, 2, none⟩) (X := fun k => w.heap.size + 1 < k) (.inl (by dsimp only; omega)) _) (p := ⟨w.heap.size + 1 + 1, 3, none⟩) (X := fun k => w.heap.size + 1 < k) (.inl (by dsimp only; omega)) _) (p := ⟨w.heap.size + 1 + 1, 4, none⟩) (X := fun k => w.heap.size + 1 < k) (.inl (by dsimp only; omega)) _) (p := ⟨w.heap.size + 1 + 1, 5, none⟩) (X := fun k => w.heap.size + 1 < k) (.inl (by dsimp only; omega)) _) (p := ⟨w.heap.size + 1 + 1, 6, none⟩) (X := fun k => w.heap.size + 1 < k) (.inl (by dsimp only; omega)) _) (p := ⟨w.heap.size + 1 + 1 + 1 + 1, 0, none⟩) (X := fun k => w.heap.size + 1 < k) (.inl (by dsimp only; omega)) _)
      · have hx' : ((S.th x).key == key) = false := by simp [hx]
        have HX := Lib.hid hx
        clear hk hx
        gi_wp2
        refine ⟨KeepsFrom.refl _ _, KeptX.refl _ _, fun hne j hj => ?_, hW⟩
        rcases List.mem_append.1 hj with hj | hj
        · exact HP.out hne j hj
        · rw [List.mem_singleton.1 hj]; exact HX.out
  case done =>
    rintro D ys W hD rfl ⟨hp, hW⟩ hK
    have HN := Lib.hid (find_miss hp)
    clear hp
    have hw1 := hW.blk hb1 (fun f => f)
    have hw2 := hW.blk hb2 (fun f => f)
    have f1 := fun o => hw1.frozen o
    have e0 := hw1.cell 0
    have e1 := hw1.cell 1
    have e2 := hw1.cell 2
    have e3 := hw1.cell 3
    have e4 := hw1.cell 4
    have e5 := hw1.cell 5
    have e6 := hw1.cell 6
    have d0 := hw2.cell 0
    have d1 := hw2.cell 1
    have d2 := hw2.cell 2
    have d3 := hw2.cell 3
    have d4 := hw2.cell 4
    have d5 := hw2.cell 5
    have d6 := hw2.cell 6
    have d7 := (hW.blk hb3 (fun f => f)).cell 0
    have d8 := (hW.blk hb4 (fun f => f)).cell 0
    simp at e0 e1 e2 e3 e4 e5 e6 d0 d1 d2 d3 d4 d5 d6 d7 d8
    have HW1 := Lib.hid hw1
    clear hw1 hw2
    gi_wp2
    gi_region
    all_goals
      have hB : Blk (((((((W.setCell ⟨w.heap.size + 1, 0, none⟩ (.int .i64 0)).setCell ⟨w.heap.size + 1, 1, none⟩ (.int .i64 0)).setCell ⟨w.heap.size + 1, 2, none⟩ (.int .i64 0)).setCell ⟨w.heap.size + 1, 3, none⟩ (.int .i64 0)).setCell ⟨w.heap.size + 1, 4, none⟩ (.int .i64 0)).setCell ⟨w.heap.size + 1, 5, none⟩ (.int .i64 0)).setCell ⟨w.heap.size + 1, 6, none⟩ (.string ByteArray.empty)).drew (w.heap.size + 1) 82 #[.int .i64 0, .int .i64 0, .int .i64 0, .int .i64 0, .int .i64 0, .int .i64 0, .string ByteArray.empty] := by
        refine Blk.drew ?_
        have hh := (Blk.set_ (Blk.set_ (Blk.set_ (Blk.set_ (Blk.set_ (Blk.set_ (Blk.set_ HW1.out (0) (.int .i64 0)) (1) (.int .i64 0)) (2) (.int .i64 0)) (3) (.int .i64 0)) (4) (.int .i64 0)) (5) (.int .i64 0)) (6) (.string ByteArray.empty))
        simpa using hh
      have hK' : ((((((((W.setCell ⟨w.heap.size + 1, 0, none⟩ (.int .i64 0)).setCell ⟨w.heap.size + 1, 1, none⟩ (.int .i64 0)).setCell ⟨w.heap.size + 1, 2, none⟩ (.int .i64 0)).setCell ⟨w.heap.size + 1, 3, none⟩ (.int .i64 0)).setCell ⟨w.heap.size + 1, 4, none⟩ (.int .i64 0)).setCell ⟨w.heap.size + 1, 5, none⟩ (.int .i64 0)).setCell ⟨w.heap.size + 1, 6, none⟩ (.string ByteArray.empty)).drew).heap[D]? = some (.deferred (some [])) := ((KeepsOthers.trans (KeepsOthers.trans (KeepsOthers.trans (KeepsOthers.trans (KeepsOthers.trans (KeepsOthers.trans (KeepsOthers.setCell _ _ _) (KeepsOthers.setCell _ _ _)) (KeepsOthers.setCell _ _ _)) (KeepsOthers.setCell _ _ _)) (KeepsOthers.setCell _ _ _)) (KeepsOthers.setCell _ _ _)) (KeepsOthers.setCell _ _ _)).trans (KeepsOthers.drew _)).same D _ hK rfl
      have hGz : Same w (((((((W.setCell ⟨w.heap.size + 1, 0, none⟩ (.int .i64 0)).setCell ⟨w.heap.size + 1, 1, none⟩ (.int .i64 0)).setCell ⟨w.heap.size + 1, 2, none⟩ (.int .i64 0)).setCell ⟨w.heap.size + 1, 3, none⟩ (.int .i64 0)).setCell ⟨w.heap.size + 1, 4, none⟩ (.int .i64 0)).setCell ⟨w.heap.size + 1, 5, none⟩ (.int .i64 0)).setCell ⟨w.heap.size + 1, 6, none⟩ (.string ByteArray.empty)).drew := by
        have hWz := hGw.next hW
        refine Gr.drew ?_
        repeat (first | (with_reducible exact hWz) | (with_reducible refine Gr.setCell ?_ (.inr (by dsimp only; omega)) _))
      gi_wp2
      rw [Exit.noGoto_ret]
      refine ⟨by simp, .inl ⟨_, _, rfl, run_takeDeferred hK', ?_⟩⟩
      refine ⟨_, res_namedS (T := zthS) rfl rfl rfl rfl (hB.put _ hK' rfl), .inl ⟨HN.out, rfl, ?_⟩⟩
      exact Gr.put hGz _ (by omega)
  case stop =>
    rintro D c pre W hD ⟨i, hi, hpi⟩ ⟨rfl, ⟨x, hx, hB2, hB3⟩, hB4, hW⟩ hK
    obtain ⟨hk, q, hq, hqn, hxk⟩ := hx
    have HN := Lib.hid (find_hit hk (hpi ▸ hq) hqn hxk)
    clear hk hq hqn hxk hpi hi
    have hw1 := hW.blk hb1 (by omega)
    have f1 := fun o => hw1.frozen o
    obtain ⟨T, hT⟩ : ∃ T, S.th x = T := ⟨_, rfl⟩
    obtain ⟨id, hid⟩ : ∃ id, idOf S x = id := ⟨_, rfl⟩
    rw [hT] at hB2
    rw [hid] at hB3
    have HT := Lib.hid hT
    have HI := Lib.hid hid
    have e0 := hw1.cell 0
    have e1 := hw1.cell 1
    have e2 := hw1.cell 2
    have e3 := hw1.cell 3
    have e4 := hw1.cell 4
    have e5 := hw1.cell 5
    have e6 := hw1.cell 6
    have d0 := hB2.cell 0
    have d1 := hB2.cell 1
    have d2 := hB2.cell 2
    have d3 := hB2.cell 3
    have d4 := hB2.cell 4
    have d5 := hB2.cell 5
    have d6 := hB2.cell 6
    have d7 := hB3.cell 0
    have d8 := hB4.cell 0
    simp at e0 e1 e2 e3 e4 e5 e6 d0 d1 d2 d3 d4 d5 d6 d7 d8
    have HW1 := Lib.hid hw1
    clear hw1 hB2 hB3 hB4 hT hid
    gi_wp2
    gi_region
    all_goals
      have hB : Blk (((((((W.setCell ⟨w.heap.size + 1, 0, none⟩ (.int .i64 T.u)).setCell ⟨w.heap.size + 1, 1, none⟩ (.int .i64 T.g)).setCell ⟨w.heap.size + 1, 2, none⟩ (.int .i64 T.cu)).setCell ⟨w.heap.size + 1, 3, none⟩ (.int .i64 T.cg)).setCell ⟨w.heap.size + 1, 4, none⟩ (.int .i64 T.m)).setCell ⟨w.heap.size + 1, 5, none⟩ (.int .i64 T.key)).setCell ⟨w.heap.size + 1, 6, none⟩ (.string T.v)).drew (w.heap.size + 1) 82 #[.int .i64 T.u, .int .i64 T.g, .int .i64 T.cu, .int .i64 T.cg, .int .i64 T.m, .int .i64 T.key, .string T.v] := by
        refine Blk.drew ?_
        have hh := (Blk.set_ (Blk.set_ (Blk.set_ (Blk.set_ (Blk.set_ (Blk.set_ (Blk.set_ HW1.out (0) (.int .i64 T.u)) (1) (.int .i64 T.g)) (2) (.int .i64 T.cu)) (3) (.int .i64 T.cg)) (4) (.int .i64 T.m)) (5) (.int .i64 T.key)) (6) (.string T.v))
        simpa using hh
      have hK' : ((((((((W.setCell ⟨w.heap.size + 1, 0, none⟩ (.int .i64 T.u)).setCell ⟨w.heap.size + 1, 1, none⟩ (.int .i64 T.g)).setCell ⟨w.heap.size + 1, 2, none⟩ (.int .i64 T.cu)).setCell ⟨w.heap.size + 1, 3, none⟩ (.int .i64 T.cg)).setCell ⟨w.heap.size + 1, 4, none⟩ (.int .i64 T.m)).setCell ⟨w.heap.size + 1, 5, none⟩ (.int .i64 T.key)).setCell ⟨w.heap.size + 1, 6, none⟩ (.string T.v)).drew).heap[D]? = some (.deferred (some [])) := ((KeepsOthers.trans (KeepsOthers.trans (KeepsOthers.trans (KeepsOthers.trans (KeepsOthers.trans (KeepsOthers.trans (KeepsOthers.setCell _ _ _) (KeepsOthers.setCell _ _ _)) (KeepsOthers.setCell _ _ _)) (KeepsOthers.setCell _ _ _)) (KeepsOthers.setCell _ _ _)) (KeepsOthers.setCell _ _ _)) (KeepsOthers.setCell _ _ _)).trans (KeepsOthers.drew _)).same D _ hK rfl
      have hGz : Same w (((((((W.setCell ⟨w.heap.size + 1, 0, none⟩ (.int .i64 T.u)).setCell ⟨w.heap.size + 1, 1, none⟩ (.int .i64 T.g)).setCell ⟨w.heap.size + 1, 2, none⟩ (.int .i64 T.cu)).setCell ⟨w.heap.size + 1, 3, none⟩ (.int .i64 T.cg)).setCell ⟨w.heap.size + 1, 4, none⟩ (.int .i64 T.m)).setCell ⟨w.heap.size + 1, 5, none⟩ (.int .i64 T.key)).setCell ⟨w.heap.size + 1, 6, none⟩ (.string T.v)).drew := by
        have hWz : Same w W := hGw.trans hW (fun j hj h => by omega)
        refine Gr.drew ?_
        repeat (first | (with_reducible exact hWz) | (with_reducible refine Gr.setCell ?_ (.inr (by dsimp only; omega)) _))
      gi_wp2
      rw [Exit.noGoto_ret]
      refine ⟨by simp, .inl ⟨_, _, rfl, run_takeDeferred hK', ?_⟩⟩
      refine ⟨_, res_namedS (T := T) rfl rfl rfl rfl (hB.put _ hK' rfl), .inr ⟨x, HN.out, by rw [HT.out, HI.out], ?_⟩⟩
      exact Gr.put hGz _ (by omega)
end Go.Proofs
