/- Bytes. -/
import Derived.Test.YtdonlpldbdooaaaDoorD
import Derived.Deep.RegionHeld3
import Derived.Laws.BytesArg
import Derived.Laws.IdiomStrings
set_option linter.unusedVariables false
set_option linter.unusedSimpArgs false
namespace Go.Proofs
open Go.RowKit Go.Shelf
attribute [local go_sem] Oper.semAt_some

def Rg (w : World) (b : Nat) (hs : List UInt8) (sz f n : Nat) : Prop := Blk w b 67 (rc hs sz f n)
theorem info5 : (Tryd.prog.info? 5).map (fun i => (i.zero, i.size, i.bytes)) = some (some (.int .u8 0), 1, 1) := by kernel_rfl
def piece (hs : List UInt8) (f k n : Nat) (p : Nat) : List UInt8 := if p = 0 then (hs.drop f).take k else hs.take (n - k)
def pieces (hs : List UInt8) (f k n : Nat) (pre : List (Fin 2)) : List UInt8 := (pre.map fun x => piece hs f k n x.1).flatten

theorem own_gr {W W' : World} {base : Nat} {e : TypeId} {size : Nat} {v : Value} {n : Nat} {xs : List Value} {X : Nat → Prop} (h : W.ownsRow base e size v n xs) (hG : Gr W W' X) (hX : ∀ k, base ≤ k → ¬ X k) : W'.ownsRow base e size v n xs := by
  obtain ⟨h1, h2⟩ := h
  refine ⟨h1, ?_⟩
  rcases h2 with h2 | ⟨g, cap, cur, hv, hg, hb, r⟩
  · exact .inl h2
  · exact .inr ⟨g, cap, cur, hv, hg, (show Blk W' g e cur from hG.blk (show Blk W g e cur from hb) (hX g hg)), r⟩
theorem own_low {W : World} {base base' : Nat} {e : TypeId} {size : Nat} {v : Value} {n : Nat} {xs : List Value} (h : W.ownsRow base e size v n xs) (hb : base' ≤ base) : W.ownsRow base' e size v n xs := by
  obtain ⟨h1, h2⟩ := h
  refine ⟨h1, ?_⟩
  rcases h2 with h2 | ⟨g, cap, cur, hv, hg, r⟩
  · exact .inl h2
  · exact .inr ⟨g, cap, cur, hv, Nat.le_trans hb hg, r⟩

theorem own_shape {w : World} {base : Nat} {e : TypeId} {size n : Nat} {v : Value} {xs : List Value} (h : w.ownsRow base e size v n xs) : ∃ A c, v = .slice A n c := by
  rcases h.2 with ⟨rfl, rfl⟩ | ⟨g, cap, cur, rfl, _⟩
  · exact ⟨none, 0, rfl⟩
  · exact ⟨_, _, rfl⟩
theorem appended3 {W w1 : World} {n₀ B : Nat} {t e : TypeId} {size : Nat} {v v' : Value} {k m : Nat} {xs ys : List Value}
    (hv : Blk W B t #[v]) (hrow : W.ownsRow n₀ e size v k xs) (hn₀ : n₀ ≤ W.heap.size) (hB : B < n₀)
    (hown' : w1.ownsRow n₀ e size v' m ys) (hgrow : W.grownBy w1 v.ownBlock) :
    Blk w1 B t #[v] ∧ Blk (w1.setCell ⟨B, 0, none⟩ v') B t #[v'] ∧ (w1.setCell ⟨B, 0, none⟩ v').ownsRow n₀ e size v' m ys ∧ Gr W (w1.setCell ⟨B, 0, none⟩ v') (fun k => k = B ∨ n₀ ≤ k) ∧ KeepsOthers W (w1.setCell ⟨B, 0, none⟩ v') := by
  have hblk : ∀ j, v.ownBlock = some j → n₀ ≤ j ∧ ∀ o, W.heap[j]? = some o → o.isCells = true := by
    intro j ej
    rcases hrow.2 with ⟨rfl, _⟩ | ⟨g, cap, cur, rfl, hb, hgb, _⟩
    · simp [Value.ownBlock] at ej
    · obtain rfl : g = j := by simpa [Value.ownBlock] using ej
      exact ⟨hb, fun o ho => by rw [hgb] at ho; cases ho; rfl⟩
  have hv1 : Blk w1 B t #[v] := hv.grown hgrow (fun e => by have := (hblk B e.symm).1; omega)
  have hG1 : Gr W w1 (fun k => k = B ∨ n₀ ≤ k) := Gr.of_grownBy (X := fun k => k = B ∨ n₀ ≤ k) hgrow (fun j ej => .inl (.inr (hblk j ej).1))
  refine ⟨hv1, by simpa using hv1.set_ 0 v', ownsRow_setCell_below hown' (a := ⟨B, 0, none⟩) hB v', hG1.setCell (p := ⟨B, 0, none⟩) (X := fun k => k = B ∨ n₀ ≤ k) (.inl (.inl rfl)) v', ?_⟩
  exact (KeepsOthers.of_grownBy hgrow fun j o ej hj => (hblk j ej).2 o hj).trans (KeepsOthers.setCell _ _ _)

def partV (b a k n p : Nat) : Value := if p = 0 then .slice (some ⟨b, a, none⟩) k (64 - a) else .slice (some ⟨b, 0, none⟩) (n - k) 64
theorem partEnc_eq (b a k n p : Nat) : partEnc b a k n p = #[partV b a k n p] := by unfold partEnc partV; split <;> rfl
theorem rc_byte {hs : List UInt8} {sz f n : Nat} (j : Nat) (hj : j < hs.length) : (rc hs sz f n)[j]? = (Lib.byteCells hs)[j]? := by
  unfold rc; simp [List.getElem?_append_left, bc_len, hj]
theorem part_cells {hs : List UInt8} {sz f n0 : Nat} (b F kk n : Nat) (h : hs.length = 64) (h1 : F + kk ≤ 64) (h2 : n - kk ≤ 64) (p : Nat) :
    ∃ off c, partV b F kk n p = .slice (some ⟨b, off, none⟩) (piece hs F kk n p).length c ∧ ∀ (j : Nat) (u : Value), (Lib.byteCells (piece hs F kk n p))[j]? = some u → (rc hs sz f n0)[off + j]? = some u := by
  unfold partV piece
  split
  · refine ⟨F, 64 - F, by rw [List.length_take, List.length_drop, Nat.min_eq_left (by omega)], fun j u hj => ?_⟩
    have hl : j < kk := by
      have := (List.getElem?_eq_some_iff.1 hj).1
      simp [bc_len] at this; omega
    rw [rc_byte _ (by omega), ← hj]
    simp [Lib.byteCells, List.getElem?_map, List.getElem?_take_of_lt hl, List.getElem?_drop]
  · refine ⟨0, 64, by rw [List.length_take, Nat.min_eq_left (by omega)], fun j u hj => ?_⟩
    have hl : j < n - kk := by
      have := (List.getElem?_eq_some_iff.1 hj).1
      simp [bc_len] at this; omega
    rw [Nat.zero_add, rc_byte _ (by omega), ← hj]
    simp [Lib.byteCells, List.getElem?_map, List.getElem?_take_of_lt hl]
theorem pieces_snoc (hs : List UInt8) (f k n : Nat) (pre : List (Fin 2)) (x : Fin 2) : pieces hs f k n (pre ++ [x]) = pieces hs f k n pre ++ piece hs f k n x.1 := by simp [pieces]
theorem piece_le {hs : List UInt8} {f k n p : Nat} (h : hs.length = 64) : (piece hs f k n p).length ≤ 64 := by unfold piece; split <;> simp <;> omega
theorem pieces_le {hs : List UInt8} {f k n : Nat} (h : hs.length = 64) : ∀ pre : List (Fin 2), (pieces hs f k n pre).length ≤ 64 * pre.length
  | [] => by simp [pieces]
  | x :: r => by
    have := pieces_le (f := f) (k := k) (n := n) h r
    have h1 := piece_le (hs := hs) (f := f) (k := k) (n := n) (p := x.1) h
    have e : pieces hs f k n (x :: r) = piece hs f k n x.1 ++ pieces hs f k n r := by simp [pieces]
    rw [e, List.length_append, List.length_cons]; omega

theorem pieces_all {hs L : List UInt8} {sz f kk : Nat} {ys : List (Fin 2)} (hk : min L.length (sz - f) = kk) (hb : (hs.drop f).take (min L.length (sz - f)) ++ hs.take (L.length - min L.length (sz - f)) = L)
    (hy : ys.map Fin.val = if kk < L.length then [0, 1] else [0]) : pieces hs f kk L.length ys = L := by
  have e : pieces hs f kk L.length ys = ((ys.map Fin.val).map (piece hs f kk L.length)).flatten := by simp [pieces, Function.comp_def]
  rw [e, hy]
  rw [hk] at hb
  split
  · simpa [piece] using hb
  · rename_i hn
    rw [show L.length - kk = 0 by omega] at hb
    simpa [piece] using hb
theorem conv_own {W : World} {base : Nat} {v : Value} {L : List UInt8} (h : W.ownsRow base 5 1 v L.length (Lib.byteCells L)) : (convert 73 9 v).run Tryd.prog W = .ok (.string ⟨L.toArray⟩) W := by
  rcases h.2 with ⟨rfl, h0⟩ | ⟨g, cap, cur, rfl, hg, hb, h1, h2, h3, h4⟩
  · obtain rfl : L = [] := List.eq_nil_of_length_eq_zero h0
    exact run_convert_bytes_nil W 73 5 Tryd.underlying73 Tryd.underlying5 0 0 9 Tryd.underlying9
  · refine run_convert_bytes_back W 73 9 5 ⟨g, 0, none⟩ cap L Tryd.underlying73 Tryd.underlying5 Tryd.underlying9 (fun j hj => ?_)
    rw [Go.WideShapes.add_plain, Blk.cell (show Blk W g 5 cur from hb)]
    have : (Lib.byteCells L)[j]? = some (.int .u8 (L[j].toNat : Int)) := by simp [Lib.byteCells, List.getElem?_eq_getElem hj]
    rw [← h4, List.getElem?_take_of_lt (by omega)] at this
    simpa using this

theorem parts_seqV (nn b ba br bn : Nat) (hn : 1 ≤ nn) (at0 sz n : Nat) (h1 : 1 ≤ sz) (h2 : sz ≤ 64) (ha : at0 < 1000) (hns : n ≤ sz) (X : Nat → Prop) (w : World)
    (hz : Rat w b sz) (hA : Blk w ba 3 #[.int .i64 at0]) (hR : Blk w br 49 #[.pointer (some ⟨b, 0, none⟩)]) (hN : Blk w bn 3 #[.int .i64 n])
    (hb0 : b ≠ ba) (hr0 : ¬ X br) (hnn : ¬ X bn) (hra : br ≠ ba) (ha0 : ¬ X ba) (hna : bn ≠ ba) :
    SeqBox Fence.wide nn Tryd.prog 41 #[.pointer (some ⟨ba, 0, none⟩), .pointer (some ⟨br, 0, none⟩), .pointer (some ⟨bn, 0, none⟩)]
      (fun x : Fin 2 => #[partV b (at0 % sz) (min n (sz - at0 % sz)) n x.1]) Fin.val (KeptX X) (fun xs => xs.map Fin.val = (if min n (sz - at0 % sz) < n then [0, 1] else [0])) 2 ba w := by
  have := parts_seq nn b ba br bn hn at0 sz n h1 h2 ha hns X w hz hA hR hN hb0 hr0 hnn hra ha0 hna
  simpa only [partEnc_eq] using this

set_option maxRecDepth 100000 in
set_option maxHeartbeats 4000000 in
theorem bytes_any (b : Nat) {hs L : List UInt8} {sz f : Nat} (h : RInv hs sz f L) (w : World) (hb : Rg w b hs sz f L.length) :
    Calls Tryd.prog 35 #[.pointer (some ⟨b, 0, none⟩)] w fun e w' => e = .returned (.string ⟨L.toArray⟩) ∧ Same w w' := by
  have hlt := Blk.lt hb
  have c64 := (Blk.cell hb 64).trans (rc_sz h.len)
  have c65 := (Blk.cell hb 65).trans (rc_f h.len)
  have c66 := (Blk.cell hb 66).trans (rc_n h.len)
  refine (callsIn_wide (n := 9)).1 ?_
  refine callsIn_of_wp_marks Tryd.func35 rfl trivial ?_ rfl
  simp only [Tryd.ntmps35, List.size_toArray, List.length_cons, List.length_nil, Nat.reduceAdd, Nat.reduceSub, Array.replicate_succ, Array.replicate_zero, List.push_toArray, List.append_toArray, List.nil_append, List.cons_append]
  rcases (show (f = 0 ∧ L.length = 0) ∨ f ≠ 0 ∨ (f = 0 ∧ L.length ≠ 0) by omega) with ⟨h0, hl0⟩ | h0 | ⟨h0, hl0⟩
  · have hL : L = [] := List.eq_nil_of_length_eq_zero hl0
    subst h0
    rw [hl0] at c66
    gi_wp2
    gi_region
    gi_wp2
    refine ⟨_, results_tmp rfl _ _ _, ?_, ?_⟩
    · rw [hL]; rfl
    · exact (Gr.a1 _ _).drew
  · have h0' : ¬ ((f : Int) = 0) := by omega
    gi_wp2
    gi_region
    have hG2 : Same w (w.alloc (.cells #[.int .i64 0, .int .i64 0] 65)).drew := (Gr.a1 _ _).drew
    have hB2 : Rg (w.alloc (.cells #[.int .i64 0, .int .i64 0] 65)).drew b hs sz f L.length := hG2.blk hb (fun f => f)
    have hz2 := hG2.size
    generalize (w.alloc (.cells #[.int .i64 0, .int .i64 0] 65)).drew = W2 at *
    gi_wp2
    have hr3 : Blk (W2.alloc (.cells #[.slice none 0 0] 73)) W2.heap.size 73 #[.slice none 0 0] := Blk.new _ _ _ _ rfl
    have hG3 : Same w (W2.alloc (.cells #[.slice none 0 0] 73)) := hG2.alloc _
    have hB3 : Rg (W2.alloc (.cells #[.slice none 0 0] 73)) b hs sz f L.length := hB2.alloc _
    have hs3 : W2.heap.size < (W2.alloc (.cells #[.slice none 0 0] 73)).heap.size := by simp
    generalize W2.alloc (.cells #[.slice none 0 0] 73) = W3 at *
    have k65 := (Blk.cell hB3 65).trans (rc_f h.len)
    have k66 := (Blk.cell hB3 66).trans (rc_n h.len)
    clear c64 c65 c66
    refine wpIn_mono (Q := NoPanic _) ?_ NoPanic.imp
    gi_region_with (refine ⟨trivial, ?_⟩; gi_at_call 36; refine (callsIn_wide.2 (parts_any _ _ _ _)).mono ?_; rintro e w1 ⟨rfl, hG, hBr, hBa, hBn⟩)
    all_goals
      refine NoPanic.normal ?_
      have hr1 := hG.blk (show Blk W3.drew W2.heap.size 73 #[.slice none 0 0] from hr3) (fun f => f)
      have hb1 : Rg w1 b hs sz f L.length := hG.blk (show Blk W3.drew b 67 (rc hs sz f L.length) from hB3) (fun f => f)
      have hG1 : Same w w1 := (show Same w W3.drew from hG3).next hG
      have hq : W3.drew.heap.size = W3.heap.size := rfl
      rw [hq] at hBr hBa hBn
      clear hG hr3 hB3 hG3 hq k65 k66 hB2 hG2
      gi_wp2
      obtain ⟨i0, hi, hi0, hi1, hi2⟩ := info_parts info5
      have hsf : f % sz = f := Nat.mod_eq_of_lt h.hf
      have hlB := hBn.lt
      have hb2 := h.s2
      have hf2 := h.hf
      have hh := h.len
      obtain ⟨kk, hkk⟩ : ∃ kk, min L.length (sz - f % sz) = kk := ⟨_, rfl⟩
      have hbytes := h.bytes
      have hn2 := h.hn
      have hseq := parts_seqV 8 b (W3.heap.size + 1) W3.heap.size (W3.heap.size + 2) (by omega) f sz L.length h.s1 h.s2 (by omega) h.hn (fun k => k = W2.heap.size ∨ w1.heap.size ≤ k) w1 ((Blk.cell hb1 64).trans (rc_sz h.len)) hBa hBr hBn (by omega) (by omega) (by omega) (by omega) (by omega) (by omega)
      rw [hkk] at hseq
      refine rangeFunc_box rfl (by omega) (gf := 41) (lb := #[.pointer (some ⟨W3.heap.size + 1, 0, none⟩), .pointer (some ⟨W3.heap.size, 0, none⟩), .pointer (some ⟨W3.heap.size + 2, 0, none⟩)]) rfl trivial (enters_of Tryd.func41 (by kernel_rfl) rfl)
        hseq keptX_t keptX_b (Below.refl _ _) (fun _ => rfl) (by omega)
        (fun pre W => (∃ v, Blk W W2.heap.size 73 #[v] ∧ W.ownsRow w1.heap.size 5 1 v (pieces hs f kk L.length pre).length (Lib.byteCells (pieces hs f kk L.length pre))) ∧ Gr w1 W (fun k => k = W2.heap.size ∨ k = W3.heap.size + 1))
        (fun _ _ _ => False)
        (OwnFrom.and (ownFrom_ex fun v => OwnFrom.and (ownFrom_blk _ _ _) (ownFrom_row _ _ _ _ _)) (ownFrom_gr _ (Nat.le_refl _)))
        (fun _ => ownFrom_no)
        (fun W W' ⟨⟨v, hv, hrow⟩, hW⟩ hG' => ⟨⟨v, hG'.blk hv (by omega), own_gr hrow hG' (fun k hk => by omega)⟩, hW.trans hG' (fun j _ hj => .inr hj)⟩)
        (fun xs W ⟨⟨v, hv, hrow⟩, hW⟩ => ⟨⟨v, hv, hrow⟩, hW⟩)
        ⟨⟨_, hr1, World.ownsRow_nil _ _ _ _⟩, Gr.refl _ _⟩
        (fun x => { tmps := #[.pointer (some ⟨b, 0, none⟩), undef, .string ⟨#[]⟩, .pointer (some ⟨w.heap.size, 0, none⟩), .pointer (some ⟨W2.heap.size, 0, none⟩), partV b f kk L.length x.1, .agg #[.int .i64 0, .int .i64 0], .pointer (some ⟨b, 0, none⟩), .bool false, .bool false, .pointer (some ⟨b, 0, none⟩), .pointer (some ⟨b, 0, none⟩), .pointer (some ⟨b, 65, none⟩), .agg #[.int .i64 (f : Int), .int .i64 L.length], .agg #[.int .i64 0, .int .i64 0], .bool false, .bool false, .pointer (some ⟨b, 0, none⟩), .pointer (some ⟨b, 0, none⟩), .pointer (some ⟨b, 0, none⟩), .pointer (some ⟨b, 65, none⟩), .pointer (some ⟨b, 65, none⟩), .int .i64 (f : Int), .pointer (some ⟨b, 0, none⟩), .pointer (some ⟨b, 0, none⟩), .pointer (some ⟨b, 65, none⟩), .pointer (some ⟨b, 66, none⟩), .int .i64 L.length, .func (Fn.func 41) #[] #[.pointer (some ⟨W3.heap.size + 1, 0, none⟩), .pointer (some ⟨W3.heap.size, 0, none⟩), .pointer (some ⟨W3.heap.size + 2, 0, none⟩)], partV b f kk L.length x.1, undef, undef, undef, undef, undef], defers := [] }) ?assign ?body ?done ?stop
      case assign =>
        intro l x W K hK
        gi_wp2
        exact hK
      case body =>
        rintro l pre x W ⟨⟨v, hv, hrow⟩, hW⟩ hl2 _
        have hBx := hW.blk hb1 (by omega)
        have hcv := hv.cell 0
        simp at hcv
        have hzW := hW.size
        obtain ⟨po, pc, hp, hpc⟩ := part_cells (sz := sz) (f := f) (n0 := L.length) b f kk L.length hh (by omega) (by omega) x.1
        have hpcell : ∀ (j : Nat) (u : Value), (Lib.byteCells (piece hs f kk L.length x.1))[j]? = some u → W.cell? ((⟨b, po, none⟩ : Addr).add j) = some u := fun j u hj => by rw [Go.WideShapes.add_plain]; exact (Blk.cell hBx (po + j)).trans (hpc j u hj)
        have hnl : (Lib.byteCells (piece hs f kk L.length x.1)).length = (piece hs f kk L.length x.1).length := bc_len _
        have HE : Hid (pieces hs f kk L.length (pre ++ [x]) = pieces hs f kk L.length pre ++ piece hs f kk L.length x.1) := pieces_snoc _ _ _ _ _ _
        have hle1 := pieces_le (f := f) (k := kk) (n := L.length) hh pre
        have hle2 := piece_le (f := f) (k := kk) (n := L.length) (p := x.1) hh
        rw [hp]
        generalize piece hs f kk L.length x.1 = pp at *
        generalize pieces hs f kk L.length pre = qq at *
        have HV := Lib.hid hv
        clear hv hpc hp
        gi_wp2_with (gi_at_builtin; refine wpListIn_append_own _ rfl _ _ 73 rfl w1.heap.size 5 i0 (.int .u8 0) 1 1 Tryd.underlying73 hi hi0 hi1 hi2 rfl (by decide) _ _ _ rfl hrow ⟨b, po, none⟩ pp.length pc (Lib.byteCells pp) rfl (by rw [hnl]; omega) hpcell (Lib.byteCells_one _) (by unfold maxLen; omega) (by omega) (by omega) ?_; intro v' w2 hown' hgrow _; obtain ⟨Ag, cg, rfl⟩ := own_shape hown'; obtain ⟨hv1, hv2, hr2, hg2, hk2⟩ := appended3 HV.out hrow hzW (by omega) hown' hgrow; have hc1 := hv1.cell 0; have hf1 := hv1.frozen 0; simp at hc1)
        refine ⟨hk2.from _, KeptX.of_gr hg2, ⟨_, hv2, ?_⟩, hW.trans hg2 (fun j hj h => by rcases h with h | h; exact .inl h; omega)⟩
        rw [HE.out, List.length_append, show Lib.byteCells (qq ++ pp) = Lib.byteCells qq ++ Lib.byteCells pp from by simp [Lib.byteCells]]
        exact hr2
      case done =>
        rintro D ys W hD hys ⟨⟨v, hv, hrow⟩, hW⟩ hK
        have hcv := hv.cell 0
        simp at hcv
        have hall : pieces hs f kk L.length ys = L := pieces_all (by rw [hsf] at hkk; exact hkk) hbytes hys
        rw [hall] at hrow
        have hconv := conv_own hrow
        have hsz := hW.size
        have hGW : Same w W := hG1.trans hW (fun j hj h => by have := hG1.size; have := hlB; omega)
        clear hv hys hall
        gi_wp2
        refine ⟨by simp, .inl ⟨_, _, rfl, run_takeDeferred hK, ?_⟩⟩
        refine ⟨_, results_tmp rfl _ _ _, rfl, ?_⟩
        exact Gr.put hGW _ (by have := hG1.size; omega)
      case stop =>
        rintro D c pre W _ h _
        exact h.elim
  · subst h0
    have h0' : ¬ ((L.length : Int) = 0) := by omega
    gi_wp2
    gi_region
    have hG2 : Same w (w.alloc (.cells #[.int .i64 0, .int .i64 0] 65)).drew := (Gr.a1 _ _).drew
    have hB2 : Rg (w.alloc (.cells #[.int .i64 0, .int .i64 0] 65)).drew b hs sz 0 L.length := hG2.blk hb (fun f => f)
    have hz2 := hG2.size
    generalize (w.alloc (.cells #[.int .i64 0, .int .i64 0] 65)).drew = W2 at *
    gi_wp2
    have hr3 : Blk (W2.alloc (.cells #[.slice none 0 0] 73)) W2.heap.size 73 #[.slice none 0 0] := Blk.new _ _ _ _ rfl
    have hG3 : Same w (W2.alloc (.cells #[.slice none 0 0] 73)) := hG2.alloc _
    have hB3 : Rg (W2.alloc (.cells #[.slice none 0 0] 73)) b hs sz 0 L.length := hB2.alloc _
    have hs3 : W2.heap.size < (W2.alloc (.cells #[.slice none 0 0] 73)).heap.size := by simp
    generalize W2.alloc (.cells #[.slice none 0 0] 73) = W3 at *
    have k65 := (Blk.cell hB3 65).trans (rc_f h.len)
    have k66 := (Blk.cell hB3 66).trans (rc_n h.len)
    clear c64 c65 c66
    refine wpIn_mono (Q := NoPanic _) ?_ NoPanic.imp
    gi_region_with (refine ⟨trivial, ?_⟩; gi_at_call 36; refine (callsIn_wide.2 (parts_any _ _ _ _)).mono ?_; rintro e w1 ⟨rfl, hG, hBr, hBa, hBn⟩)
    all_goals
      refine NoPanic.normal ?_
      have hr1 := hG.blk (show Blk W3.drew W2.heap.size 73 #[.slice none 0 0] from hr3) (fun f => f)
      have hb1 : Rg w1 b hs sz 0 L.length := hG.blk (show Blk W3.drew b 67 (rc hs sz 0 L.length) from hB3) (fun f => f)
      have hG1 : Same w w1 := (show Same w W3.drew from hG3).next hG
      have hq : W3.drew.heap.size = W3.heap.size := rfl
      rw [hq] at hBr hBa hBn
      clear hG hr3 hB3 hG3 hq k65 k66 hB2 hG2
      gi_wp2
      obtain ⟨i0, hi, hi0, hi1, hi2⟩ := info_parts info5
      have hsf : 0 % sz = 0 := Nat.mod_eq_of_lt h.hf
      have hlB := hBn.lt
      have hb2 := h.s2
      have hf2 := h.hf
      have hh := h.len
      obtain ⟨kk, hkk⟩ : ∃ kk, min L.length (sz - 0 % sz) = kk := ⟨_, rfl⟩
      have hbytes := h.bytes
      have hn2 := h.hn
      have hseq := parts_seqV 8 b (W3.heap.size + 1) W3.heap.size (W3.heap.size + 2) (by omega) 0 sz L.length h.s1 h.s2 (by omega) h.hn (fun k => k = W2.heap.size ∨ w1.heap.size ≤ k) w1 ((Blk.cell hb1 64).trans (rc_sz h.len)) hBa hBr hBn (by omega) (by omega) (by omega) (by omega) (by omega) (by omega)
      rw [hkk] at hseq
      refine rangeFunc_box rfl (by omega) (gf := 41) (lb := #[.pointer (some ⟨W3.heap.size + 1, 0, none⟩), .pointer (some ⟨W3.heap.size, 0, none⟩), .pointer (some ⟨W3.heap.size + 2, 0, none⟩)]) rfl trivial (enters_of Tryd.func41 (by kernel_rfl) rfl)
        hseq keptX_t keptX_b (Below.refl _ _) (fun _ => rfl) (by omega)
        (fun pre W => (∃ v, Blk W W2.heap.size 73 #[v] ∧ W.ownsRow w1.heap.size 5 1 v (pieces hs 0 kk L.length pre).length (Lib.byteCells (pieces hs 0 kk L.length pre))) ∧ Gr w1 W (fun k => k = W2.heap.size ∨ k = W3.heap.size + 1))
        (fun _ _ _ => False)
        (OwnFrom.and (ownFrom_ex fun v => OwnFrom.and (ownFrom_blk _ _ _) (ownFrom_row _ _ _ _ _)) (ownFrom_gr _ (Nat.le_refl _)))
        (fun _ => ownFrom_no)
        (fun W W' ⟨⟨v, hv, hrow⟩, hW⟩ hG' => ⟨⟨v, hG'.blk hv (by omega), own_gr hrow hG' (fun k hk => by omega)⟩, hW.trans hG' (fun j _ hj => .inr hj)⟩)
        (fun xs W ⟨⟨v, hv, hrow⟩, hW⟩ => ⟨⟨v, hv, hrow⟩, hW⟩)
        ⟨⟨_, hr1, World.ownsRow_nil _ _ _ _⟩, Gr.refl _ _⟩
        (fun x => { tmps := #[.pointer (some ⟨b, 0, none⟩), undef, .string ⟨#[]⟩, .pointer (some ⟨w.heap.size, 0, none⟩), .pointer (some ⟨W2.heap.size, 0, none⟩), partV b 0 kk L.length x.1, .agg #[.int .i64 0, .int .i64 0], .pointer (some ⟨b, 0, none⟩), .bool false, .bool false, .pointer (some ⟨b, 0, none⟩), .pointer (some ⟨b, 0, none⟩), .pointer (some ⟨b, 65, none⟩), .agg #[.int .i64 0, .int .i64 L.length], .agg #[.int .i64 0, .int .i64 0], .bool false, .bool false, .pointer (some ⟨b, 0, none⟩), .pointer (some ⟨b, 0, none⟩), .pointer (some ⟨b, 0, none⟩), .pointer (some ⟨b, 65, none⟩), .pointer (some ⟨b, 65, none⟩), .int .i64 0, .pointer (some ⟨b, 0, none⟩), .pointer (some ⟨b, 0, none⟩), .pointer (some ⟨b, 65, none⟩), .pointer (some ⟨b, 66, none⟩), .int .i64 L.length, .func (Fn.func 41) #[] #[.pointer (some ⟨W3.heap.size + 1, 0, none⟩), .pointer (some ⟨W3.heap.size, 0, none⟩), .pointer (some ⟨W3.heap.size + 2, 0, none⟩)], partV b 0 kk L.length x.1, undef, undef, undef, undef, undef], defers := [] }) ?assign ?body ?done ?stop
      case assign =>
        intro l x W K hK
        gi_wp2
        exact hK
      case body =>
        rintro l pre x W ⟨⟨v, hv, hrow⟩, hW⟩ hl2 _
        have hBx := hW.blk hb1 (by omega)
        have hcv := hv.cell 0
        simp at hcv
        have hzW := hW.size
        obtain ⟨po, pc, hp, hpc⟩ := part_cells (sz := sz) (f := 0) (n0 := L.length) b 0 kk L.length hh (by omega) (by omega) x.1
        have hpcell : ∀ (j : Nat) (u : Value), (Lib.byteCells (piece hs 0 kk L.length x.1))[j]? = some u → W.cell? ((⟨b, po, none⟩ : Addr).add j) = some u := fun j u hj => by rw [Go.WideShapes.add_plain]; exact (Blk.cell hBx (po + j)).trans (hpc j u hj)
        have hnl : (Lib.byteCells (piece hs 0 kk L.length x.1)).length = (piece hs 0 kk L.length x.1).length := bc_len _
        have HE : Hid (pieces hs 0 kk L.length (pre ++ [x]) = pieces hs 0 kk L.length pre ++ piece hs 0 kk L.length x.1) := pieces_snoc _ _ _ _ _ _
        have hle1 := pieces_le (f := 0) (k := kk) (n := L.length) hh pre
        have hle2 := piece_le (f := 0) (k := kk) (n := L.length) (p := x.1) hh
        rw [hp]
        generalize piece hs 0 kk L.length x.1 = pp at *
        generalize pieces hs 0 kk L.length pre = qq at *
        have HV := Lib.hid hv
        clear hv hpc hp
        gi_wp2_with (gi_at_builtin; refine wpListIn_append_own _ rfl _ _ 73 rfl w1.heap.size 5 i0 (.int .u8 0) 1 1 Tryd.underlying73 hi hi0 hi1 hi2 rfl (by decide) _ _ _ rfl hrow ⟨b, po, none⟩ pp.length pc (Lib.byteCells pp) rfl (by rw [hnl]; omega) hpcell (Lib.byteCells_one _) (by unfold maxLen; omega) (by omega) (by omega) ?_; intro v' w2 hown' hgrow _; obtain ⟨Ag, cg, rfl⟩ := own_shape hown'; obtain ⟨hv1, hv2, hr2, hg2, hk2⟩ := appended3 HV.out hrow hzW (by omega) hown' hgrow; have hc1 := hv1.cell 0; have hf1 := hv1.frozen 0; simp at hc1)
        refine ⟨hk2.from _, KeptX.of_gr hg2, ⟨_, hv2, ?_⟩, hW.trans hg2 (fun j hj h => by rcases h with h | h; exact .inl h; omega)⟩
        rw [HE.out, List.length_append, show Lib.byteCells (qq ++ pp) = Lib.byteCells qq ++ Lib.byteCells pp from by simp [Lib.byteCells]]
        exact hr2
      case done =>
        rintro D ys W hD hys ⟨⟨v, hv, hrow⟩, hW⟩ hK
        have hcv := hv.cell 0
        simp at hcv
        have hall : pieces hs 0 kk L.length ys = L := pieces_all (by rw [hsf] at hkk; exact hkk) hbytes hys
        rw [hall] at hrow
        have hconv := conv_own hrow
        have hsz := hW.size
        have hGW : Same w W := hG1.trans hW (fun j hj h => by have := hG1.size; have := hlB; omega)
        clear hv hys hall
        gi_wp2
        refine ⟨by simp, .inl ⟨_, _, rfl, run_takeDeferred hK, ?_⟩⟩
        refine ⟨_, results_tmp rfl _ _ _, rfl, ?_⟩
        exact Gr.put hGW _ (by have := hG1.size; omega)
      case stop =>
        rintro D c pre W _ h _
        exact h.elim
end Go.Proofs
