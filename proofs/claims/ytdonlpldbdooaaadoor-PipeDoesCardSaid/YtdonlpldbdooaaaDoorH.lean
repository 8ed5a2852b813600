/- Put. -/
import Derived.Test.YtdonlpldbdooaaaDoorG
set_option linter.unusedVariables false
set_option linter.unusedSimpArgs false
namespace Go.Proofs
open Go.RowKit Go.Shelf
attribute [local go_sem] Oper.semAt_some

/-- 'copy(dst, s)', s a string: as many bytes as both have go over. -/
theorem run_copy_str {P : Program} (w : World) (dT sT ty elem : TypeId) (g o dLen dCap n : Nat) (s : ByteArray) (cur : Array Value) (t : TypeId)
    (hu : P.underlying dT = some (.slice elem)) (hs : (P.info? elem).map (·.size) = some 1) (hg : w.heap[g]? = some (.cells cur t (0, 0))) (hn : Nat.min s.size dLen = n) (hfit : o + n ≤ cur.size) :
    (Builtin.copy_ #[dT, sT] ty #[.slice (some ⟨g, o, none⟩) dLen dCap, .string s]).run P w =
      .ok (goInt n) (w.setRow g (cur.toList.take o ++ Lib.byteCells (s.data.toList.take n) ++ cur.toList.drop (o + n)).toArray) := by
  have hle : n ≤ s.size := by rw [← hn]; exact Nat.min_le_left _ _
  have hlen : (Lib.byteCells (s.data.toList.take n)).length = n := by rw [Lib.byteCells_length, List.length_take, ← Lib.size_eq]; omega
  have hst := run_storeCells_at P g o t (Lib.byteCells (s.data.toList.take n)) 0 cur w hg (by rw [hlen]; simpa using hfit) (Lib.byteCells_one _)
  have htk : List.take n (List.map (fun b : UInt8 => Value.int IntKind.u8 (b.toNat : Int)) s.data.toList) = Lib.byteCells (s.data.toList.take n) := by
    rw [← List.map_take]; rfl
  rw [hlen] at hst
  simp only [Nat.add_zero] at hst
  cases hq : P.info? elem with
  | none => simp [hq] at hs
  | some i =>
    simp [Builtin.copy_, run_underlying hu, Builtin.lenOf, Builtin.firstCells, sizeOf, typeInfo, hq, hn]
    rw [htk, hst]
    simp [Result.andThen]

def restL (Ls : List UInt8) (k : Nat) : Nat → List UInt8 | 0 => Ls | _ => Ls.drop k
def heldL (hh : List UInt8) (a k : Nat) (Ls : List UInt8) : Nat → List UInt8 | 0 => hh | _ => lay hh a (Ls.take k)
theorem Blk.setRow {w : World} {g : Nat} {t : TypeId} {cs : Array Value} (h : Blk w g t cs) (ds : Array Value) : Blk (w.setRow g ds) g t ds := setRow_heap w g cs ds t (0, 0) h
theorem Blk.setRow_far {w : World} {g b : Nat} {t : TypeId} {cs : Array Value} (h : Blk w g t cs) (ds : Array Value) (hne : g ≠ b) : Blk (w.setRow b ds) g t cs := (setRow_other w b g ds hne).trans h
theorem Gr.setRow {a w : World} {X : Nat → Prop} (h : Gr a w X) (b : Nat) (ds : Array Value) (hb : X b) : Gr a (w.setRow b ds) X :=
  ⟨h.1, h.2.1, h.2.2.1, by rw [setRow_size]; exact h.size, fun i hi hx => (setRow_other w b i ds (fun e => hx (e ▸ hb))).trans (h.2.2.2.2 i hi hx)⟩
theorem KeepsFrom.setRow_blk {w : World} {g B : Nat} {t : TypeId} {cs : Array Value} (h : Blk w g t cs) (ds : Array Value) : KeepsFrom B w (w.setRow g ds) :=
  ⟨by simp, fun k o hB hk ho => (setRow_other w g k ds (fun e => by subst e; rw [show w.heap[k]? = _ from h] at hk; cases hk; cases ho)).trans hk⟩
theorem rc_lay {hs xs : List UInt8} {sz f n o : Nat} (h : o + xs.length ≤ hs.length) : ((rc hs sz f n).toList.take o ++ Lib.byteCells xs ++ (rc hs sz f n).toList.drop (o + xs.length)).toArray = rc (lay hs o xs) sz f n := by
  unfold rc lay
  congr 1
  simp only [Lib.byteCells, List.map_append, List.map_take, List.map_drop]
  rw [List.take_append_of_le_length (by simp; omega), List.drop_append_of_le_length (by simp; omega)]
  simp
theorem lay_nil (hs : List UInt8) (o : Nat) : lay hs o [] = hs := by unfold lay; simp
theorem partV_0 (b a k n : Nat) : partV b a k n 0 = .slice (some ⟨b, a, none⟩) k (64 - a) := rfl
theorem partV_1 (b a k n : Nat) : partV b a k n 1 = .slice (some ⟨b, 0, none⟩) (n - k) 64 := rfl
theorem info5s : (Tryd.prog.info? 5).map (·.size) = some 1 := by kernel_rfl
theorem put_turn {W w2 : World} {q b ba : Nat} {R' E : ByteArray} {cs0 : Array Value} (cs : Array Value) (hB : Blk W b 67 cs0) (hv : Blk W q 9 #[.string R']) (hne : q ≠ b) (hW : Gr w2 W (fun k => k = q ∨ k = b ∨ k = ba)) (B : Nat) :
    KeepsFrom B W ((W.drew.setRow b cs).setCell ⟨q, 0, none⟩ (.string E)) ∧ KeptX (fun k => k = q ∨ k = b ∨ B ≤ k) W ((W.drew.setRow b cs).setCell ⟨q, 0, none⟩ (.string E)) ∧
    Blk ((W.drew.setRow b cs).setCell ⟨q, 0, none⟩ (.string E)) q 9 #[.string E] ∧ Blk ((W.drew.setRow b cs).setCell ⟨q, 0, none⟩ (.string E)) b 67 cs ∧
    Gr w2 ((W.drew.setRow b cs).setCell ⟨q, 0, none⟩ (.string E)) (fun k => k = q ∨ k = b ∨ k = ba) := by
  have hv1 : Blk (W.drew.setRow b cs) q 9 #[.string R'] := Blk.setRow_far (show Blk W.drew q 9 #[.string R'] from hv) cs hne
  have hB1 : Blk (W.drew.setRow b cs) b 67 cs := Blk.setRow (show Blk W.drew b 67 cs0 from hB) cs
  have K1 : KeepsFrom B W (W.drew.setRow b cs) := by
    have K0 : KeepsFrom B W.drew (W.drew.setRow b cs) := KeepsFrom.setRow_blk (show Blk W.drew b 67 cs0 from hB) cs
    exact ⟨K0.1, K0.2⟩
  refine ⟨K1.trans ((KeepsOthers.setCell _ _ _).from _), KeptX.of_gr ?_, by simpa using hv1.set_ 0 (.string E), hB1.far (p := ⟨q, 0, none⟩) (fun e => hne e.symm) _, ?_⟩
  · exact (((Gr.refl W (fun k => k = q ∨ k = b ∨ B ≤ k)).drew).setRow b cs (.inr (.inl rfl))).setCell (p := ⟨q, 0, none⟩) (X := fun k => k = q ∨ k = b ∨ B ≤ k) (.inl (.inl rfl)) _
  · exact ((hW.drew).setRow b cs (.inr (.inl rfl))).setCell (p := ⟨q, 0, none⟩) (X := fun k => k = q ∨ k = b ∨ k = ba) (.inl (.inl rfl)) _
theorem empty_yes {E : ByteArray} (h : E.data.toList = []) : E.toList.isEmpty = true := by
  rw [Lib.toList_data, h]; rfl
theorem empty_no {E : ByteArray} (h : E.data.toList ≠ []) : E.toList.isEmpty = false := by
  cases he : E.toList with
  | nil => exact absurd (by rw [← Lib.toList_data]; exact he) h
  | cons x l => rfl
theorem rc_len {hs : List UInt8} {sz f n : Nat} : (rc hs sz f n).size = hs.length + 3 := by unfold rc; simp [bc_len]
theorem put_nil (s : ByteArray) (w : World) : Calls Tryd.prog 28 #[.pointer none, .string s] w fun e w' => e = .returned (.tuple #[.int .i64 0, .int .i64 1]) ∧ w = w' := by
  refine (callsIn_wide (n := 9)).1 ?_
  refine callsIn_of_wp_marks Tryd.func28 rfl trivial ?_ rfl
  simp only [Tryd.ntmps28, List.size_toArray, List.length_cons, List.length_nil, Nat.reduceAdd, Nat.reduceSub, Array.replicate_succ, Array.replicate_zero, List.push_toArray, List.append_toArray, List.nil_append, List.cons_append]
  gi_wp2
  refine wpIn_scope ?_
  gi_wp2
  rw [Exit.noGoto_ret]
  exact ⟨_, results_tmp2 rfl _ _ _, rfl, rfl⟩

set_option maxRecDepth 100000 in
set_option maxHeartbeats 8000000 in
theorem put_any (b : Nat) {sz : Nat} {L : List UInt8} (s : ByteArray) (hs : s.size ≤ maxLen) (w : World) (h : Ring w b sz L) :
    Calls Tryd.prog 28 #[.pointer (some ⟨b, 0, none⟩), .string s] w fun e w' => e = .returned (.tuple #[.int .i64 ((min s.size (sz - L.length) : Nat) : Int), .int .i64 0]) ∧
      Ring w' b sz (L ++ s.data.toList.take (min s.size (sz - L.length))) ∧ Gr w w' (fun k => k = b) := by
  obtain ⟨hle, hs1, hs2⟩ := h.le
  unfold maxLen at hs
  obtain ⟨n, hmin⟩ : ∃ n, min s.size (sz - L.length) = n := ⟨_, rfl⟩
  rw [hmin]
  obtain ⟨Ls, hLs⟩ : ∃ Ls, s.data.toList.take n = Ls := ⟨_, rfl⟩
  rw [hLs]
  have hns : n ≤ s.size := by omega
  have hnr : n ≤ sz - L.length := by omega
  have hLn : Ls.length = n := by rw [← hLs, List.length_take, ← Lib.size_eq]; omega
  have HM := Lib.hid hmin
  have HL := Lib.hid hLs
  have HLn := Lib.hid hLn
  clear hmin hLs hLn
  refine (callsIn_wide (n := 9)).1 ?_
  refine callsIn_of_wp_marks Tryd.func28 rfl trivial ?_ rfl
  simp only [Tryd.ntmps28, List.size_toArray, List.length_cons, List.length_nil, Nat.reduceAdd, Nat.reduceSub, Array.replicate_succ, Array.replicate_zero, List.push_toArray, List.append_toArray, List.nil_append, List.cons_append]
  rcases (show ((sz - L.length : Nat) : Int) < s.size ∨ (s.size : Int) ≤ ((sz - L.length : Nat) : Int) by omega) with hc | hc
  · gi_wp2
    refine wpIn_scope ?_
    gi_wp2_with (refine ⟨trivial, ?_⟩; gi_at_call 32; refine (callsIn_wide.2 (room_any _ _ h)).mono ?_; rintro e w1 ⟨rfl, hG⟩)
    first | refine wpIn_label_seq ?_ | refine wpIn_label ?_
    obtain ⟨R, hR⟩ : ∃ R, s.extract 0 (sz - L.length) = R := ⟨_, rfl⟩
    rw [hR]
    have hn : sz - L.length = n := by have := HM.out; omega
    rw [hn]
    have hRL : R.data.toList = Ls := by rw [← hR, Lib.extract_data, ← HL.out, hn]; simp
    have HR := Lib.hid hRL
    clear hR hn hRL
    have hr0 : Blk (w1.alloc (.cells #[.string R] 9)) w1.heap.size 9 #[.string R] := Blk.new _ _ _ _ rfl
    have hG1 : Same w (w1.alloc (.cells #[.string R] 9)) := hG.alloc _
    have hz1 : w1.heap.size < (w1.alloc (.cells #[.string R] 9)).heap.size := by simp
    have hzw := hG.size
    clear hG
    generalize w1.alloc (.cells #[.string R] 9) = W1 at *
    obtain ⟨hh, f, h1, hb0⟩ := id h
    have hb1 : Rg W1 b hh sz f L.length := hG1.blk hb0 (fun f => f)
    have hbw := Blk.lt hb0
    generalize w1.heap.size = q at *
    have k65 := (Blk.cell hb1 65).trans (rc_f h1.len)
    have k66 := (Blk.cell hb1 66).trans (rc_n h1.len)
    have hf := h1.hf
    have hhl := h1.len
    have HH := Lib.hid hhl
    clear hhl
    gi_wp2
    refine wpIn_mono (Q := NoPanic _) ?_ NoPanic.imp
    gi_region_with (refine ⟨trivial, ?_⟩; gi_at_call 36; refine (callsIn_wide.2 (parts_any _ _ _ _)).mono ?_; rintro e w2 ⟨rfl, hG, hBr, hBa, hBn⟩)
    all_goals
      refine NoPanic.normal ?_
      have hr2 := hG.blk (show Blk W1.drew q 9 #[.string R] from hr0) (fun f => f)
      have hb2 : Rg w2 b hh sz f L.length := hG.blk (show Blk W1.drew b 67 (rc hh sz f L.length) from hb1) (fun f => f)
      have hG2 : Same w w2 := (show Same w W1.drew from hG1).next hG
      have hq : W1.drew.heap.size = W1.heap.size := rfl
      rw [hq] at hBr hBa hBn
      clear hG hr0 hb1 hq k65 k66
      rw [show IntKind.i64.wrap ((f : Int) + L.length) = ((f + L.length : Nat) : Int) from by rw [IntKind.wrap_i64]; omega] at hBa
      gi_wp2
      have hlB := hBn.lt
      obtain ⟨a, ha⟩ : ∃ a, (f + L.length) % sz = a := ⟨_, rfl⟩
      have hasz : a < sz := by rw [← ha]; exact Nat.mod_lt _ (by omega)
      obtain ⟨kk, hkk⟩ : ∃ kk, min n (sz - a) = kk := ⟨_, rfl⟩
      have hseq := parts_seqV 8 b (W1.heap.size + 1) W1.heap.size (W1.heap.size + 2) (by omega) (f + L.length) sz n h1.s1 h1.s2 (by omega) (by omega) (fun k => k = q ∨ k = b ∨ w2.heap.size ≤ k) w2 ((Blk.cell hb2 64).trans (rc_sz h1.len)) hBa hBr hBn (by omega) (by omega) (by omega) (by omega) (by omega) (by omega)
      rw [ha, hkk] at hseq
      have hput := h1.put Ls (by have := HLn.out; omega)
      rw [ha, HLn.out, hkk] at hput
      have hkn : kk ≤ n := by omega
      have hka : a + kk ≤ sz := by omega
      have hkb : n - kk ≤ 64 := by omega
      have hks : kk < n → n - kk ≤ a := by omega
      have HA := Lib.hid ha
      have HK := Lib.hid hkk
      clear ha hkk
      refine rangeFunc_box rfl (by omega) (gf := 41) (lb := #[.pointer (some ⟨W1.heap.size + 1, 0, none⟩), .pointer (some ⟨W1.heap.size, 0, none⟩), .pointer (some ⟨W1.heap.size + 2, 0, none⟩)]) rfl trivial (enters_of Tryd.func41 (by kernel_rfl) rfl)
        hseq keptX_t keptX_b (Below.refl _ _) (fun _ => rfl) (by omega)
        (fun pre W => (pre.length = 0 ∨ pre.length = 1 ∧ kk < n) ∧ (∃ R' : ByteArray, R'.data.toList = restL Ls kk pre.length ∧ Blk W q 9 #[.string R']) ∧ Rg W b (heldL hh a kk Ls pre.length) sz f L.length ∧ Gr w2 W (fun k => k = q ∨ k = b ∨ k = W1.heap.size + 1))
        (fun c pre W => c = .exit 0 ∧ (∃ R' : ByteArray, Blk W q 9 #[.string R']) ∧ Rg W b (lay (lay hh a (Ls.take kk)) 0 (Ls.drop kk)) sz f L.length ∧ Gr w2 W (fun k => k = q ∨ k = b ∨ k = W1.heap.size + 1))
        (OwnFrom.and (ownFrom_pure _ _) (OwnFrom.and (ownFrom_ex fun _ => OwnFrom.and (ownFrom_pure _ _) (ownFrom_blk _ _ _)) (OwnFrom.and (ownFrom_blk _ _ _) (ownFrom_gr _ (Nat.le_refl _)))))
        (fun c => OwnFrom.and (ownFrom_pure _ _) (OwnFrom.and (ownFrom_ex fun _ => ownFrom_blk _ _ _) (OwnFrom.and (ownFrom_blk _ _ _) (ownFrom_gr _ (Nat.le_refl _)))))
        (fun W W' ⟨hp, ⟨R', hR', hv⟩, hB, hW⟩ hG' => ⟨hp, ⟨R', hR', hG'.blk hv (by omega)⟩, Gr.blk hG' hB (by omega), hW.trans hG' (fun j _ hj => .inr (.inr hj))⟩)
        (fun xs W ⟨hp, hv, hB, hW⟩ => ⟨hp, hv, hB, hW⟩)
        ⟨.inl rfl, ⟨R, HR.out, hr2⟩, hb2, Gr.refl _ _⟩
        ?_ ?assign ?body ?done ?stop
      case assign =>
        intro l x W K hK
        gi_wp2
        exact hK
      case body =>
        rintro l pre x W ⟨hp, ⟨R', hR', hv⟩, hB, hW⟩ hl2 hx
        rcases hp with hp | ⟨hp, hkn'⟩
        · rw [hp] at hx hR' hB
          have hR0 : R'.data.toList = Ls := hR'
          have hB0 : Rg W b hh sz f L.length := hB
          clear hR' hB
          simp only [hx, partV_0]
          have hRs : R'.size = n := by rw [Lib.size_eq, hR0, HLn.out]
          have hkl : (R'.data.toList.take kk).length = kk := by rw [List.length_take, ← Lib.size_eq, hRs]; omega
          have hlay := rc_lay (hs := hh) (sz := sz) (f := f) (n := L.length) (o := a) (xs := R'.data.toList.take kk) (by rw [hkl, HH.out]; omega)
          rw [hkl] at hlay
          have hcp := run_copy_str (P := Tryd.prog) W.drew 73 9 3 5 b a kk (64 - a) kk R' _ 67 Tryd.underlying73 info5s (show W.drew.heap[b]? = _ from hB0) (by rw [hRs]; exact Nat.min_eq_right hkn) (by rw [rc_len, HH.out]; omega)
          rw [hlay] at hcp
          obtain ⟨cs, hcs⟩ : ∃ cs, rc (lay hh a (R'.data.toList.take kk)) sz f L.length = cs := ⟨_, rfl⟩
          rw [hcs] at hcp
          have hcs' : cs = rc (lay hh a (Ls.take kk)) sz f L.length := by rw [← hcs, hR0]
          have HCS := Lib.hid hcs'
          obtain ⟨E, hE⟩ : ∃ E, R'.extract kk n = E := ⟨_, rfl⟩
          have hEL : E.data.toList = Ls.drop kk := by rw [← hE, Lib.extract_data, hR0, List.take_of_length_le (by rw [← hR0, List.length_drop, ← Lib.size_eq, hRs]; omega)]
          have k0 := hv.cell 0
          have kd := (show Blk (W.drew.setRow b cs) q 9 #[.string R'] from Blk.setRow_far (show Blk W.drew q 9 #[.string R'] from hv) cs (by omega)).cell 0
          have zd := (show Blk (W.drew.setRow b cs) q 9 #[.string R'] from Blk.setRow_far (show Blk W.drew q 9 #[.string R'] from hv) cs (by omega)).frozen 0
          simp at k0 kd
          have HRR := Lib.hid hR0
          have HRS := Lib.hid hRs
          clear hR0 hkl hlay hcs hcs'
          obtain ⟨t1, t2, t3, t4, t5⟩ := put_turn (E := E) cs hB0 hv (show q ≠ b by omega) hW w2.heap.size
          rcases (show kk < n ∨ kk = n by omega) with hkn' | hkn'
          · have hemp : E.toList.isEmpty = false := empty_no (by rw [hEL]; intro h0; have := congrArg List.length h0; rw [List.length_drop, HLn.out] at this; simp at this; omega)
            have HEL := Lib.hid hEL
            clear hEL
            gi_wp2
            gi_region
            all_goals
              gi_wp2
              exact ⟨t1, t2, by rw [List.length_append, hp]; exact .inr ⟨rfl, hkn'⟩, ⟨E, by rw [List.length_append, hp]; exact HEL.out, t3⟩, by rw [List.length_append, hp]; exact HCS.out ▸ t4, t5⟩
          · have hemp : E.toList.isEmpty = true := empty_yes (by rw [hEL, List.drop_eq_nil_of_le (by rw [HLn.out]; omega)])
            have hnil : Ls.drop kk = [] := List.drop_eq_nil_of_le (by rw [HLn.out]; omega)
            have HN := Lib.hid hnil
            clear hEL hnil hkn'
            gi_wp2
            gi_region
            all_goals
              gi_wp2
              refine ⟨t1, rfl, ⟨E, t3⟩, ?_, t5⟩
              rw [HN.out, lay_nil]
              exact HCS.out ▸ t4
        · rw [hp] at hx hR' hB
          have hR0 : R'.data.toList = Ls.drop kk := hR'
          have hB0 : Rg W b (lay hh a (Ls.take kk)) sz f L.length := hB
          clear hR' hB
          simp only [hx, partV_1]
          obtain ⟨m, hm⟩ : ∃ m, n - kk = m := ⟨_, rfl⟩
          rw [hm]
          have hRs : R'.size = m := by rw [Lib.size_eq, hR0, List.length_drop, HLn.out, hm]
          have hll : (lay hh a (Ls.take kk)).length = 64 := by rw [lay_len (by rw [List.length_take, HLn.out, HH.out]; omega), HH.out]
          have HLL := Lib.hid hll
          have hm64 : m ≤ 64 := by omega
          clear hm hll
          have hkl : (R'.data.toList.take m).length = m := by rw [List.length_take, ← Lib.size_eq, hRs]; omega
          have hlay := rc_lay (hs := (lay hh a (Ls.take kk))) (sz := sz) (f := f) (n := L.length) (o := 0) (xs := R'.data.toList.take m) (by rw [hkl, HLL.out]; omega)
          rw [hkl] at hlay
          have hcp := run_copy_str (P := Tryd.prog) W.drew 73 9 3 5 b 0 m 64 m R' _ 67 Tryd.underlying73 info5s (show W.drew.heap[b]? = _ from hB0) (by rw [hRs]; exact Nat.min_self _) (by rw [rc_len, HLL.out]; omega)
          rw [hlay] at hcp
          obtain ⟨cs, hcs⟩ : ∃ cs, rc (lay (lay hh a (Ls.take kk)) 0 (R'.data.toList.take m)) sz f L.length = cs := ⟨_, rfl⟩
          rw [hcs] at hcp
          have hcs' : cs = rc (lay (lay hh a (Ls.take kk)) 0 ((Ls.drop kk).take m)) sz f L.length := by rw [← hcs, hR0]
          have HCS := Lib.hid hcs'
          have k0 := hv.cell 0
          have kd := (show Blk (W.drew.setRow b cs) q 9 #[.string R'] from Blk.setRow_far (show Blk W.drew q 9 #[.string R'] from hv) cs (by omega)).cell 0
          have zd := (show Blk (W.drew.setRow b cs) q 9 #[.string R'] from Blk.setRow_far (show Blk W.drew q 9 #[.string R'] from hv) cs (by omega)).frozen 0
          simp at k0 kd
          have HRR := Lib.hid hR0
          have HRS := Lib.hid hRs
          clear hR0 hkl hlay hcs hcs'
          obtain ⟨t1, t2, t3, t4, t5⟩ := put_turn (E := ByteArray.empty) cs hB0 hv (show q ≠ b by omega) hW w2.heap.size
          have htk : (Ls.drop kk).take m = Ls.drop kk := List.take_of_length_le (by rw [← HRR.out, ← Lib.size_eq, HRS.out]; omega)
          have HTK := Lib.hid htk
          clear htk
          gi_wp2
          gi_region
          all_goals
            gi_wp2
            refine ⟨t1, rfl, ⟨_, t3⟩, ?_, t5⟩
            have := HCS.out
            rw [HTK.out] at this
            show Blk _ b 67 (rc _ _ _ _)
            rw [← this]
            exact t4
      case done =>
        rintro D ys W hD hys ⟨hp, _, _, _⟩ _
        exfalso
        have hyl : ys.length = if kk < n then 2 else 1 := by rw [← List.length_map (f := Fin.val), hys]; split <;> rfl
        rcases hp with hp | ⟨hp, h2⟩
        · rw [hyl] at hp; split at hp <;> omega
        · rw [hyl, if_pos h2] at hp; omega
      case stop =>
        rintro D c pre W hD ⟨rfl, ⟨R', hv⟩, hB, hW⟩ hK
        have k66 := (Blk.cell hB 66).trans (rc_n hput.len)
        have z66 := Blk.frozen hB 66
        have hpl := hput.len
        have HPL := Lib.hid hpl
        clear hpl
        gi_wp2
        rw [Exit.noGoto_ret]
        refine ⟨by simp, .inl ⟨_, _, rfl, run_takeDeferred ((Below.heap_setCell W ⟨b, 66, none⟩ _ D (by dsimp only; omega)).trans hK), ?_⟩⟩
        refine ⟨_, results_tmp2 rfl _ _ _, rfl, ⟨_, f, hput, ?_⟩, ?_⟩
        · have := ((Blk.set_ hB 66 (.int .i64 ((L ++ Ls).length : Nat))).put (.deferred none) ((Below.heap_setCell W ⟨b, 66, none⟩ _ D (by dsimp only; omega)).trans hK) rfl)
          rw [rc_set66 HPL.out] at this
          rw [show ((L.length : Int) + n) = ((L ++ Ls).length : Nat) from by rw [List.length_append, HLn.out]; rfl]
          exact this
        · refine Gr.put (Gr.set1 ?_ _ _) _ (by omega)
          exact hG2.no.trans hW (fun j hj h => by omega)
  · gi_wp2
    refine wpIn_scope ?_
    gi_wp2_with (refine ⟨trivial, ?_⟩; gi_at_call 32; refine (callsIn_wide.2 (room_any _ _ h)).mono ?_; rintro e w1 ⟨rfl, hG⟩)
    first | refine wpIn_label_seq ?_ | refine wpIn_label ?_
    have hn : s.size = n := by have := HM.out; omega
    have hRL : s.data.toList = Ls := by rw [← HL.out, List.take_of_length_le (by rw [← Lib.size_eq]; omega)]
    have HR := Lib.hid hRL
    rw [hn]
    clear hn HL HM hRL
    obtain ⟨R, rfl⟩ : ∃ R : ByteArray, R = s := ⟨_, rfl⟩
    have hr0 : Blk (w1.alloc (.cells #[.string R] 9)) w1.heap.size 9 #[.string R] := Blk.new _ _ _ _ rfl
    have hG1 : Same w (w1.alloc (.cells #[.string R] 9)) := hG.alloc _
    have hz1 : w1.heap.size < (w1.alloc (.cells #[.string R] 9)).heap.size := by simp
    have hzw := hG.size
    clear hG
    generalize w1.alloc (.cells #[.string R] 9) = W1 at *
    obtain ⟨hh, f, h1, hb0⟩ := id h
    have hb1 : Rg W1 b hh sz f L.length := hG1.blk hb0 (fun f => f)
    have hbw := Blk.lt hb0
    generalize w1.heap.size = q at *
    have k65 := (Blk.cell hb1 65).trans (rc_f h1.len)
    have k66 := (Blk.cell hb1 66).trans (rc_n h1.len)
    have hf := h1.hf
    have hhl := h1.len
    have HH := Lib.hid hhl
    clear hhl
    gi_wp2
    refine wpIn_mono (Q := NoPanic _) ?_ NoPanic.imp
    gi_region_with (refine ⟨trivial, ?_⟩; gi_at_call 36; refine (callsIn_wide.2 (parts_any _ _ _ _)).mono ?_; rintro e w2 ⟨rfl, hG, hBr, hBa, hBn⟩)
    all_goals
      refine NoPanic.normal ?_
      have hr2 := hG.blk (show Blk W1.drew q 9 #[.string R] from hr0) (fun f => f)
      have hb2 : Rg w2 b hh sz f L.length := hG.blk (show Blk W1.drew b 67 (rc hh sz f L.length) from hb1) (fun f => f)
      have hG2 : Same w w2 := (show Same w W1.drew from hG1).next hG
      have hq : W1.drew.heap.size = W1.heap.size := rfl
      rw [hq] at hBr hBa hBn
      clear hG hr0 hb1 hq k65 k66
      rw [show IntKind.i64.wrap ((f : Int) + L.length) = ((f + L.length : Nat) : Int) from by rw [IntKind.wrap_i64]; omega] at hBa
      gi_wp2
      have hlB := hBn.lt
      obtain ⟨a, ha⟩ : ∃ a, (f + L.length) % sz = a := ⟨_, rfl⟩
      have hasz : a < sz := by rw [← ha]; exact Nat.mod_lt _ (by omega)
      obtain ⟨kk, hkk⟩ : ∃ kk, min n (sz - a) = kk := ⟨_, rfl⟩
      have hseq := parts_seqV 8 b (W1.heap.size + 1) W1.heap.size (W1.heap.size + 2) (by omega) (f + L.length) sz n h1.s1 h1.s2 (by omega) (by omega) (fun k => k = q ∨ k = b ∨ w2.heap.size ≤ k) w2 ((Blk.cell hb2 64).trans (rc_sz h1.len)) hBa hBr hBn (by omega) (by omega) (by omega) (by omega) (by omega) (by omega)
      rw [ha, hkk] at hseq
      have hput := h1.put Ls (by have := HLn.out; omega)
      rw [ha, HLn.out, hkk] at hput
      have hkn : kk ≤ n := by omega
      have hka : a + kk ≤ sz := by omega
      have hkb : n - kk ≤ 64 := by omega
      have hks : kk < n → n - kk ≤ a := by omega
      have HA := Lib.hid ha
      have HK := Lib.hid hkk
      clear ha hkk
      refine rangeFunc_box rfl (by omega) (gf := 41) (lb := #[.pointer (some ⟨W1.heap.size + 1, 0, none⟩), .pointer (some ⟨W1.heap.size, 0, none⟩), .pointer (some ⟨W1.heap.size + 2, 0, none⟩)]) rfl trivial (enters_of Tryd.func41 (by kernel_rfl) rfl)
        hseq keptX_t keptX_b (Below.refl _ _) (fun _ => rfl) (by omega)
        (fun pre W => (pre.length = 0 ∨ pre.length = 1 ∧ kk < n) ∧ (∃ R' : ByteArray, R'.data.toList = restL Ls kk pre.length ∧ Blk W q 9 #[.string R']) ∧ Rg W b (heldL hh a kk Ls pre.length) sz f L.length ∧ Gr w2 W (fun k => k = q ∨ k = b ∨ k = W1.heap.size + 1))
        (fun c pre W => c = .exit 0 ∧ (∃ R' : ByteArray, Blk W q 9 #[.string R']) ∧ Rg W b (lay (lay hh a (Ls.take kk)) 0 (Ls.drop kk)) sz f L.length ∧ Gr w2 W (fun k => k = q ∨ k = b ∨ k = W1.heap.size + 1))
        (OwnFrom.and (ownFrom_pure _ _) (OwnFrom.and (ownFrom_ex fun _ => OwnFrom.and (ownFrom_pure _ _) (ownFrom_blk _ _ _)) (OwnFrom.and (ownFrom_blk _ _ _) (ownFrom_gr _ (Nat.le_refl _)))))
        (fun c => OwnFrom.and (ownFrom_pure _ _) (OwnFrom.and (ownFrom_ex fun _ => ownFrom_blk _ _ _) (OwnFrom.and (ownFrom_blk _ _ _) (ownFrom_gr _ (Nat.le_refl _)))))
        (fun W W' ⟨hp, ⟨R', hR', hv⟩, hB, hW⟩ hG' => ⟨hp, ⟨R', hR', hG'.blk hv (by omega)⟩, Gr.blk hG' hB (by omega), hW.trans hG' (fun j _ hj => .inr (.inr hj))⟩)
        (fun xs W ⟨hp, hv, hB, hW⟩ => ⟨hp, hv, hB, hW⟩)
        ⟨.inl rfl, ⟨R, HR.out, hr2⟩, hb2, Gr.refl _ _⟩
        ?_ ?assign ?body ?done ?stop
      case assign =>
        intro l x W K hK
        gi_wp2
        exact hK
      case body =>
        rintro l pre x W ⟨hp, ⟨R', hR', hv⟩, hB, hW⟩ hl2 hx
        rcases hp with hp | ⟨hp, hkn'⟩
        · rw [hp] at hx hR' hB
          have hR0 : R'.data.toList = Ls := hR'
          have hB0 : Rg W b hh sz f L.length := hB
          clear hR' hB
          simp only [hx, partV_0]
          have hRs : R'.size = n := by rw [Lib.size_eq, hR0, HLn.out]
          have hkl : (R'.data.toList.take kk).length = kk := by rw [List.length_take, ← Lib.size_eq, hRs]; omega
          have hlay := rc_lay (hs := hh) (sz := sz) (f := f) (n := L.length) (o := a) (xs := R'.data.toList.take kk) (by rw [hkl, HH.out]; omega)
          rw [hkl] at hlay
          have hcp := run_copy_str (P := Tryd.prog) W.drew 73 9 3 5 b a kk (64 - a) kk R' _ 67 Tryd.underlying73 info5s (show W.drew.heap[b]? = _ from hB0) (by rw [hRs]; exact Nat.min_eq_right hkn) (by rw [rc_len, HH.out]; omega)
          rw [hlay] at hcp
          obtain ⟨cs, hcs⟩ : ∃ cs, rc (lay hh a (R'.data.toList.take kk)) sz f L.length = cs := ⟨_, rfl⟩
          rw [hcs] at hcp
          have hcs' : cs = rc (lay hh a (Ls.take kk)) sz f L.length := by rw [← hcs, hR0]
          have HCS := Lib.hid hcs'
          obtain ⟨E, hE⟩ : ∃ E, R'.extract kk n = E := ⟨_, rfl⟩
          have hEL : E.data.toList = Ls.drop kk := by rw [← hE, Lib.extract_data, hR0, List.take_of_length_le (by rw [← hR0, List.length_drop, ← Lib.size_eq, hRs]; omega)]
          have k0 := hv.cell 0
          have kd := (show Blk (W.drew.setRow b cs) q 9 #[.string R'] from Blk.setRow_far (show Blk W.drew q 9 #[.string R'] from hv) cs (by omega)).cell 0
          have zd := (show Blk (W.drew.setRow b cs) q 9 #[.string R'] from Blk.setRow_far (show Blk W.drew q 9 #[.string R'] from hv) cs (by omega)).frozen 0
          simp at k0 kd
          have HRR := Lib.hid hR0
          have HRS := Lib.hid hRs
          clear hR0 hkl hlay hcs hcs'
          obtain ⟨t1, t2, t3, t4, t5⟩ := put_turn (E := E) cs hB0 hv (show q ≠ b by omega) hW w2.heap.size
          rcases (show kk < n ∨ kk = n by omega) with hkn' | hkn'
          · have hemp : E.toList.isEmpty = false := empty_no (by rw [hEL]; intro h0; have := congrArg List.length h0; rw [List.length_drop, HLn.out] at this; simp at this; omega)
            have HEL := Lib.hid hEL
            clear hEL
            gi_wp2
            gi_region
            all_goals
              gi_wp2
              exact ⟨t1, t2, by rw [List.length_append, hp]; exact .inr ⟨rfl, hkn'⟩, ⟨E, by rw [List.length_append, hp]; exact HEL.out, t3⟩, by rw [List.length_append, hp]; exact HCS.out ▸ t4, t5⟩
          · have hemp : E.toList.isEmpty = true := empty_yes (by rw [hEL, List.drop_eq_nil_of_le (by rw [HLn.out]; omega)])
            have hnil : Ls.drop kk = [] := List.drop_eq_nil_of_le (by rw [HLn.out]; omega)
            have HN := Lib.hid hnil
            clear hEL hnil hkn'
            gi_wp2
            gi_region
            all_goals
              gi_wp2
              refine ⟨t1, rfl, ⟨E, t3⟩, ?_, t5⟩
              rw [HN.out, lay_nil]
              exact HCS.out ▸ t4
        · rw [hp] at hx hR' hB
          have hR0 : R'.data.toList = Ls.drop kk := hR'
          have hB0 : Rg W b (lay hh a (Ls.take kk)) sz f L.length := hB
          clear hR' hB
          simp only [hx, partV_1]
          obtain ⟨m, hm⟩ : ∃ m, n - kk = m := ⟨_, rfl⟩
          rw [hm]
          have hRs : R'.size = m := by rw [Lib.size_eq, hR0, List.length_drop, HLn.out, hm]
          have hll : (lay hh a (Ls.take kk)).length = 64 := by rw [lay_len (by rw [List.length_take, HLn.out, HH.out]; omega), HH.out]
          have HLL := Lib.hid hll
          have hm64 : m ≤ 64 := by omega
          clear hm hll
          have hkl : (R'.data.toList.take m).length = m := by rw [List.length_take, ← Lib.size_eq, hRs]; omega
          have hlay := rc_lay (hs := (lay hh a (Ls.take kk))) (sz := sz) (f := f) (n := L.length) (o := 0) (xs := R'.data.toList.take m) (by rw [hkl, HLL.out]; omega)
          rw [hkl] at hlay
          have hcp := run_copy_str (P := Tryd.prog) W.drew 73 9 3 5 b 0 m 64 m R' _ 67 Tryd.underlying73 info5s (show W.drew.heap[b]? = _ from hB0) (by rw [hRs]; exact Nat.min_self _) (by rw [rc_len, HLL.out]; omega)
          rw [hlay] at hcp
          obtain ⟨cs, hcs⟩ : ∃ cs, rc (lay (lay hh a (Ls.take kk)) 0 (R'.data.toList.take m)) sz f L.length = cs := ⟨_, rfl⟩
          rw [hcs] at hcp
          have hcs' : cs = rc (lay (lay hh a (Ls.take kk)) 0 ((Ls.drop kk).take m)) sz f L.length := by rw [← hcs, hR0]
          have HCS := Lib.hid hcs'
          have k0 := hv.cell 0
          have kd := (show Blk (W.drew.setRow b cs) q 9 #[.string R'] from Blk.setRow_far (show Blk W.drew q 9 #[.string R'] from hv) cs (by omega)).cell 0
          have zd := (show Blk (W.drew.setRow b cs) q 9 #[.string R'] from Blk.setRow_far (show Blk W.drew q 9 #[.string R'] from hv) cs (by omega)).frozen 0
          simp at k0 kd
          have HRR := Lib.hid hR0
          have HRS := Lib.hid hRs
          clear hR0 hkl hlay hcs hcs'
          obtain ⟨t1, t2, t3, t4, t5⟩ := put_turn (E := ByteArray.empty) cs hB0 hv (show q ≠ b by omega) hW w2.heap.size
          have htk : (Ls.drop kk).take m = Ls.drop kk := List.take_of_length_le (by rw [← HRR.out, ← Lib.size_eq, HRS.out]; omega)
          have HTK := Lib.hid htk
          clear htk
          gi_wp2
          gi_region
          all_goals
            gi_wp2
            refine ⟨t1, rfl, ⟨_, t3⟩, ?_, t5⟩
            have := HCS.out
            rw [HTK.out] at this
            show Blk _ b 67 (rc _ _ _ _)
            rw [← this]
            exact t4
      case done =>
        rintro D ys W hD hys ⟨hp, _, _, _⟩ _
        exfalso
        have hyl : ys.length = if kk < n then 2 else 1 := by rw [← List.length_map (f := Fin.val), hys]; split <;> rfl
        rcases hp with hp | ⟨hp, h2⟩
        · rw [hyl] at hp; split at hp <;> omega
        · rw [hyl, if_pos h2] at hp; omega
      case stop =>
        rintro D c pre W hD ⟨rfl, ⟨R', hv⟩, hB, hW⟩ hK
        have k66 := (Blk.cell hB 66).trans (rc_n hput.len)
        have z66 := Blk.frozen hB 66
        have hpl := hput.len
        have HPL := Lib.hid hpl
        clear hpl
        gi_wp2
        rw [Exit.noGoto_ret]
        refine ⟨by simp, .inl ⟨_, _, rfl, run_takeDeferred ((Below.heap_setCell W ⟨b, 66, none⟩ _ D (by dsimp only; omega)).trans hK), ?_⟩⟩
        refine ⟨_, results_tmp2 rfl _ _ _, rfl, ⟨_, f, hput, ?_⟩, ?_⟩
        · have := ((Blk.set_ hB 66 (.int .i64 ((L ++ Ls).length : Nat))).put (.deferred none) ((Below.heap_setCell W ⟨b, 66, none⟩ _ D (by dsimp only; omega)).trans hK) rfl)
          rw [rc_set66 HPL.out] at this
          rw [show ((L.length : Int) + n) = ((L ++ Ls).length : Nat) from by rw [List.length_append, HLn.out]; rfl]
          exact this
        · refine Gr.put (Gr.set1 ?_ _ _) _ (by omega)
          exact hG2.no.trans hW (fun j hj h => by omega)
end Go.Proofs
