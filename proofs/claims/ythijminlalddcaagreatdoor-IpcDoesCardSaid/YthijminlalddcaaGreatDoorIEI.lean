/- Names (int): the iterator over things; named. -/
import Derived.Test.YthijminlalddcaaGreatDoorICI
import Derived.Test.YthijminlalddcaaGreatDoorSF
import Derived.RegionTactic
set_option linter.unusedVariables false
set_option linter.unusedSimpArgs false
namespace Go.Proofs
open Go.RowKit Go.Shelf
attribute [local go_sem] Oper.semAt_some

def nmd {α : Type} (S : St α) (key : Int) : Option Nat := if key = 0 then none else (hl S).find? fun i => (S.th i).key == key
theorem find_hit {α : Type} {S : St α} {key : Int} (hk : key ≠ 0) {q : List Nat} {x i : Nat} (hp : (hl S).take (i + 1) = q ++ [x]) (hq : ∀ j ∈ q, (S.th j).key ≠ key) (hx : (S.th x).key = key) : nmd S key = some x := by
  unfold nmd
  rw [if_neg hk, ← List.take_append_drop (i + 1) (hl S), hp, List.find?_append, List.find?_append]
  have h1 : q.find? (fun i => (S.th i).key == key) = none := by
    rw [List.find?_eq_none]
    intro j hj
    simpa using hq j hj
  rw [h1]
  simp [hx]
theorem find_miss {α : Type} {S : St α} {key : Int} (h : key ≠ 0 → ∀ j ∈ hl S, (S.th j).key ≠ key) : nmd S key = none := by
  unfold nmd
  split
  · rfl
  · rename_i hk
    rw [List.find?_eq_none]
    intro j hj
    simpa using h hk j hj
theorem nmd_mem {α : Type} {S : St α} {key : Int} {x : Nat} (h : nmd S key = some x) : x < 8 ∧ S.hd x = true ∧ (S.th x).key = key ∧ key ≠ 0 := by
  unfold nmd at h
  split at h
  · cases h
  · rename_i hk
    have h1 := List.mem_of_find?_eq_some h
    have h2 := List.find?_some h
    obtain ⟨a, b⟩ := hl_mem h1
    exact ⟨a, b, by simpa using h2, hk⟩

theorem sids_atI (h : Nat) (S : St Int) (hS : S.ok) (len : Nat) (hl : S.ids.length = len) (w : World) (hb : Sl encI 103 w h S) :
    Calls Tryz.prog 29 #[.pointer (some ⟨h, 0, none⟩)] w fun e w' => ∃ A c, e = .returned (.slice A len c) ∧ RdB w' w.heap.size A S.ids ∧ Same w w' :=
  (sids_anyI h S hS w hb).mono fun e w' ⟨v, he, hr, hG⟩ => by
    obtain ⟨A, c, rfl, h⟩ := own_slice hr
    exact ⟨A, c, by rw [he, hl], h, hG⟩
set_option maxRecDepth 100000 in
set_option maxHeartbeats 2000000 in
theorem nall1_inI (nn l bs n h : Nat) (hn : 1 ≤ nn) (S : St Int) (hS : S.ok) (X : Nat → Prop) (J Jx : List Nat → World → Prop) (W : World) (hX : ∀ k, X k → k < W.heap.size) (hJ : ∀ s W W', J s W → Same W W' → J s W')
    (hY : ∀ pre x W1, J pre W1 → pre.length < 8 → YieldAt Fence.wide (nn - 1) Tryz.prog l #[.int .i64 (idOf S x), .agg #[.int .i64 (S.th x).u, .int .i64 (S.th x).g, .int .i64 (S.th x).cu, .int .i64 (S.th x).cg, .int .i64 (S.th x).m, .int .i64 (S.th x).key, .int .i64 (S.th x).v]] W1 fun e W' =>
      (e = .returned (.bool true) ∧ J (pre ++ [x]) W' ∧ KeptX X W1 W') ∨ (e = .returned (.bool false) ∧ Jx (pre ++ [x]) W'))
    (hb : Blk W n 62 #[.pointer (some ⟨h, 0, none⟩)]) (hs : Sl encI 103 W h S) (hbs : Blk W bs 24 #[.pointer (some ⟨n, 0, none⟩)])
    (hxn : ¬ X n) (hxh : ¬ X h) (hxs : ¬ X bs) (hJ0 : J [] W) :
    CallsIn Fence.wide nn Tryz.prog 90 #[.func (.yield l) #[] #[], .pointer (some ⟨bs, 0, none⟩)] W fun e W' => (∃ v, e = .returned v) ∧
      (J (hl S) W' ∨ (∃ i, i < (hl S).length ∧ Jx ((hl S).take (i + 1)) W')) := by
  have c0 := hbs.cell 0
  have c1 := hb.cell 0
  simp at c0 c1
  have HJ := Lib.hid hJ
  clear hJ
  have hlen : S.ids.length = (hl S).length := by rw [ids_hl, List.length_map]
  have hle := hl_le S
  obtain ⟨len, hlen2⟩ : ∃ len, S.ids.length = len := ⟨_, rfl⟩
  have HL : Hid ((hl S).length = len) := Lib.hid (by rw [← hlen, hlen2])
  have HI := Lib.hid hlen2
  have hle' : len ≤ 8 := by omega
  clear hlen hlen2 hle
  refine callsIn_of_wp Tryz.func90 rfl trivial ?_ rfl
  simp only [Tryz.ntmps90, List.size_toArray, List.length_cons, List.length_nil, Nat.reduceAdd, Nat.reduceSub, Array.replicate_succ, Array.replicate_zero, List.push_toArray, List.append_toArray, List.nil_append, List.cons_append]
  gi_wp2_with (refine ⟨trivial, ?_⟩; gi_at_call 29; refine (callsIn_wide.2 (sids_atI h S hS len HI.out _ hs)).mono ?_; rintro e w1 ⟨A, cp, rfl, hR, hG⟩)
  have hJ1 : J [] w1 := HJ.out _ _ _ hJ0 hG
  have hb1 := hG.blk hb (fun f => f)
  have hs1 : Sl encI 103 w1 h S := hG.blk hs (fun f => f)
  have hbs1 := hG.blk hbs (fun f => f)
  have hsz := hG.size
  clear c0 c1 hb hs hbs hG hJ0
  gi_loopw [13] (fun i wr => ∃ k : Nat, k ≤ len ∧ i = .int .i64 k ∧ J ((hl S).take k) wr ∧ Blk wr n 62 #[.pointer (some ⟨h, 0, none⟩)] ∧ Sl encI 103 wr h S ∧ Blk wr bs 24 #[.pointer (some ⟨n, 0, none⟩)] ∧ RdB wr W.heap.size A S.ids ∧ W.heap.size ≤ wr.heap.size) (fun i _ => len - (intOf i).toNat)
  case atStart => exact ⟨0, by omega, rfl, by simpa using hJ1, hb1, hs1, hbs1, hR, hsz⟩
  case round =>
    clear hJ1 hb1 hs1 hbs1 hR hsz
    obtain ⟨k, hk, rfl, hJk, hbk, hsk, hbsk, hRk, hszk⟩ := hrel
    by_cases hlt : k < len
    · obtain ⟨gb, off, cur, rfl, hgb, hbl, hcell⟩ := hRk (by rw [HI.out]; omega)
      have hkl : k < (hl S).length := by rw [HL.out]; exact hlt
      obtain ⟨x, hx⟩ : ∃ x, (hl S)[k] = x := ⟨_, rfl⟩
      have hxm : x ∈ hl S := hx ▸ List.getElem_mem hkl
      obtain ⟨hx8, hxd⟩ := hl_mem hxm
      have hidk : S.ids[k]?.getD 0 = idOf S x := by
        rw [ids_hl, List.getElem?_map, List.getElem?_eq_getElem hkl, hx]; rfl
      have d0 := (hbl.cell (off + k)).trans (hcell k (by rw [HI.out]; exact hlt))
      rw [hidk] at d0
      have HT : Hid ((hl S).take (k + 1) = (hl S).take k ++ [x]) := Lib.hid (by rw [List.take_succ_eq_append_getElem hkl, hx])
      have hpl := place_some hx8 hxd rfl
      have hget := sget_fI h S hS (idOf S x)
      have e1 : S.getT (idOf S x) zthI = S.th x := by unfold St.getT; rw [hpl]
      have e2 : S.getE (idOf S x) = 0 := by unfold St.getE; rw [hpl]
      rw [e1, e2] at hget
      have c0 := hbsk.cell 0
      have c1 := hbk.cell 0
      simp at c0 c1
      have hlen8 : ((hl S).take k).length < 8 := by rw [List.length_take]; omega
      have HK := Lib.hid hcell
      have HYY := Lib.hid hY
      generalize hid : idOf S x = id at *
      have hY' : ∀ W1, J ((hl S).take k) W1 → YieldAt Fence.wide (nn - 1) Tryz.prog l #[.int .i64 id, .agg #[.int .i64 (S.th x).u, .int .i64 (S.th x).g, .int .i64 (S.th x).cu, .int .i64 (S.th x).cg, .int .i64 (S.th x).m, .int .i64 (S.th x).key, .int .i64 (S.th x).v]] W1 fun e W' =>
          (e = .returned (.bool true) ∧ J ((hl S).take k ++ [x]) W' ∧ KeptX X W1 W') ∨ (e = .returned (.bool false) ∧ Jx ((hl S).take k ++ [x]) W') := fun W1 hj => by
        have := HYY.out _ x W1 hj hlen8
        rwa [hid] at this
      generalize S.th x = T at *
      clear hid hidk hpl e1 e2 hxm hx hY hcell
      gi_wp2_with (refine ⟨trivial, ?_⟩; gi_at_call 60; refine (callsIn_wide.2 (hget _ hsk)).mono ?_; rintro e w2 ⟨rfl, hG2⟩; have hGx : Same wr (w2.alloc (.cells #[.int .i64 T.u, .int .i64 T.g, .int .i64 T.cu, .int .i64 T.cg, .int .i64 T.m, .int .i64 T.key, .int .i64 T.v] 60)) := hG2.alloc _; obtain ⟨fn, tmps, assign, body, hy, hRr⟩ := hY' _ (HJ.out _ _ _ hJk hGx))
      have hbx := hGx.blk hbk (fun f => f)
      have hsx : Sl encI 103 (w2.alloc (.cells #[.int .i64 T.u, .int .i64 T.g, .int .i64 T.cu, .int .i64 T.cg, .int .i64 T.m, .int .i64 T.key, .int .i64 T.v] 60)) h S := hGx.blk hsk (fun f => f)
      have hbsx := hGx.blk hbsk (fun f => f)
      have hRx := hRk.same hGx
      have hszx := hGx.size
      clear hY' hget d0 c0 c1 hbl
      refine hRr.mono ?_
      rintro e W3 (⟨rfl, hJ3, hk3⟩ | ⟨rfl, hJx3⟩)
      · gi_wp2
        go_roundw
        case rel => exact ⟨k + 1, by omega, by go_num, by rw [HT.out]; exact hJ3, hk3.blk hbx hxn, hk3.blk hsx hxh, hk3.blk hbsx hxs, hRx.kept hk3 hX, by have := hk3.1; omega⟩
        case measure => simp [intOf]; omega
      · gi_wp2
        refine bodyPost_ret (results_none rfl _ _ _) rfl ?_
        exact ⟨⟨_, rfl⟩, .inr ⟨k, hkl, by rw [HT.out]; exact hJx3⟩⟩
    · obtain rfl : k = len := by omega
      gi_wp2
      go_end0
      exact ⟨⟨_, rfl⟩, .inl (by rw [← HL.out, List.take_length] at hJk; exact hJk)⟩
theorem nall_anyI (n : Nat) (w : World) :
    Calls Tryz.prog 73 #[.pointer (some ⟨n, 0, none⟩)] w fun e w' =>
      e = .returned (.func (.func 90) #[] #[.pointer (some ⟨w.heap.size, 0, none⟩)]) ∧ Same w w' ∧ Blk w' w.heap.size 24 #[.pointer (some ⟨n, 0, none⟩)] := by
  go_enter Tryz.func73, Tryz.ntmps73
  go_wp2
  go_ret
  exact ⟨rfl, Gr.a1 _ _, Blk.new _ _ _ _ rfl⟩
theorem nall_stopsI (nn bs n h : Nat) (hn : 1 ≤ nn) (S : St Int) (hS : S.ok) (X : Nat → Prop) (w : World) (hX : ∀ k, X k → k < w.heap.size) (hb : Blk w n 62 #[.pointer (some ⟨h, 0, none⟩)]) (hs : Sl encI 103 w h S) (hbs : Blk w bs 24 #[.pointer (some ⟨n, 0, none⟩)])
    (hxn : ¬ X n) (hxh : ¬ X h) (hxs : ¬ X bs) :
    SeqStopsK Fence.wide nn Tryz.prog 90 #[.pointer (some ⟨bs, 0, none⟩)] (fun x : Nat => #[.int .i64 (idOf S x), .agg #[.int .i64 (S.th x).u, .int .i64 (S.th x).g, .int .i64 (S.th x).cu, .int .i64 (S.th x).cg, .int .i64 (S.th x).m, .int .i64 (S.th x).key, .int .i64 (S.th x).v]]) (KeptX X) (fun xs => xs = hl S) (fun pre => ∃ i, i < (hl S).length ∧ pre = (hl S).take (i + 1)) 8 w :=
  fun l J Jx W hW hJ _ hY hJ0 =>
  (nall1_inI nn l bs n h hn S hS X J Jx W (fun k hk => Nat.lt_of_lt_of_le (hX k hk) hW.size) (fun s W1 W2 hs hg => hJ s W1 W2 none hs hg.grownBy (fun _ e => by cases e)) hY
    (hb.below hW hb.lt) (Blk.below hs hW (Blk.lt hs)) (hbs.below hW hbs.lt) hxn hxh hxs hJ0).mono fun e W' ⟨he, hh⟩ => ⟨he, hh.imp (fun hh => ⟨_, rfl, hh⟩) (fun ⟨i, hi, hh⟩ => ⟨_, ⟨i, hi, rfl⟩, hh⟩)⟩
end Go.Proofs
