/- Names (int): Get. -/
import Derived.Test.YthijminlalddcaaGreatDoorIFI
import Derived.Test.YthijminlalddcaaGreatDoorGA
set_option linter.unusedVariables false
set_option linter.unusedSimpArgs false
namespace Go.Proofs
open Go.RowKit Go.Shelf
attribute [local go_sem] Oper.semAt_some

def mayB {α : Type} (t : Th α) (cu cg flags : Int) : Bool := !(bits .and .i64 (bitsOf cu cg t.u t.g t.cu t.cg t.m) ((askN (flags % 512).toNat : Nat) : Int) != ((askN (flags % 512).toNat : Nat) : Int))
def mkT {α : Type} (cu cg key flags : Int) (v : α) : Th α := ⟨cu, cg, cu, cg, flags % 512, key, v⟩
/-- What Get answers: the number, whether it was made, what is wrong; the slots behind it. -/
def gt {α : Type} (S : St α) (cu cg key flags : Int) (v : α) : (Int × Bool × Int) × St α :=
  if areB [cu, cg] = false then ((0, false, 50), S) else
  if flags < 0 ∨ 2047 < flags then ((0, false, 2), S) else
  match nmd S key with
  | some i => if 1024 ≤ flags ∧ crB flags = true then ((0, false, 20), S) else if mayB (S.th i) cu cg flags = true then ((idOf S i, false, 0), S) else ((0, false, 51), S)
  | none => if key = 0 ∨ crB flags = true then ((S.addId, decide (S.addE = 0), S.addE), S.addS (mkT cu cg key flags v)) else ((0, false, 110), S)
theorem gt_ok {α : Type} {S : St α} (h : S.ok) (cu cg key flags : Int) (v : α) : (gt S cu cg key flags v).2.ok := by
  unfold gt
  split
  · exact h
  · split
    · exact h
    · split
      · split
        · exact h
        · split <;> exact h
      · split
        · exact h.addS _
        · exact h
theorem perm_made {cu cg m : Int} (h : areB [cu, cg] = true) (h0 : 0 ≤ m) (h1 : m ≤ 511) : permB cu cg cu cg m = true := by
  unfold permB
  have : areB [cu, cg, cu, cg] = true := by
    unfold areB at *
    simp at h ⊢
    exact ⟨h.1, h.2, h.1, h.2⟩
  rw [this]
  simp [h0, h1]

def GtPostI (w0 : World) (n h : Nat) (r : (Int × Bool × Int) × St Int) (w : World) (e : Ending) (w' : World) : Prop := e = .returned (.tuple #[.int .i64 r.1.1, .bool r.1.2.1, .int .i64 r.1.2.2]) ∧ NSI w0 w' n h r.2 ∧ Gr w w' (fun j => j = h)
theorem nGet_nilI (cu cg key flags : Int) (v : Int) (w : World) :
    Calls Tryz.prog 20 #[.pointer none, .agg #[.int .i64 cu, .int .i64 cg], .int .i64 key, .int .i64 flags, .int .i64 v] w fun e w' => e = .returned (.tuple #[.int .i64 0, .bool false, .int .i64 1]) ∧ Same w w' := by
  go_enter Tryz.func20, Tryz.ntmps20
  go_wp2
  go_ret3
  exact ⟨rfl, Gr.a1 _ _⟩
set_option maxRecDepth 100000 in
set_option maxHeartbeats 8000000 in
theorem nGet_fI {w0 w : World} {n h : Nat} {S : St Int} (x : NSI w0 w n h S) (cu cg key flags : Int) (v : Int) (hfl : -9223372036854775808 ≤ flags ∧ flags < 9223372036854775808) :
    Calls Tryz.prog 20 #[.pointer (some ⟨n, 0, none⟩), .agg #[.int .i64 cu, .int .i64 cg], .int .i64 key, .int .i64 flags, .int .i64 v] w (GtPostI w0 n h (gt S cu cg key flags v) w) := by
  have HX := Lib.hid x
  have HR := right_s cu cg
  have hx1 := x.same (Gr.a1 w (.cells #[.int .i64 cu, .int .i64 cg] 37))
  have hb0 : Blk (w.alloc (.cells #[.int .i64 cu, .int .i64 cg] 37)) w.heap.size 37 #[.int .i64 cu, .int .i64 cg] := Blk.new _ _ _ _ rfl
  have hln := x.lt
  unfold gt
  cases hr : areB [cu, cg]
  · rw [if_pos rfl]
    rw [hr] at HR
    clear hr x hx1 hb0
    go_enter Tryz.func20, Tryz.ntmps20
    go_wp2_with fail
    refine (HR _).mono ?_; rintro e w1 ⟨rfl, hG⟩
    go_wp2
    go_ret3
    have hGw := (Gr.a1 w (.cells #[.int .i64 cu, .int .i64 cg] 37)).next hG
    exact ⟨rfl, HX.out.same hGw, hGw.no⟩
  · rw [if_neg (by simp)]
    rw [hr] at HR
    by_cases hf : flags < 0 ∨ 2047 < flags
    · rw [if_pos hf]
      clear hr x hx1 hb0
      rcases (show flags < 0 ∨ (0 ≤ flags ∧ 2047 < flags) by omega) with hf1 | ⟨hf1, hf2⟩
      all_goals
        clear hf
        go_enter Tryz.func20, Tryz.ntmps20
        go_wp2_with fail
        refine (HR _).mono ?_; rintro e w1 ⟨rfl, hG⟩
        go_wp2
        go_ret3
        have hGw := (Gr.a1 w (.cells #[.int .i64 cu, .int .i64 cg] 37)).next hG
        exact ⟨rfl, HX.out.same hGw, hGw.no⟩
    · rw [if_neg hf]
      have hf0 : 0 ≤ flags := by omega
      have hf1 : flags ≤ 2047 := by omega
      have hp := perm_made hr (show 0 ≤ flags % 512 by omega) (show flags % 512 ≤ 511 by omega)
      have hN := fun W (hW : Same (w.alloc (.cells #[.int .i64 cu, .int .i64 cg] 37)) W) => named_anyI (hx1.same hW) key
      have hA : ∀ W, Calls Tryz.prog 39 #[.int .i64 (flags % 512)] W fun e w' => e = .returned (.int .i64 (askN (flags % 512).toNat : Nat)) ∧ W = w' := fun W => by
        have := asked_any (flags % 512).toNat (by omega) W
        rwa [show (((flags % 512).toNat : Nat) : Int) = flags % 512 by omega] at this
      have hM := isMade_any key flags hf0 hf1
      have hcb := crB_bits flags hf0 hf1
      clear hf hr
      cases hn : nmd S key with
      | some i =>
        dsimp only
        have HNS := Lib.hid hn
        by_cases hex : 1024 ≤ flags ∧ crB flags = true
        · rw [if_pos hex]
          obtain ⟨he1, he2⟩ := hex
          rw [he2] at hcb
          clear he2 hM hp hn
          go_enter Tryz.func20, Tryz.ntmps20
          go_wp2_with fail
          refine (HR _).mono ?_; rintro e w1 ⟨rfl, hG⟩
          go_wp2_with fail
          refine (hN _ hG).mono ?_; rintro e w2 (⟨hno, _⟩ | ⟨i', hi', rfl, hG2⟩)
          · rw [HNS.out] at hno; cases hno
          obtain rfl : i' = i := Option.some.inj (hi'.symm.trans HNS.out)
          clear hi'
          have hGw2 := hG.next hG2
          have hb2 := hGw2.blk hb0 (fun f => f)
          have y0 := hb2.cell 0
          have y1 := hb2.cell 1
          have hl2 := hb2.lt
          simp at y0 y1
          have hGx := ((Gr.a1 w (.cells #[.int .i64 cu, .int .i64 cg] 37)).next hGw2).alloc (.cells #[.int .i64 (S.th i').u, .int .i64 (S.th i').g, .int .i64 (S.th i').cu, .int .i64 (S.th i').cg, .int .i64 (S.th i').m, .int .i64 (S.th i').key, .int .i64 (S.th i').v] 60)
          clear hb2
          go_wp2_with fail
          refine (hA _).mono ?_; rintro e w3 ⟨rfl, rfl⟩
          go_wp2
          go_ret3
          exact ⟨rfl, HX.out.same hGx, hGx.no⟩
        · rw [if_neg hex]
          have hms : (1024 ≤ flags ∧ crB flags = false) ∨ flags < 1024 := by
            by_cases h1 : 1024 ≤ flags
            · left
              refine ⟨h1, ?_⟩
              cases hc : crB flags
              · rfl
              · exact absurd ⟨h1, hc⟩ hex
            · right; omega
          have HB := bits_s cu cg (S.th i).u (S.th i).g (S.th i).cu (S.th i).cg (S.th i).m
          cases hmb : mayB (S.th i) cu cg flags
          · rw [if_neg (by simp)]
            have hmb' : (bits .and .i64 (bitsOf cu cg (S.th i).u (S.th i).g (S.th i).cu (S.th i).cg (S.th i).m) ((askN (flags % 512).toNat : Nat) : Int) != ((askN (flags % 512).toNat : Nat) : Int)) = true := by unfold mayB at hmb; simpa using hmb
            generalize (askN (flags % 512).toNat) = q at *
            generalize bitsOf cu cg (S.th i).u (S.th i).g (S.th i).cu (S.th i).cg (S.th i).m = bo at *
            clear hmb hex hM hp hn
            rcases hms with ⟨h10, hcr⟩ | h10
            · rw [hcr] at hcb
              clear hcr
              go_enter Tryz.func20, Tryz.ntmps20
              go_wp2_with fail
              refine (HR _).mono ?_; rintro e w1 ⟨rfl, hG⟩
              go_wp2_with fail
              refine (hN _ hG).mono ?_; rintro e w2 (⟨hno, _⟩ | ⟨i', hi', rfl, hG2⟩)
              · rw [HNS.out] at hno; cases hno
              obtain rfl : i' = i := Option.some.inj (hi'.symm.trans HNS.out)
              clear hi'
              have hGw2 := hG.next hG2
              have hb2 := hGw2.blk hb0 (fun f => f)
              have y0 := hb2.cell 0
              have y1 := hb2.cell 1
              have hl2 := hb2.lt
              simp at y0 y1
              have hGx := ((Gr.a1 w (.cells #[.int .i64 cu, .int .i64 cg] 37)).next hGw2).alloc (.cells #[.int .i64 (S.th i').u, .int .i64 (S.th i').g, .int .i64 (S.th i').cu, .int .i64 (S.th i').cg, .int .i64 (S.th i').m, .int .i64 (S.th i').key, .int .i64 (S.th i').v] 60)
              clear hb2
              go_wp2_with fail
              refine (hA _).mono ?_; rintro e w3 ⟨rfl, rfl⟩
              go_wp2_with fail
              refine (HB _).mono ?_; rintro e w4 ⟨rfl, hG4⟩
              have hGy := hGx.next hG4
              go_wp2
              go_ret3
              exact ⟨rfl, HX.out.same hGy, hGy.no⟩
            · clear hcb
              go_enter Tryz.func20, Tryz.ntmps20
              go_wp2_with fail
              refine (HR _).mono ?_; rintro e w1 ⟨rfl, hG⟩
              go_wp2_with fail
              refine (hN _ hG).mono ?_; rintro e w2 (⟨hno, _⟩ | ⟨i', hi', rfl, hG2⟩)
              · rw [HNS.out] at hno; cases hno
              obtain rfl : i' = i := Option.some.inj (hi'.symm.trans HNS.out)
              clear hi'
              have hGw2 := hG.next hG2
              have hb2 := hGw2.blk hb0 (fun f => f)
              have y0 := hb2.cell 0
              have y1 := hb2.cell 1
              have hl2 := hb2.lt
              simp at y0 y1
              have hGx := ((Gr.a1 w (.cells #[.int .i64 cu, .int .i64 cg] 37)).next hGw2).alloc (.cells #[.int .i64 (S.th i').u, .int .i64 (S.th i').g, .int .i64 (S.th i').cu, .int .i64 (S.th i').cg, .int .i64 (S.th i').m, .int .i64 (S.th i').key, .int .i64 (S.th i').v] 60)
              clear hb2
              go_wp2_with fail
              refine (hA _).mono ?_; rintro e w3 ⟨rfl, rfl⟩
              go_wp2_with fail
              refine (HB _).mono ?_; rintro e w4 ⟨rfl, hG4⟩
              have hGy := hGx.next hG4
              go_wp2
              go_ret3
              exact ⟨rfl, HX.out.same hGy, hGy.no⟩
          · rw [if_pos rfl]
            have hmb' : (bits .and .i64 (bitsOf cu cg (S.th i).u (S.th i).g (S.th i).cu (S.th i).cg (S.th i).m) ((askN (flags % 512).toNat : Nat) : Int) != ((askN (flags % 512).toNat : Nat) : Int)) = false := by unfold mayB at hmb; simpa using hmb
            generalize (askN (flags % 512).toNat) = q at *
            generalize bitsOf cu cg (S.th i).u (S.th i).g (S.th i).cu (S.th i).cg (S.th i).m = bo at *
            clear hmb hex hM hp hn
            rcases hms with ⟨h10, hcr⟩ | h10
            · rw [hcr] at hcb
              clear hcr
              go_enter Tryz.func20, Tryz.ntmps20
              go_wp2_with fail
              refine (HR _).mono ?_; rintro e w1 ⟨rfl, hG⟩
              go_wp2_with fail
              refine (hN _ hG).mono ?_; rintro e w2 (⟨hno, _⟩ | ⟨i', hi', rfl, hG2⟩)
              · rw [HNS.out] at hno; cases hno
              obtain rfl : i' = i := Option.some.inj (hi'.symm.trans HNS.out)
              clear hi'
              have hGw2 := hG.next hG2
              have hb2 := hGw2.blk hb0 (fun f => f)
              have y0 := hb2.cell 0
              have y1 := hb2.cell 1
              have hl2 := hb2.lt
              simp at y0 y1
              have hGx := ((Gr.a1 w (.cells #[.int .i64 cu, .int .i64 cg] 37)).next hGw2).alloc (.cells #[.int .i64 (S.th i').u, .int .i64 (S.th i').g, .int .i64 (S.th i').cu, .int .i64 (S.th i').cg, .int .i64 (S.th i').m, .int .i64 (S.th i').key, .int .i64 (S.th i').v] 60)
              clear hb2
              go_wp2_with fail
              refine (hA _).mono ?_; rintro e w3 ⟨rfl, rfl⟩
              go_wp2_with fail
              refine (HB _).mono ?_; rintro e w4 ⟨rfl, hG4⟩
              have hGy := hGx.next hG4
              go_wp2
              go_ret3
              exact ⟨rfl, HX.out.same hGy, hGy.no⟩
            · clear hcb
              go_enter Tryz.func20, Tryz.ntmps20
              go_wp2_with fail
              refine (HR _).mono ?_; rintro e w1 ⟨rfl, hG⟩
              go_wp2_with fail
              refine (hN _ hG).mono ?_; rintro e w2 (⟨hno, _⟩ | ⟨i', hi', rfl, hG2⟩)
              · rw [HNS.out] at hno; cases hno
              obtain rfl : i' = i := Option.some.inj (hi'.symm.trans HNS.out)
              clear hi'
              have hGw2 := hG.next hG2
              have hb2 := hGw2.blk hb0 (fun f => f)
              have y0 := hb2.cell 0
              have y1 := hb2.cell 1
              have hl2 := hb2.lt
              simp at y0 y1
              have hGx := ((Gr.a1 w (.cells #[.int .i64 cu, .int .i64 cg] 37)).next hGw2).alloc (.cells #[.int .i64 (S.th i').u, .int .i64 (S.th i').g, .int .i64 (S.th i').cu, .int .i64 (S.th i').cg, .int .i64 (S.th i').m, .int .i64 (S.th i').key, .int .i64 (S.th i').v] 60)
              clear hb2
              go_wp2_with fail
              refine (hA _).mono ?_; rintro e w3 ⟨rfl, rfl⟩
              go_wp2_with fail
              refine (HB _).mono ?_; rintro e w4 ⟨rfl, hG4⟩
              have hGy := hGx.next hG4
              go_wp2
              go_ret3
              exact ⟨rfl, HX.out.same hGy, hGy.no⟩
      | none =>
        dsimp only
        have HNS := Lib.hid hn
        generalize (askN (flags % 512).toNat) = q at *
        by_cases hmk : key = 0 ∨ crB flags = true
        · rw [if_pos hmk]
          rw [show (decide (key = 0) || crB flags) = true by simpa using hmk] at hM
          have HP := make_s cu cg (flags % 512)
          unfold makeV at HP
          rw [if_pos hp] at HP
          have hAd := fun W => add_fI h S x.ok (mkT cu cg key flags v) W
          have hok : (S.addS (mkT cu cg key flags v)).ok := x.ok.addS _
          have hae : S.addE = 0 ∨ S.addE = 101 := by unfold St.addE; split <;> simp
          generalize S.addS (mkT cu cg key flags v) = S' at *
          unfold mkT at hAd
          generalize S.addId = aid at *
          clear hmk hp hn hcb
          rcases hae with hae | hae
          all_goals
            rw [hae] at hAd ⊢
            clear hae
            go_enter Tryz.func20, Tryz.ntmps20
            go_wp2_with fail
            refine (HR _).mono ?_; rintro e w1 ⟨rfl, hG⟩
            go_wp2_with fail
            refine (hN _ hG).mono ?_; rintro e w2 (⟨_, rfl, hG2⟩ | ⟨i', hi', _⟩)
            rotate_left
            · rw [HNS.out] at hi'; cases hi'
            have hGw2 := hG.next hG2
            have hb2 := hGw2.blk hb0 (fun f => f)
            have y0 := hb2.cell 0
            have y1 := hb2.cell 1
            have hl2 := hb2.lt
            simp at y0 y1
            have hGx := ((Gr.a1 w (.cells #[.int .i64 cu, .int .i64 cg] 37)).next hGw2).alloc (.cells #[.int .i64 0, .int .i64 0, .int .i64 0, .int .i64 0, .int .i64 0, .int .i64 0, .int .i64 0] 60)
            clear hb2
            go_wp2_with fail
            refine (hA _).mono ?_; rintro e w3 ⟨rfl, rfl⟩
            go_wp2_with fail
            refine (hM _).mono ?_; rintro e w4 ⟨rfl, rfl⟩
            go_wp2_with fail
            refine (HP _).mono ?_; rintro e w5 ⟨rfl, hG5⟩
            have hGy := hGx.next hG5
            have hx5 := HX.out.same hGy
            have c5 := hx5.c0
            have hl5 := hx5.lt
            have hsl := Blk.alloc hx5.sl (.cells #[.int .i64 cu, .int .i64 cg, .int .i64 cu, .int .i64 cg, .int .i64 (flags % 512)] 39)
            have HX5 := Lib.hid hx5
            clear hx5
            go_wp2
            go_region_with (go_at_call 48; refine (hAd _ (by first | exact hsl | exact Blk.drew hsl)).mono ?_; rintro e w6 ⟨rfl, hG6, hB6⟩)
            all_goals
              go_wp2
              go_ret3
              have hG7 : Gr w5 w6 (fun j => j = h) := ((Gr.a1 w5 _).drew.no).trans hG6 (fun _ _ e => e)
              exact ⟨rfl, HX5.out.turn hG7 hB6 hok, hGy.no.trans hG7 (fun _ _ e => e)⟩
        · rw [if_neg hmk]
          rw [show (decide (key = 0) || crB flags) = false by
            cases hc : crB flags
            · have : key ≠ 0 := fun e => hmk (.inl e)
              simp [this]
            · exact absurd (.inr hc) hmk] at hM
          clear hmk hp hn hcb
          go_enter Tryz.func20, Tryz.ntmps20
          go_wp2_with fail
          refine (HR _).mono ?_; rintro e w1 ⟨rfl, hG⟩
          go_wp2_with fail
          refine (hN _ hG).mono ?_; rintro e w2 (⟨_, rfl, hG2⟩ | ⟨i', hi', _⟩)
          rotate_left
          · rw [HNS.out] at hi'; cases hi'
          have hGw2 := hG.next hG2
          have hb2 := hGw2.blk hb0 (fun f => f)
          have y0 := hb2.cell 0
          have y1 := hb2.cell 1
          have hl2 := hb2.lt
          simp at y0 y1
          have hGx := ((Gr.a1 w (.cells #[.int .i64 cu, .int .i64 cg] 37)).next hGw2).alloc (.cells #[.int .i64 0, .int .i64 0, .int .i64 0, .int .i64 0, .int .i64 0, .int .i64 0, .int .i64 0] 60)
          clear hb2
          go_wp2_with fail
          refine (hA _).mono ?_; rintro e w3 ⟨rfl, rfl⟩
          go_wp2_with fail
          refine (hM _).mono ?_; rintro e w4 ⟨rfl, rfl⟩
          go_wp2
          go_ret3
          exact ⟨rfl, HX.out.same hGx, hGx.no⟩
end Go.Proofs
