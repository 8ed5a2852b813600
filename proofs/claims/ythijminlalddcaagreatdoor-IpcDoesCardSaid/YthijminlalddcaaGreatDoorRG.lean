/- The reference's Names: Get. -/
import Derived.Test.YthijminlalddcaaGreatDoorRF
import Derived.Deep.QuietTactic
import Derived.BigQuiet
import Derived.Maps.AppendAt
import Derived.Deep.AppendLies
import Derived.Deep.RegionLaw
import Derived.Deep.RegionHeld3
import Derived.Deep.DeepCutAuto
import Derived.Deep.CutBlock
set_option linter.unusedVariables false
set_option linter.unusedSimpArgs false
namespace Go.Proofs
open Go.RowKit Go.Shelf
attribute [local go_sem] Oper.semAt_some

theorem rids_m (b : Nat) (S : St Int) (V : Nat → Int) (K P U : Value) (hS : S.ok) (w : World) (hb : Rf w b S V K P U) (m : Nat) (hm : S.ids.length = m) :
    Calls Tryz.prog 7 #[.pointer (some ⟨b, 0, none⟩)] w fun e w' => ∃ A c, e = .returned (.slice A m c) ∧ RdB w' w.heap.size A S.ids ∧ Same w w' :=
  (rids b S V K P U hS w hb).mono fun e w' ⟨v, he, hr, hG⟩ => by
    obtain ⟨A, c, rfl, h⟩ := own_slice hr
    exact ⟨A, c, by rw [he, hm], h, hG⟩
theorem rgetq (b : Nat) (S : St Int) (V : Nat → Int) (K P U : Value) (hS : S.ok) (id : Int) (i : Nat) (hp : S.place id = some i) (v : Int) (hv : V i = v) (w : World) (hb : Rf w b S V K P U) :
    Calls Tryz.prog 34 #[.pointer (some ⟨b, 0, none⟩), .int .i64 id] w fun e w' => e = .returned (.tuple #[.int .i64 v, .int .i64 0]) ∧ w' = w := by
  subst hv
  have hi := (place_get hp).1
  have hpi : placeI S id = i := by unfold placeI; rw [hp]
  have c := (Blk.cell hb (8 + i)).trans (rc_v S V K P U i hi)
  have ha := fun W => rat b S V K P U hS id W
  rw [hpi] at ha
  have HA := Lib.hid ha
  clear hp hpi ha
  go_enter Tryz.func34, Tryz.ntmps34
  go_wp2_with (go_at_call 63; refine (HA.out _ hb).mono ?_; rintro e w' ⟨rfl, rfl⟩)
  go_ret2
  exact ⟨rfl, rfl⟩

def RGet (w0 : World) (r N : Nat) (g : (Int × Bool × Int) × St Int) (w : World) (e : Ending) (w' : World) : Prop := e = .returned (.tuple #[.int .i64 g.1.1, .bool g.1.2.1, .int .i64 g.1.2.2]) ∧ RA w0 w' r N g.2 ∧ Gr w w' (fun k => r ≤ k)
theorem RA.up {w0 w : World} {r N M : Nat} {S : St Int} (h : RA w0 w r N S) (hM : N ≤ M) : RA w0 w r M S := by
  obtain ⟨V, K, P, U, kv, pv, uv, h, a, hN⟩ := h
  exact ⟨V, K, P, U, kv, pv, uv, h, a, Nat.le_trans hN hM⟩
section
variable {w0 w : World} {r N : Nat} {S : St Int}
set_option maxRecDepth 100000 in
set_option maxHeartbeats 8000000 in
theorem rnGet (x : RA w0 w r N S) (hN1 : N ≤ 900) (cu cg key flags v : Int) (hfl : -9223372036854775808 ≤ flags ∧ flags < 9223372036854775808) :
    Calls Tryz.prog 21 #[.pointer (some ⟨r, 0, none⟩), .agg #[.int .i64 cu, .int .i64 cg], .int .i64 key, .int .i64 flags, .int .i64 v] w (RGet w0 r (N + 1) (gt S cu cg key flags v) w) := by
  have HR := right_r cu cg
  have hb0 : Blk (w.alloc (.cells #[.int .i64 cu, .int .i64 cg] 37)) w.heap.size 37 #[.int .i64 cu, .int .i64 cg] := Blk.new _ _ _ _ rfl
  have HX : Hid (∀ w', Same w w' → RA w0 w' r (N + 1) S) := Lib.hid (fun w' hG => (x.same hG).up (by omega))
  obtain ⟨V, K, P, U, kv, pv, uv, hA, a, hN⟩ := x.same (Gr.a1 w (.cells #[.int .i64 cu, .int .i64 cg] 37))
  have hrw0 := x.lt
  have hGa := Gr.a1 w (.cells #[.int .i64 cu, .int .i64 cg] 37)
  clear x
  obtain ⟨g, hgt⟩ : ∃ g, gt S cu cg key flags v = g := ⟨_, rfl⟩
  rw [hgt]
  cases hr : areB [cu, cg]
  · have e : g = ((0, false, 50), S) := by rw [← hgt]; unfold gt; rw [if_pos hr]
    rw [e]
    clear e hgt
    rw [hr] at HR
    clear hr hA a hb0
    go_enter Tryz.func21, Tryz.ntmps21
    go_wp2_with fail
    refine (HR _).mono ?_; rintro e w1 ⟨rfl, hG⟩
    go_wp2
    go_ret3
    exact ⟨rfl, HX.out _ (hGa.next hG), (hGa.next hG).no'⟩
  · unfold gt at hgt
    rw [if_neg (by rw [hr]; simp)] at hgt
    rw [hr] at HR
    by_cases hf : flags < 0 ∨ 2047 < flags
    · have e : g = ((0, false, 2), S) := by rw [← hgt, if_pos hf]
      rw [e]
      clear e hgt
      clear hr hA a hb0
      rcases (show flags < 0 ∨ (0 ≤ flags ∧ 2047 < flags) by omega) with hf1 | ⟨hf1, hf2⟩
      all_goals
        clear hf
        go_enter Tryz.func21, Tryz.ntmps21
        go_wp2_with fail
        refine (HR _).mono ?_; rintro e w1 ⟨rfl, hG⟩
        go_wp2
        go_ret3
        exact ⟨rfl, HX.out _ (hGa.next hG), (hGa.next hG).no'⟩
    · rw [if_neg hf] at hgt
      have HGT := Lib.hid hgt
      clear hgt
      have hf0 : 0 ≤ flags := by omega
      have hf1 : flags ≤ 2047 := by omega
      have hp := perm_made hr (show 0 ≤ flags % 512 by omega) (show flags % 512 ≤ 511 by omega)
      have hfn : ((flags.toNat : Nat) : Int) = flags := by omega
      have hmode := ask_mode flags.toNat (by omega)
      rw [hfn] at hmode
      clear hfn
      obtain ⟨m, hm⟩ : ∃ m, S.ids.length = m := ⟨_, rfl⟩
      have hm8 : m ≤ 8 := by rw [← hm]; exact ids8 S
      have HM := Lib.hid hm
      have HRI := Lib.hid (fun W (hG : Same (w.alloc (.cells #[.int .i64 cu, .int .i64 cg] 37)) W) => rids_m r S V _ pv uv hA.ok W (hA.same hG).rf m hm)
      have HOK := Lib.hid hA.ok
      have HA := Lib.hid (fun W (hG : Same (w.alloc (.cells #[.int .i64 cu, .int .i64 cg] 37)) W) => hA.same hG)
      have Ha := Lib.hid a
      have HP := Lib.hid hp
      have HMO := Lib.hid hmode
      have hrl := hA.lt
      obtain ⟨AK, cK, hkv0, _⟩ := own_ints rfl hA.rk
      obtain ⟨i0, hi, hz0, hz1, hz2⟩ := info_parts info3
      obtain ⟨iP, hiP, hP0, hP1, hP2⟩ := info_parts infoP
      subst hkv0
      clear hf hr hA a hm hp hmode
      go_enter Tryz.func21, Tryz.ntmps21
      go_wp2_with fail
      refine (HR _).mono ?_; rintro e w1 ⟨rfl, hG1⟩
      go_wp2_with fail
      refine (HRI.out _ hG1).mono ?_; rintro e w2 ⟨A, c, rfl, hri, hG2⟩
      have hGw := hG1.next hG2
      go_wp2
      go_loopw [15, 16, 17, 18] (fun i _ _ _ wr => ∃ k : Nat, k ≤ m ∧ i = .int .i64 k ∧ Same w2 wr ∧ (0 < k → key ≠ 0) ∧ (∀ j ∈ (hl S).take k, (S.th j).key ≠ key)) (fun i _ _ _ _ => m - (intOf i).toNat)
      case atStart => exact ⟨0, by omega, rfl, Gr.refl _ _, by omega, by simp⟩
      case round =>
        obtain ⟨k, hk, rfl, hGr, hk0, hno⟩ := hrel
        have HNO := Lib.hid hno
        have HK0 := Lib.hid hk0
        have hGx := hGw.next hGr
        have hA := HA.out _ hGx
        clear hno hk0
        by_cases hlt : k < m ∧ key ≠ 0
        · obtain ⟨hlt, hkey⟩ := hlt
          have hkey' : (key != 0) = true := by simp [hkey]
          obtain ⟨i, htk, hid, hpl⟩ := hl_at (S := S) (k := k) (by rw [HM.out]; exact hlt)
          obtain ⟨j, n, gK, cK, gP, cP, gU, cU, hV, hj, hn, hkv, hpv, huv, rK, rP, rU, lK, lP, lU, ck, cu', fu, q0, q1, q2, q3, q4, fP⟩ := hA.found Ha.out hpl
          have s24 := rf24 hA
          have s25 := rf25 hA
          rw [hkv] at s24
          rw [hpv] at s25
          have hj0 : (0 : Int) ≤ j := by omega
          have hj1 : (j : Int) < n := by omega
          have hn9 : n ≤ 900 := by omega
          have hri2 := hri.same hGr
          obtain ⟨gI, offI, curI, rfl, hgI, hbI, hcI⟩ := hri2 (by rw [HM.out]; omega)
          have cI := (hbI.cell (offI + k)).trans (hcI k (by rw [HM.out]; exact hlt))
          rw [hid] at cI
          have HG := Lib.hid (fun W (hW : Same wr W) => rgetq r S V _ pv uv HOK.out (idOf S i) i hpl j hV W (hA.same hW).rf)
          have HT := Lib.hid htk
          have HID := Lib.hid hid
          have HPL := Lib.hid hpl
          have HHN := Lib.hid hn
          clear hcI hri2 hid htk hpl hV hn hkv hpv huv fu cu'
          generalize hid2 : idOf S i = ident at *
          have HI2 := Lib.hid hid2
          clear hid2
          go_wp2_with fail
          go_quiet ((go_at_call 34; exact Calls.quiet_of_same (HG.out _ ((Gr.refl _ _).drewN _))))
          have hGq : Same wr (wr.drewN nq) := (Gr.refl _ _).drewN _
          have ck : (wr.drewN nq).cell? ⟨gK, j, none⟩ = some (.int .i64 (S.th i).key) := ck
          have s24 : (wr.drewN nq).cell? ⟨r, 24, none⟩ = some (.slice (some ⟨gK, 0, none⟩) n cK) := s24
          have t25 : (wr.drewN nq).cell? ⟨r, 25, none⟩ = some (.slice (some ⟨gP, 0, none⟩) n cP) := s25
          have t0 : (wr.drewN nq).cell? ⟨gP, j * 5, none⟩ = some (.int .i64 (S.th i).u) := q0
          have t1 : (wr.drewN nq).cell? ⟨gP, j * 5 + 1, none⟩ = some (.int .i64 (S.th i).g) := q1
          have t2 : (wr.drewN nq).cell? ⟨gP, j * 5 + 2, none⟩ = some (.int .i64 (S.th i).cu) := q2
          have t3 : (wr.drewN nq).cell? ⟨gP, j * 5 + 3, none⟩ = some (.int .i64 (S.th i).cg) := q3
          have t4 : (wr.drewN nq).cell? ⟨gP, j * 5 + 4, none⟩ = some (.int .i64 (S.th i).m) := q4
          have hbc := hGx.blk hb0 (fun f => f)
          have hbl := hbc.lt
          have hbc0 : _ = some (Value.int .i64 cu) := hbc.cell 0
          have hbc1 : _ = some (Value.int .i64 cg) := hbc.cell 1
          have z0 : (wr.drewN nq).cell? ⟨w.heap.size, 0, none⟩ = some (.int .i64 cu) := hbc0
          have z1 : (wr.drewN nq).cell? ⟨w.heap.size, 1, none⟩ = some (.int .i64 cg) := hbc1
          have cI : (wr.drewN nq).cell? ⟨gI, offI + k, none⟩ = some (.int .i64 ident) := cI
          have hrl2 : r < (wr.drewN nq).heap.size := hA.lt
          have lP : gP < (wr.drewN nq).heap.size := lP
          have hbl : w.heap.size < (wr.drewN nq).heap.size := hbl
          have HLI : Hid (∀ W, Same (wr.drewN nq) W → W.cell? ⟨gI, offI + k, none⟩ = some (.int .i64 ident)) := Lib.hid (fun W hW => ((hGq.next hW).blk hbI (fun f => f)).cell (offI + k) |>.trans (by rw [← hbI.cell (offI + k)]; exact cI))
          clear q0 q1 q2 q3 q4 hbc hbc0 hbc1 s25 hri fP
          generalize wr.drewN nq = wq at *
          by_cases hkx : (S.th i).key = key
          · have hnm : nmd S key = some i := find_hit hkey HT.out HNO.out hkx
            have HNM := Lib.hid hnm
            have hkx' : ((S.th i).key != key) = false := by simp [hkx]
            have HB := bits_r cu cg (S.th i).u (S.th i).g (S.th i).cu (S.th i).cg (S.th i).m
            have hms : (1024 ≤ flags ∧ crB flags = true) ∨ (1024 ≤ flags ∧ crB flags = false) ∨ flags < 1024 := by
              cases crB flags
              · rcases (show flags < 1024 ∨ 1024 ≤ flags by omega) with h | h
                · exact .inr (.inr h)
                · exact .inr (.inl ⟨h, rfl⟩)
              · rcases (show flags < 1024 ∨ 1024 ≤ flags by omega) with h | h
                · exact .inr (.inr h)
                · exact .inl ⟨h, rfl⟩
            clear hnm hkx
            rcases hms with ⟨h10, hcr⟩ | hms
            · have hc1 : (flags / 512 % 2 == 1) = true := by unfold crB at hcr; simpa using hcr
              have HCR := Lib.hid hcr
              clear hcr
              go_wp2
              go_ret3
              have e : g = ((0, false, 20), S) := by
                rw [← HGT.out, HNM.out]
                dsimp only
                rw [if_pos ⟨h10, HCR.out⟩]
              rw [e]
              exact ⟨rfl, HX.out _ ((hGa.next hGx).next hGq), ((hGa.next hGx).next hGq).no'⟩
            · have hnx : ¬ (1024 ≤ flags ∧ crB flags = true) := by
                rcases hms with ⟨_, h⟩ | h
                · rw [h]; simp
                · omega
              have HNX := Lib.hid hnx
              clear hnx
              cases hmb : mayB (S.th i) cu cg flags
              · have hmb' : (bits .and .i64 (bitsOf cu cg (S.th i).u (S.th i).g (S.th i).cu (S.th i).cg (S.th i).m) ((askN (flags % 512).toNat : Nat) : Int) != ((askN (flags % 512).toNat : Nat) : Int)) = true := by unfold mayB at hmb; simpa using hmb
                have HMB := Lib.hid hmb
                have hmode := HMO.out
                clear hmb
                generalize (askN (flags % 512).toNat) = q at *
                generalize bitsOf cu cg (S.th i).u (S.th i).g (S.th i).cu (S.th i).cg (S.th i).m = bo at *
                rcases hms with ⟨h10, hcr⟩ | h10
                · have hc1 : (flags / 512 % 2 == 1) = false := by unfold crB at hcr; simpa using hcr
                  clear hcr
                  go_wp2_with fail
                  have kl0 : w.heap.size < wq.drew.heap.size := by show w.heap.size < wq.heap.size; omega
                  have kl1 : r < wq.drew.heap.size := by show r < wq.heap.size; omega
                  have kl2 : gP < wq.drew.heap.size := by show gP < wq.heap.size; omega
                  have z0 : wq.drew.cell? ⟨w.heap.size, 0, none⟩ = some (.int .i64 cu) := z0
                  have z1 : wq.drew.cell? ⟨w.heap.size, 1, none⟩ = some (.int .i64 cg) := z1
                  have t25 : wq.drew.cell? ⟨r, 25, none⟩ = some (.slice (some ⟨gP, 0, none⟩) n cP) := t25
                  have t0 : wq.drew.cell? ⟨gP, j * 5, none⟩ = some (.int .i64 (S.th i).u) := t0
                  have t1 : wq.drew.cell? ⟨gP, j * 5 + 1, none⟩ = some (.int .i64 (S.th i).g) := t1
                  have t2 : wq.drew.cell? ⟨gP, j * 5 + 2, none⟩ = some (.int .i64 (S.th i).cu) := t2
                  have t3 : wq.drew.cell? ⟨gP, j * 5 + 3, none⟩ = some (.int .i64 (S.th i).cg) := t3
                  have t4 : wq.drew.cell? ⟨gP, j * 5 + 4, none⟩ = some (.int .i64 (S.th i).m) := t4
                  go_region_held3 (fun W => W.cell? ⟨w.heap.size, 0, none⟩ = some (.int .i64 cu) ∧ W.cell? ⟨w.heap.size, 1, none⟩ = some (.int .i64 cg) ∧ W.cell? ⟨r, 25, none⟩ = some (.slice (some ⟨gP, 0, none⟩) n cP) ∧ W.cell? ⟨gP, j * 5, none⟩ = some (.int .i64 (S.th i).u) ∧ W.cell? ⟨gP, j * 5 + 1, none⟩ = some (.int .i64 (S.th i).g) ∧ W.cell? ⟨gP, j * 5 + 2, none⟩ = some (.int .i64 (S.th i).cu) ∧ W.cell? ⟨gP, j * 5 + 3, none⟩ = some (.int .i64 (S.th i).cg) ∧ W.cell? ⟨gP, j * 5 + 4, none⟩ = some (.int .i64 (S.th i).m)) (first | ((repeat' (with_reducible apply And.intro)) <;> assumption)) (first | (go_at_call 50; refine (HB _).mono ?_; rintro e w3 ⟨rfl, hG3⟩; have az0 := (hG3.cell (p := ⟨w.heap.size, 0, none⟩) kl0 (fun f => f)).trans z0; have az1 := (hG3.cell (p := ⟨w.heap.size, 1, none⟩) kl0 (fun f => f)).trans z1; have at25 := (hG3.cell (p := ⟨r, 25, none⟩) kl1 (fun f => f)).trans t25; have at0 := (hG3.cell (p := ⟨gP, j * 5, none⟩) kl2 (fun f => f)).trans t0; have at1 := (hG3.cell (p := ⟨gP, j * 5 + 1, none⟩) kl2 (fun f => f)).trans t1; have at2 := (hG3.cell (p := ⟨gP, j * 5 + 2, none⟩) kl2 (fun f => f)).trans t2; have at3 := (hG3.cell (p := ⟨gP, j * 5 + 3, none⟩) kl2 (fun f => f)).trans t3; have at4 := (hG3.cell (p := ⟨gP, j * 5 + 4, none⟩) kl2 (fun f => f)).trans t4))
                  clear z0 az0 z1 az1 t25 at25 t0 at0 t1 at1 t2 at2 t3 at3 t4 at4
                  go_wp2
                  go_ret3
                  have e : g = ((0, false, 51), S) := by
                    rw [← HGT.out, HNM.out]
                    dsimp only
                    rw [if_neg HNX.out, if_neg (by rw [HMB.out]; simp)]
                  rw [e]
                  exact ⟨rfl, HX.out _ ((hGa.next hGx).next (hGq.drew.next hG3)), ((hGa.next hGx).next (hGq.drew.next hG3)).no'⟩
                · go_wp2_with fail
                  have kl0 : w.heap.size < wq.drew.heap.size := by show w.heap.size < wq.heap.size; omega
                  have kl1 : r < wq.drew.heap.size := by show r < wq.heap.size; omega
                  have kl2 : gP < wq.drew.heap.size := by show gP < wq.heap.size; omega
                  have z0 : wq.drew.cell? ⟨w.heap.size, 0, none⟩ = some (.int .i64 cu) := z0
                  have z1 : wq.drew.cell? ⟨w.heap.size, 1, none⟩ = some (.int .i64 cg) := z1
                  have t25 : wq.drew.cell? ⟨r, 25, none⟩ = some (.slice (some ⟨gP, 0, none⟩) n cP) := t25
                  have t0 : wq.drew.cell? ⟨gP, j * 5, none⟩ = some (.int .i64 (S.th i).u) := t0
                  have t1 : wq.drew.cell? ⟨gP, j * 5 + 1, none⟩ = some (.int .i64 (S.th i).g) := t1
                  have t2 : wq.drew.cell? ⟨gP, j * 5 + 2, none⟩ = some (.int .i64 (S.th i).cu) := t2
                  have t3 : wq.drew.cell? ⟨gP, j * 5 + 3, none⟩ = some (.int .i64 (S.th i).cg) := t3
                  have t4 : wq.drew.cell? ⟨gP, j * 5 + 4, none⟩ = some (.int .i64 (S.th i).m) := t4
                  go_region_held3 (fun W => W.cell? ⟨w.heap.size, 0, none⟩ = some (.int .i64 cu) ∧ W.cell? ⟨w.heap.size, 1, none⟩ = some (.int .i64 cg) ∧ W.cell? ⟨r, 25, none⟩ = some (.slice (some ⟨gP, 0, none⟩) n cP) ∧ W.cell? ⟨gP, j * 5, none⟩ = some (.int .i64 (S.th i).u) ∧ W.cell? ⟨gP, j * 5 + 1, none⟩ = some (.int .i64 (S.th i).g) ∧ W.cell? ⟨gP, j * 5 + 2, none⟩ = some (.int .i64 (S.th i).cu) ∧ W.cell? ⟨gP, j * 5 + 3, none⟩ = some (.int .i64 (S.th i).cg) ∧ W.cell? ⟨gP, j * 5 + 4, none⟩ = some (.int .i64 (S.th i).m)) (first | ((repeat' (with_reducible apply And.intro)) <;> assumption)) (first | (go_at_call 50; refine (HB _).mono ?_; rintro e w3 ⟨rfl, hG3⟩; have az0 := (hG3.cell (p := ⟨w.heap.size, 0, none⟩) kl0 (fun f => f)).trans z0; have az1 := (hG3.cell (p := ⟨w.heap.size, 1, none⟩) kl0 (fun f => f)).trans z1; have at25 := (hG3.cell (p := ⟨r, 25, none⟩) kl1 (fun f => f)).trans t25; have at0 := (hG3.cell (p := ⟨gP, j * 5, none⟩) kl2 (fun f => f)).trans t0; have at1 := (hG3.cell (p := ⟨gP, j * 5 + 1, none⟩) kl2 (fun f => f)).trans t1; have at2 := (hG3.cell (p := ⟨gP, j * 5 + 2, none⟩) kl2 (fun f => f)).trans t2; have at3 := (hG3.cell (p := ⟨gP, j * 5 + 3, none⟩) kl2 (fun f => f)).trans t3; have at4 := (hG3.cell (p := ⟨gP, j * 5 + 4, none⟩) kl2 (fun f => f)).trans t4))
                  clear z0 az0 z1 az1 t25 at25 t0 at0 t1 at1 t2 at2 t3 at3 t4 at4
                  go_wp2
                  go_ret3
                  have e : g = ((0, false, 51), S) := by
                    rw [← HGT.out, HNM.out]
                    dsimp only
                    rw [if_neg HNX.out, if_neg (by rw [HMB.out]; simp)]
                  rw [e]
                  exact ⟨rfl, HX.out _ ((hGa.next hGx).next (hGq.drew.next hG3)), ((hGa.next hGx).next (hGq.drew.next hG3)).no'⟩
              · have hmb' : (bits .and .i64 (bitsOf cu cg (S.th i).u (S.th i).g (S.th i).cu (S.th i).cg (S.th i).m) ((askN (flags % 512).toNat : Nat) : Int) != ((askN (flags % 512).toNat : Nat) : Int)) = false := by unfold mayB at hmb; simpa using hmb
                have HMB := Lib.hid hmb
                have hmode := HMO.out
                clear hmb
                generalize (askN (flags % 512).toNat) = q at *
                generalize bitsOf cu cg (S.th i).u (S.th i).g (S.th i).cu (S.th i).cg (S.th i).m = bo at *
                rcases hms with ⟨h10, hcr⟩ | h10
                · have hc1 : (flags / 512 % 2 == 1) = false := by unfold crB at hcr; simpa using hcr
                  clear hcr
                  go_wp2_with fail
                  have kl0 : w.heap.size < wq.drew.heap.size := by show w.heap.size < wq.heap.size; omega
                  have kl1 : r < wq.drew.heap.size := by show r < wq.heap.size; omega
                  have kl2 : gP < wq.drew.heap.size := by show gP < wq.heap.size; omega
                  have z0 : wq.drew.cell? ⟨w.heap.size, 0, none⟩ = some (.int .i64 cu) := z0
                  have z1 : wq.drew.cell? ⟨w.heap.size, 1, none⟩ = some (.int .i64 cg) := z1
                  have t25 : wq.drew.cell? ⟨r, 25, none⟩ = some (.slice (some ⟨gP, 0, none⟩) n cP) := t25
                  have t0 : wq.drew.cell? ⟨gP, j * 5, none⟩ = some (.int .i64 (S.th i).u) := t0
                  have t1 : wq.drew.cell? ⟨gP, j * 5 + 1, none⟩ = some (.int .i64 (S.th i).g) := t1
                  have t2 : wq.drew.cell? ⟨gP, j * 5 + 2, none⟩ = some (.int .i64 (S.th i).cu) := t2
                  have t3 : wq.drew.cell? ⟨gP, j * 5 + 3, none⟩ = some (.int .i64 (S.th i).cg) := t3
                  have t4 : wq.drew.cell? ⟨gP, j * 5 + 4, none⟩ = some (.int .i64 (S.th i).m) := t4
                  go_region_held3 (fun W => W.cell? ⟨w.heap.size, 0, none⟩ = some (.int .i64 cu) ∧ W.cell? ⟨w.heap.size, 1, none⟩ = some (.int .i64 cg) ∧ W.cell? ⟨r, 25, none⟩ = some (.slice (some ⟨gP, 0, none⟩) n cP) ∧ W.cell? ⟨gP, j * 5, none⟩ = some (.int .i64 (S.th i).u) ∧ W.cell? ⟨gP, j * 5 + 1, none⟩ = some (.int .i64 (S.th i).g) ∧ W.cell? ⟨gP, j * 5 + 2, none⟩ = some (.int .i64 (S.th i).cu) ∧ W.cell? ⟨gP, j * 5 + 3, none⟩ = some (.int .i64 (S.th i).cg) ∧ W.cell? ⟨gP, j * 5 + 4, none⟩ = some (.int .i64 (S.th i).m)) (first | ((repeat' (with_reducible apply And.intro)) <;> assumption)) (first | (go_at_call 50; refine (HB _).mono ?_; rintro e w3 ⟨rfl, hG3⟩; have az0 := (hG3.cell (p := ⟨w.heap.size, 0, none⟩) kl0 (fun f => f)).trans z0; have az1 := (hG3.cell (p := ⟨w.heap.size, 1, none⟩) kl0 (fun f => f)).trans z1; have at25 := (hG3.cell (p := ⟨r, 25, none⟩) kl1 (fun f => f)).trans t25; have at0 := (hG3.cell (p := ⟨gP, j * 5, none⟩) kl2 (fun f => f)).trans t0; have at1 := (hG3.cell (p := ⟨gP, j * 5 + 1, none⟩) kl2 (fun f => f)).trans t1; have at2 := (hG3.cell (p := ⟨gP, j * 5 + 2, none⟩) kl2 (fun f => f)).trans t2; have at3 := (hG3.cell (p := ⟨gP, j * 5 + 3, none⟩) kl2 (fun f => f)).trans t3; have at4 := (hG3.cell (p := ⟨gP, j * 5 + 4, none⟩) kl2 (fun f => f)).trans t4))
                  clear z0 az0 z1 az1 t25 at25 t0 at0 t1 at1 t2 at2 t3 at3 t4 at4
                  have cI := HLI.out _ ((Gr.refl wq (fun _ => False)).drew.next hG3)
                  go_wp2
                  go_ret3
                  have e : g = ((ident, false, 0), S) := by
                    rw [← HGT.out, HNM.out]
                    dsimp only
                    rw [if_neg HNX.out, if_pos HMB.out, HI2.out]
                  rw [e]
                  exact ⟨rfl, HX.out _ ((hGa.next hGx).next (hGq.drew.next hG3)), ((hGa.next hGx).next (hGq.drew.next hG3)).no'⟩
                · go_wp2_with fail
                  have kl0 : w.heap.size < wq.drew.heap.size := by show w.heap.size < wq.heap.size; omega
                  have kl1 : r < wq.drew.heap.size := by show r < wq.heap.size; omega
                  have kl2 : gP < wq.drew.heap.size := by show gP < wq.heap.size; omega
                  have z0 : wq.drew.cell? ⟨w.heap.size, 0, none⟩ = some (.int .i64 cu) := z0
                  have z1 : wq.drew.cell? ⟨w.heap.size, 1, none⟩ = some (.int .i64 cg) := z1
                  have t25 : wq.drew.cell? ⟨r, 25, none⟩ = some (.slice (some ⟨gP, 0, none⟩) n cP) := t25
                  have t0 : wq.drew.cell? ⟨gP, j * 5, none⟩ = some (.int .i64 (S.th i).u) := t0
                  have t1 : wq.drew.cell? ⟨gP, j * 5 + 1, none⟩ = some (.int .i64 (S.th i).g) := t1
                  have t2 : wq.drew.cell? ⟨gP, j * 5 + 2, none⟩ = some (.int .i64 (S.th i).cu) := t2
                  have t3 : wq.drew.cell? ⟨gP, j * 5 + 3, none⟩ = some (.int .i64 (S.th i).cg) := t3
                  have t4 : wq.drew.cell? ⟨gP, j * 5 + 4, none⟩ = some (.int .i64 (S.th i).m) := t4
                  go_region_held3 (fun W => W.cell? ⟨w.heap.size, 0, none⟩ = some (.int .i64 cu) ∧ W.cell? ⟨w.heap.size, 1, none⟩ = some (.int .i64 cg) ∧ W.cell? ⟨r, 25, none⟩ = some (.slice (some ⟨gP, 0, none⟩) n cP) ∧ W.cell? ⟨gP, j * 5, none⟩ = some (.int .i64 (S.th i).u) ∧ W.cell? ⟨gP, j * 5 + 1, none⟩ = some (.int .i64 (S.th i).g) ∧ W.cell? ⟨gP, j * 5 + 2, none⟩ = some (.int .i64 (S.th i).cu) ∧ W.cell? ⟨gP, j * 5 + 3, none⟩ = some (.int .i64 (S.th i).cg) ∧ W.cell? ⟨gP, j * 5 + 4, none⟩ = some (.int .i64 (S.th i).m)) (first | ((repeat' (with_reducible apply And.intro)) <;> assumption)) (first | (go_at_call 50; refine (HB _).mono ?_; rintro e w3 ⟨rfl, hG3⟩; have az0 := (hG3.cell (p := ⟨w.heap.size, 0, none⟩) kl0 (fun f => f)).trans z0; have az1 := (hG3.cell (p := ⟨w.heap.size, 1, none⟩) kl0 (fun f => f)).trans z1; have at25 := (hG3.cell (p := ⟨r, 25, none⟩) kl1 (fun f => f)).trans t25; have at0 := (hG3.cell (p := ⟨gP, j * 5, none⟩) kl2 (fun f => f)).trans t0; have at1 := (hG3.cell (p := ⟨gP, j * 5 + 1, none⟩) kl2 (fun f => f)).trans t1; have at2 := (hG3.cell (p := ⟨gP, j * 5 + 2, none⟩) kl2 (fun f => f)).trans t2; have at3 := (hG3.cell (p := ⟨gP, j * 5 + 3, none⟩) kl2 (fun f => f)).trans t3; have at4 := (hG3.cell (p := ⟨gP, j * 5 + 4, none⟩) kl2 (fun f => f)).trans t4))
                  clear z0 az0 z1 az1 t25 at25 t0 at0 t1 at1 t2 at2 t3 at3 t4 at4
                  have cI := HLI.out _ ((Gr.refl wq (fun _ => False)).drew.next hG3)
                  go_wp2
                  go_ret3
                  have e : g = ((ident, false, 0), S) := by
                    rw [← HGT.out, HNM.out]
                    dsimp only
                    rw [if_neg HNX.out, if_pos HMB.out, HI2.out]
                  rw [e]
                  exact ⟨rfl, HX.out _ ((hGa.next hGx).next (hGq.drew.next hG3)), ((hGa.next hGx).next (hGq.drew.next hG3)).no'⟩
          · have hkx' : ((S.th i).key != key) = true := by simp [hkx]
            have HKX := Lib.hid hkx
            clear hkx
            go_wp2
            go_roundw
            case rel =>
              refine ⟨k + 1, by omega, by go_num, hGr.next hGq, fun _ => hkey, fun j hj => ?_⟩
              rw [HT.out] at hj
              rcases List.mem_append.1 hj with h | h
              · exact HNO.out j h
              · rw [List.mem_singleton.1 h]; exact HKX.out
            case measure => simp [intOf]; omega
        · have hA0 := hA
          have hnm : nmd S key = none := find_miss (fun hk1 j hj => HNO.out j (by
            have hkm : k = m := by
              rcases Nat.lt_or_ge k m with h | h
              · exact absurd ⟨h, hk1⟩ hlt
              · omega
            rw [hkm, ← HM.out, show S.ids.length = (hl S).length from by show ((hl S).map (idOf S)).length = _; simp, List.take_length]
            exact hj))
          have HNM := Lib.hid hnm
          have s24 := rf24 hA
          have hAL := hA.lt
          have hbc := hGx.blk hb0 (fun f => f)
          have hbl := hbc.lt
          have HBC := Lib.hid hbc
          have hadd := radd r S V (.slice AK K.length cK) pv uv HOK.out K.length (mkT cu cg key flags v) 
          have HADD := Lib.hid hadd
          clear hnm hbc hadd
          have hways : (k < m ∧ key = 0) ∨ (k = m ∧ key = 0) ∨ (k = m ∧ key ≠ 0) := by
            by_cases h0 : key = 0
            · rcases Nat.lt_or_ge k m with h | h
              · exact .inl ⟨h, h0⟩
              · exact .inr (.inl ⟨by omega, h0⟩)
            · rcases Nat.lt_or_ge k m with h | h
              · exact absurd ⟨h, h0⟩ hlt
              · exact .inr (.inr ⟨by omega, h0⟩)
          have hcrs : (crB flags = true ∧ (flags / 512 % 2 == 0) = false) ∨ (crB flags = false ∧ (flags / 512 % 2 == 0) = true) := by
            unfold crB
            rcases (show flags / 512 % 2 = 0 ∨ flags / 512 % 2 = 1 by omega) with h | h
            · right; rw [h]; exact ⟨rfl, rfl⟩
            · left; rw [h]; exact ⟨rfl, rfl⟩
          have HE : Hid (key = 0 ∨ crB flags = true → g = ((S.addId, decide (S.addE = 0), S.addE), S.addS (mkT cu cg key flags v))) := Lib.hid (fun h => by
            rw [← HGT.out, HNM.out]
            dsimp only
            rw [if_pos h])
          have HE2 : Hid (¬ (key = 0 ∨ crB flags = true) → g = ((0, false, 110), S)) := Lib.hid (fun h => by
            rw [← HGT.out, HNM.out]
            dsimp only
            rw [if_neg h])
          have HAX := Lib.hid hA
          have hGz := hGa.next hGx
          have HGZ := Lib.hid hGz
          have hmk : ∀ W, Calls Tryz.prog 52 #[.agg #[.int .i64 cu, .int .i64 cg], .int .i64 (flags % 512)] W fun e w' => e = .returned (.tuple #[.agg #[.int .i64 cu, .int .i64 cg, .int .i64 cu, .int .i64 cg, .int .i64 (flags % 512)], .int .i64 0]) ∧ Same W w' := fun W => by
            have := make_r cu cg (flags % 512) W
            unfold makeV at this
            rwa [if_pos HP.out] at this
          have HMK := Lib.hid hmk
          have hKN : K.length ≤ 900 := by omega
          clear hA hA0 hlt hGr hGx hGz hmk
          have HRL := Lib.hid (show ∀ W, Same wr W → Rf W r S V (.slice AK K.length cK) pv uv from fun W hW => (HAX.out.same hW).rf)
          by_cases hab : key ≠ 0 ∧ crB flags = false
          · obtain ⟨hk1, hcb⟩ := hab
            have hkm : k = m := by
              rcases hways with h | h | h
              · exact absurd h.2 hk1
              · exact absurd h.2 hk1
              · exact h.1
            have e := HE2.out (fun h => by
              rcases h with h | h
              · exact hk1 h
              · rw [hcb] at h; cases h)
            have HEE := Lib.hid e
            have hc2 : (flags / 512 % 2 == 0) = true := by
              rcases hcrs with ⟨h, _⟩ | ⟨_, h⟩
              · rw [hcb] at h; cases h
              · exact h
            have hkey' : (key != 0) = true := by simp [hk1]
            clear e hcrs hways hcb hk1
            subst hkm
            go_wp2
            go_ret3
            rw [HEE.out]
            exact ⟨rfl, HX.out _ HGZ.out, HGZ.out.no'⟩
          · have hor : key = 0 ∨ crB flags = true := by
              by_cases h0 : key = 0
              · exact .inl h0
              · right
                cases hc : crB flags
                · exact absurd ⟨h0, hc⟩ hab
                · rfl
            have hg := HE.out hor
            have HGE := Lib.hid hg
            clear hg
            have hw2 : (k < m ∧ key = 0) ∨ (k = m ∧ key = 0) ∨ (k = m ∧ (key != 0) = true ∧ (flags / 512 % 2 == 0) = false) := by
              rcases hways with h | h | ⟨h1, h2⟩
              · exact .inl h
              · exact .inr (.inl h)
              · refine .inr (.inr ⟨h1, by simp [h2], ?_⟩)
                rcases hor with h | h
                · exact absurd h h2
                · rcases hcrs with ⟨_, h3⟩ | ⟨h3, _⟩
                  · exact h3
                  · rw [h3] at h; cases h
            clear hways hcrs hor hab
            cases hfr : S.free with
            | none =>
              have e1 : S.addE = 101 := by unfold St.addE; rw [hfr]
              have e2 : S.addId = 0 := by unfold St.addId; rw [hfr]
              have e3 : ∀ z, S.addS z = S := fun z => by unfold St.addS; rw [hfr]
              have e4 : ∀ v, rV S V v = V := fun v => by unfold rV; rw [hfr]
              have hg := HGE.out
              rw [e1, e2, e3] at hg
              have HGG := Lib.hid hg
              have hadd := HADD.out
              rw [e1, e2, e3, e4] at hadd
              have HAD := Lib.hid hadd
              clear hadd hg e1 e2 e3 e4 hfr
              rcases hw2 with ⟨h1, hkz⟩ | ⟨rfl, hkz⟩ | ⟨rfl, h1, h2⟩
              all_goals
                try (have hkz2 : (key != 0) = false := by simp [hkz])
                try clear hkz
                go_wp2_with fail
                have t24 : wr.drew.cell? ⟨r, 24, none⟩ = some (.slice AK K.length cK) := s24
                go_region_held3 (fun W => W.cell? ⟨r, 24, none⟩ = some (.slice AK K.length cK)) (first | assumption) (first | (go_at_call 51; refine (HAD.out _ (HRL.out _ ((Gr.refl _ _).drew))).mono ?_; rintro e w4 ⟨rfl, hG4, hrf4⟩; have a24 : w4.cell? ⟨r, 24, none⟩ = some (.slice AK K.length cK) := Blk.cell hrf4 24))
                go_wp2
                go_ret3
                have hG5 : Gr wr w4 (fun k => k = r) := hG4
                rw [HGG.out]
                exact ⟨rfl, ⟨V, K, P, U, _, pv, uv, HAX.out.setR hG5 hrf4 HOK.out, Ha.out, by omega⟩, HGZ.out.no'.trans hG5 (fun k hk e => by omega)⟩
            | some i =>
              have e1 : S.addE = 0 := by unfold St.addE; rw [hfr]
              have hg := HGE.out
              rw [e1] at hg
              have HGG := Lib.hid hg
              have hadd := HADD.out
              rw [e1] at hadd
              have HAD := Lib.hid hadd
              have HFR := Lib.hid hfr
              clear hadd hg e1 hfr
              rcases hw2 with ⟨h1, hkz⟩ | ⟨rfl, hkz⟩ | ⟨rfl, h1, h2⟩
              all_goals
                try (have hkz2 : (key != 0) = false := by simp [hkz])
                try clear hkz
                go_wp2_with fail
                have t24 : wr.drew.cell? ⟨r, 24, none⟩ = some (.slice AK K.length cK) := s24
                go_region_held3 (fun W => W.cell? ⟨r, 24, none⟩ = some (.slice AK K.length cK)) (first | assumption) (first | (go_at_call 51; refine (HAD.out _ (HRL.out _ ((Gr.refl _ _).drew))).mono ?_; rintro e w4 ⟨rfl, hG4, hrf4⟩; have a24 : w4.cell? ⟨r, 24, none⟩ = some (.slice AK K.length cK) := Blk.cell hrf4 24))
                have hG5 : Gr wr w4 (fun k => k = r) := hG4
                have hRS := HAX.out.setR hG5 hrf4 (HOK.out.addS _)
                have hbc4 := hG5.blk HBC.out (fun e => by omega)
                have y0 : w4.cell? ⟨w.heap.size, 0, none⟩ = some (Value.int .i64 cu) := hbc4.cell 0
                have y1 : w4.cell? ⟨w.heap.size, 1, none⟩ = some (Value.int .i64 cg) := hbc4.cell 1
                have HRS := Lib.hid hRS
                clear hbc4 hRS t24 a24 s24 hrf4 hG4
                go_wp2_with fail
                refine (HMK.out _).mono ?_; rintro e w5 ⟨rfl, hG6⟩
                clear y0 y1
                have hx5 : RX w5 r (S.addS (mkT cu cg key flags v)) (rV S V K.length) K P U (.slice AK K.length cK) pv uv := RX.same ⟨HRS.out.rf, HRS.out.rk, by have := HRS.out.rp; exact this, by have := HRS.out.ru; exact this, HRS.out.ku⟩ hG6
                have hLP := HRS.out.lp
                have hLU := HRS.out.lu
                have hr5 := hx5.lt
                have s24 : w5.cell? ⟨r, 24, none⟩ = some (.slice AK K.length cK) := Blk.cell hx5.rf 24
                have hxb := hx5.same (Gr.a1 w5 (.cells #[.int .i64 cu, .int .i64 cg, .int .i64 cu, .int .i64 cg, .int .i64 (flags % 512)] 39))
                have hbox : Blk (w5.alloc (.cells #[.int .i64 cu, .int .i64 cg, .int .i64 cu, .int .i64 cg, .int .i64 (flags % 512)] 39)) w5.heap.size 39 #[.int .i64 cu, .int .i64 cg, .int .i64 cu, .int .i64 cg, .int .i64 (flags % 512)] := Blk.new _ _ _ _ rfl
                have hkvl : ∀ j, (Value.slice AK K.length cK).ownBlock = some j → j < w5.heap.size := fun j e => own_lt hx5.rk e
                have hpvl : ∀ j, pv.ownBlock = some j → j < w5.heap.size := fun j e => own_lt hx5.rp e
                have huvl : ∀ j, uv.ownBlock = some j → j < w5.heap.size := fun j e => own_lt hx5.ru e
                have HLX := Lib.hid (⟨hLP, hLU, hkvl, hpvl, huvl⟩ : P.length = K.length ∧ U.length = K.length ∧ _ ∧ _ ∧ _)
                have hPN : P.length ≤ 900 := by omega
                have hUN : U.length ≤ 900 := by omega
                have hz5 : (w5.alloc (.cells #[.int .i64 cu, .int .i64 cg, .int .i64 cu, .int .i64 cg, .int .i64 (flags % 512)] 39)).heap.size = w5.heap.size + 1 := by simp
                clear hLP hLU hkvl hpvl huvl
                go_wp2_with (at_builtin; refine wpList_append_lies _ rfl _ _ 31 rfl (r + 1) 3 i0 (.int .i64 0) 1 8 Tryz.underlying31 hi hz0 hz1 hz2 rfl (by decide) _ _ _ rfl (hxb.rk.alloc _) ⟨w5.heap.size + 1, 0, none⟩ 1 1 [.int .i64 key] rfl rfl (cells_at _ _ hz5 [.int .i64 key] _) (by simp [Value.oneCell']) (by decide) (by unfold maxLen; omega) (by omega) (by simp; omega) _ rfl ?_; intro gK capK wK hownK hgrowK hatK hltK; have hbK := (hxb.grown hxb.rk hgrowK 24 (.slice (some ⟨gK, 0, none⟩) (K.length + 1) capK)).1; have cK24 : wK.cell? ⟨r, 24, none⟩ = some (.slice AK K.length cK) := hbK.cell 24; have fK24 := hbK.frozen 24)
                have hx6 := hxb.addK hownK hgrowK (by rcases hatK with h | h; exact .inl h.symm; exact .inr (by rw [h]; rfl))
                have hG6k := (hxb.grown hxb.rk hgrowK 24 (.slice (some ⟨gK, 0, none⟩) (K.length + 1) capK)).2
                have hbox6 : Blk (wK.setCell ⟨r, 24, none⟩ (.slice (some ⟨gK, 0, none⟩) (K.length + 1) capK)) w5.heap.size 39 #[.int .i64 cu, .int .i64 cg, .int .i64 cu, .int .i64 cg, .int .i64 (flags % 512)] := ((hbox.alloc _).grown hgrowK (fun e => by have := HLX.out.2.2.1 _ e.symm; omega)).far (p := ⟨r, 24, none⟩) (by show w5.heap.size ≠ r; omega) _
                clear hgrowK hownK hatK hbK cK24 fK24
                generalize wK.setCell ⟨r, 24, none⟩ (.slice (some ⟨gK, 0, none⟩) (K.length + 1) capK) = w6 at *
                have s25 : w6.drew.cell? ⟨r, 25, none⟩ = some pv := Blk.cell hx6.rf 25
                have bo0 : w6.drew.cell? ⟨w5.heap.size, 0, none⟩ = some (.int .i64 cu) := hbox6.cell 0
                have bo1 : w6.drew.cell? ⟨w5.heap.size, 1, none⟩ = some (.int .i64 cg) := hbox6.cell 1
                have bo2 : w6.drew.cell? ⟨w5.heap.size, 2, none⟩ = some (.int .i64 cu) := hbox6.cell 2
                have bo3 : w6.drew.cell? ⟨w5.heap.size, 3, none⟩ = some (.int .i64 cg) := hbox6.cell 3
                have bo4 : w6.drew.cell? ⟨w5.heap.size, 4, none⟩ = some (.int .i64 (flags % 512)) := hbox6.cell 4
                have hr6 : r < w6.heap.size := hx6.lt
                have hb6 := hbox6.lt
                have hpr : (w6.alloc (.cells #[.int .i64 cu, .int .i64 cg, .int .i64 cu, .int .i64 cg, .int .i64 (flags % 512)] 39)).drew.ownsRow (r + 1) 39 5 pv P.length (PermsL P) := World.ownsRow.alloc hx6.rp _
                have HB6 : Blk (w6.alloc (.cells #[.int .i64 cu, .int .i64 cg, .int .i64 cu, .int .i64 cg, .int .i64 (flags % 512)] 39)).drew w6.heap.size 39 #[.int .i64 cu, .int .i64 cg, .int .i64 cu, .int .i64 cg, .int .i64 (flags % 512)] := Blk.new w6 _ _ _ rfl
                have hnP : ∀ (j : Nat) (u : Value), (permCells (⟨cu, cg, cu, cg, flags % 512, key, v⟩ : Th Int))[j]? = some u → (w6.alloc (.cells #[.int .i64 cu, .int .i64 cg, .int .i64 cu, .int .i64 cg, .int .i64 (flags % 512)] 39)).drew.cell? ((⟨w6.heap.size, 0, none⟩ : Addr).add j) = some u := fun j u hj => by
                  rw [Go.WideShapes.add_plain, Blk.cell HB6]
                  simpa [permCells] using hj
                have hn1 : ∀ u ∈ permCells (⟨cu, cg, cu, cg, flags % 512, key, v⟩ : Th Int), u.oneCell' = true := by simp [permCells, Value.oneCell']
                have hPm : P.length + 1 ≤ maxLen := by unfold maxLen; omega
                have hPb : (P.length + 1) * 40 ≤ 140737488355328 := by omega
                have hPr : r + 1 ≤ (w6.alloc (.cells #[.int .i64 cu, .int .i64 cg, .int .i64 cu, .int .i64 cg, .int .i64 (flags % 512)] 39)).drew.heap.size := by show r + 1 ≤ (w6.alloc _).heap.size; simp; omega
                have hgP : ∀ wP (gP capP : Nat), (w6.alloc (.cells #[.int .i64 cu, .int .i64 cg, .int .i64 cu, .int .i64 cg, .int .i64 (flags % 512)] 39)).drew.grownBy wP pv.ownBlock → Blk wP r 34 (refCells (S.addS (mkT cu cg key flags v)) (rV S V K.length) (.slice (some ⟨gK, 0, none⟩) (K.length + 1) capK) pv uv) := fun wP gP capP hh => (RX.grown (w := w6.drew) (o := .cells #[.int .i64 cu, .int .i64 cg, .int .i64 cu, .int .i64 cg, .int .i64 (flags % 512)] 39) (hx6.same (Gr.refl w6 (fun _ => False)).drew) (hx6.same (Gr.refl w6 (fun _ => False)).drew).rp hh 25 (.slice (some ⟨gP, 0, none⟩) (P.length + 1) capP)).1
                have s25b : (w6.alloc (.cells #[.int .i64 cu, .int .i64 cg, .int .i64 cu, .int .i64 cg, .int .i64 (flags % 512)] 39)).drew.cell? ⟨r, 25, none⟩ = some pv := (World.cell?_alloc_lt w6 _ (a := ⟨r, 25, none⟩) hr6).trans s25
                have HN1 := Lib.hid hnP
                have HN2 := Lib.hid hn1
                have HN3 := Lib.hid hgP
                have HN4 := Lib.hid hpr
                clear hnP hn1 hgP hpr
                go_region_law (refine step_append_lies _ rfl (.tmp 146) (.tmp 148) 32 rfl (r + 1) 39 iP (.agg #[.int .i64 0, .int .i64 0, .int .i64 0, .int .i64 0, .int .i64 0]) 5 40 Tryz.underlying32 hiP hP0 hP1 hP2 rfl (by decide) pv P.length (PermsL P) (by simp [Act.eval, Act.put]) HN4.out ⟨w6.heap.size, 0, none⟩ 1 1 (permCells (⟨cu, cg, cu, cg, flags % 512, key, v⟩ : Th Int)) (by simp [Act.eval, Act.put]) rfl HN1.out HN2.out (by decide) hPm hPb hPr _ rfl ?_; intro gP capP wP hownP hgrowP hatP hltP; have hbP := HN3.out wP gP capP hgrowP; have cP25 : wP.cell? ⟨r, 25, none⟩ = some pv := hbP.cell 25; have fP25 : wP.frozen? ⟨r, 25, none⟩ = false := hbP.frozen 25)
                all_goals
                  have hxd := hx6.same (Gr.refl w6 (fun _ => False)).drew
                  have hx7 := hxd.addP (o := .cells #[.int .i64 cu, .int .i64 cg, .int .i64 cu, .int .i64 cg, .int .i64 (flags % 512)] 39) (p := ⟨cu, cg, cu, cg, flags % 512, key, v⟩) hownP hgrowP
                  have hG7 : Gr w6 (wP.setCell ⟨r, 25, none⟩ (.slice (some ⟨gP, 0, none⟩) (P.length + 1) capP)) (fun k => r ≤ k) := (hxd.grown (o := .cells #[.int .i64 cu, .int .i64 cg, .int .i64 cu, .int .i64 cg, .int .i64 (flags % 512)] 39) hxd.rp hgrowP 25 (.slice (some ⟨gP, 0, none⟩) (P.length + 1) capP)).2
                  clear hxd hgrowP hownP hatP hbP cP25 fP25 hltP s25 s25b bo0 bo1 bo2 bo3 bo4 HB6 HN1 HN2 HN3 HN4
                  generalize wP.setCell ⟨r, 25, none⟩ (.slice (some ⟨gP, 0, none⟩) (P.length + 1) capP) = w7 at *
                  have s26 : w7.cell? ⟨r, 26, none⟩ = some uv := Blk.cell hx7.rf 26
                  have hr7 := hx7.lt
                  go_wp2_with (at_builtin; refine wpList_append_lies _ rfl _ _ 31 rfl (r + 1) 3 i0 (.int .i64 0) 1 8 Tryz.underlying31 hi hz0 hz1 hz2 rfl (by decide) _ _ _ rfl (hx7.ru.alloc _) ⟨w7.heap.size, 0, none⟩ 1 1 [.int .i64 v] rfl rfl (cells_at _ _ rfl [.int .i64 v] _) (by simp [Value.oneCell']) (by decide) (by unfold maxLen; omega) (by omega) (by simp; omega) _ rfl ?_; intro gU capU wU hownU hgrowU hatU hltU; have hbU := (hx7.grown hx7.ru hgrowU 26 (.slice (some ⟨gU, 0, none⟩) (U.length + 1) capU)).1; have cU26 : wU.cell? ⟨r, 26, none⟩ = some uv := hbU.cell 26; have fU26 : wU.frozen? ⟨r, 26, none⟩ = false := hbU.frozen 26)
                  go_ret3
                  have hx8 := hx7.addU hownU hgrowU (by rcases hatU with h | h; exact .inl h.symm; exact .inr (by rw [h]; rfl))
                  have hG8 := (hx7.grown hx7.ru hgrowU 26 (.slice (some ⟨gU, 0, none⟩) (U.length + 1) capU)).2
                  have hall := (((hG6.alloc (.cells #[.int .i64 cu, .int .i64 cg, .int .i64 cu, .int .i64 cg, .int .i64 (flags % 512)] 39)).no'.trans hG6k (fun _ _ h => h)).trans hG7 (fun _ _ h => h)).trans hG8 (fun _ _ h => h)
                  rw [HGG.out]
                  have hAgr : Agr (S.addS (mkT cu cg key flags v)) (rV S V K.length) (K ++ [key]) (P ++ [(⟨cu, cg, cu, cg, flags % 512, key, v⟩ : Th Int)]) (U ++ [v]) := agr_add Ha.out HLX.out.1 HLX.out.2.1 HFR.out (mkT cu cg key flags v) (⟨cu, cg, cu, cg, flags % 512, key, v⟩ : Th Int) rfl
                  refine ⟨rfl, ⟨rV S V K.length, K ++ [key], P ++ [(⟨cu, cg, cu, cg, flags % 512, key, v⟩ : Th Int)], U ++ [v], _, _, _, ⟨hx8.rf, hx8.rk, hx8.rp, hx8.ru, by simp [HLX.out.1], by simp [HLX.out.2.1], hx8.ku, HOK.out.addS _, HRS.out.g.trans hall (fun k hk e => by have := HRS.out.hr; omega), HRS.out.hr⟩, hAgr, by simp; omega⟩, ?_⟩
                  exact HGZ.out.no'.trans ((hG5.mono (Y := fun k => r ≤ k) (fun _ _ e => by omega)).trans hall (fun _ _ h => h)) (fun _ _ h => h)
end
end Go.Proofs
