/- IpcOwners. -/
import Derived.Test.YthijminlalddcaaDoorHB
set_option linter.unusedVariables false
set_option linter.unusedSimpArgs false
namespace Go.Proofs
open Go.RowKit Go.Shelf
attribute [local go_sem] Oper.semAt_some

theorem nget_eqI {w0 w : World} {n h : Nat} {S : St Int} (x : NSI w0 w n h S) (cu cg key flags : Int) (v : Int) (hfl : -9223372036854775808 ≤ flags ∧ flags < 9223372036854775808) (id : Int) (mk : Bool) (E : Int) (S' : St Int) (hr : gt S cu cg key flags v = ((id, mk, E), S')) :
    Calls Tryd.prog 15 #[.pointer (some ⟨n, 0, none⟩), .agg #[.int .i64 cu, .int .i64 cg], .int .i64 key, .int .i64 flags, .int .i64 v] w fun e w' => e = .returned (.tuple #[.int .i64 id, .bool mk, .int .i64 E]) ∧ NSI w0 w' n h S' ∧ Gr w w' (fun j => j = h) := by
  have := nget_atI x cu cg key flags v hfl id mk E (by rw [hr])
  rwa [hr] at this
theorem nget_eqS {w0 w : World} {n h : Nat} {S : St ByteArray} (x : NSS w0 w n h S) (cu cg key flags : Int) (v : ByteArray) (hfl : -9223372036854775808 ≤ flags ∧ flags < 9223372036854775808) (id : Int) (mk : Bool) (E : Int) (S' : St ByteArray) (hr : gt S cu cg key flags v = ((id, mk, E), S')) :
    Calls Tryd.prog 11 #[.pointer (some ⟨n, 0, none⟩), .agg #[.int .i64 cu, .int .i64 cg], .int .i64 key, .int .i64 flags, .string v] w fun e w' => e = .returned (.tuple #[.int .i64 id, .bool mk, .int .i64 E]) ∧ NSS w0 w' n h S' ∧ Gr w w' (fun j => j = h) := by
  have := nget_atS x cu cg key flags v hfl id mk E (by rw [hr])
  rwa [hr] at this
theorem nIds_at {w0 w : World} {n h : Nat} {S : St Int} (x : NSI w0 w n h S) (len : Nat) (hl : S.ids.length = len) :
    Calls Tryd.prog 19 #[.pointer (some ⟨n, 0, none⟩)] w fun e w' => ∃ A c, e = .returned (.slice A len c) ∧ RdB w' w.heap.size A S.ids ∧ NSI w0 w' n h S ∧ Same w w' :=
  (nIds_f x).mono fun e w' ⟨v, he, hr, hx, hG⟩ => by
    obtain ⟨A, c, rfl, h⟩ := own_slice hr
    exact ⟨A, c, by rw [he, hl], h, hx, hG⟩
theorem one0T {α : Type} (z t : Th α) : (one z 0 t true).getT 0 z = t := by simpa using one_getT z 0 t
theorem one0E {α : Type} (z t : Th α) : (one z 0 t true).getE 0 = 0 := by simpa using one_getE z 0 t
theorem one0S {α : Type} (z t t' : Th α) : (one z 0 t true).setI 0 t' = one z 0 t' true := by simpa using one_setI z 0 t t'
theorem one0R {α : Type} (z t : Th α) : (one z 0 t true).rmI 0 z = one z 1 z false := by simpa using one_rmI z 0 t

theorem owns_f {a b c : Int} (ha : 1 ≤ a) (hb : 1 ≤ b) (hc : 1 ≤ c) (h1 : c ≠ a) (h2 : c ≠ b) (g pg pcg m : Int) : ownsB c g b pg a pcg m = false := by
  unfold ownsB
  rw [show (c == 0) = false by simp; omega, show (c == b) = false by simp; omega, show (c == a) = false by simp; omega]
  simp
theorem owns_u {a b : Int} (ha : 0 ≤ a ∧ a ≤ 65535) (hb : 0 ≤ b ∧ b ≤ 65535) (m : Int) (hm : 0 ≤ m ∧ m ≤ 511) : ownsB b 0 b 0 a 0 m = true := by
  unfold ownsB
  rw [areB2 hb.1 hb.2 (by omega) (by omega), permB5 hb (by omega) ha (by omega) hm]
  simp
theorem owns_c {a b : Int} (ha : 0 ≤ a ∧ a ≤ 65535) (hb : 0 ≤ b ∧ b ≤ 65535) (m : Int) (hm : 0 ≤ m ∧ m ≤ 511) : ownsB a 0 b 0 a 0 m = true := by
  unfold ownsB
  rw [areB2 ha.1 ha.2 (by omega) (by omega), permB5 hb (by omega) ha (by omega) hm]
  simp
theorem st_no {a b c u m : Int} (ha : 1 ≤ a ∧ a ≤ 65535) (hb : 1 ≤ b ∧ b ≤ 65535) (hc : 1 ≤ c ∧ c ≤ 65535) (hu : 1 ≤ u ∧ u ≤ 65535) (h1 : c ≠ a) (h2 : c ≠ b) (hm : 0 ≤ m ∧ m ≤ 511) : stE c 0 b 0 a 0 0 u 0 m = 51 := by
  unfold stE
  rw [if_pos ⟨areB2 (by omega) hc.2 (by omega) (by omega), permB5 (by omega) (by omega) (by omega) (by omega) (by omega), permB5 (by omega) (by omega) (by omega) (by omega) hm⟩, owns_f ha.1 hb.1 hc.1 h1 h2]
  rfl

set_option maxRecDepth 100000 in
set_option maxHeartbeats 4000000 in
theorem ipcOwners_walk (a b c : Int) (w : World) (he : EtH w) : Calls Tryd.prog 6 #[.int .i64 a, .int .i64 b, .int .i64 c] w fun e w' => e = .returned (.bool true) ∧ Below w.heap.size w w' := by
  by_cases hg : 1 ≤ a ∧ a ≤ 65535 ∧ 1 ≤ b ∧ b ≤ 65535 ∧ 1 ≤ c ∧ c ≤ 65535 ∧ c ≠ a ∧ c ≠ b
  · obtain ⟨a1, a2, b1, b2, c1, c2, hca, hcb⟩ := hg
    have ha := And.intro a1 a2
    have hb := And.intro b1 b2
    have hc := And.intro c1 c2
    have g1 : gt St.zeroI a 0 5 512 1 = ((0, true, 0), one zthI 0 ⟨a, 0, a, 0, 0, 5, 1⟩ true) := by
      rw [zero_oneI, gt_made (areB2 (by omega) a2 (by omega) (by omega)) (by omega) (one_nmd0 _ _ _ _) (.inr (by decide)), one_addId, one_addE, one_add]
      rfl
    have e2 : nsE ((one zthI 0 ⟨a, 0, a, 0, 0, 5, 1⟩ true).getT 0 zthI) ((one zthI 0 ⟨a, 0, a, 0, 0, 5, 1⟩ true).getE 0) c 0 b 0 0 = 51 := by rw [one0T, one0E]; unfold nsE; rw [if_neg (by simp)]; exact st_no ha ha hc hb hca hca (by omega)
    have e3 : nsE ((one zthI 0 ⟨a, 0, a, 0, 0, 5, 1⟩ true).getT 0 zthI) ((one zthI 0 ⟨a, 0, a, 0, 0, 5, 1⟩ true).getE 0) a 0 b 0 0 = 0 := by
      rw [one0T, one0E]; unfold nsE stE; dsimp only; rw [if_neg (by simp), if_pos ⟨areB2 (by omega) a2 (by omega) (by omega), permB5 (by omega) (by omega) (by omega) (by omega) (by omega), permB5 (by omega) (by omega) (by omega) (by omega) (by omega)⟩, if_pos (owns_u (by omega) (by omega) 0 (by omega))]
    have s3 : (if (0 : Int) = 0 then (one zthI 0 ⟨a, 0, a, 0, 0, 5, 1⟩ true).setI 0 (((one zthI 0 ⟨a, 0, a, 0, 0, 5, 1⟩ true).getT 0 zthI).setP b 0 0) else (one zthI 0 ⟨a, 0, a, 0, 0, 5, 1⟩ true)) = one zthI 0 ⟨b, 0, a, 0, 0, 5, 1⟩ true := by rw [if_pos rfl, one0S, one0T]; rfl
    have e4 : rmEI ((one zthI 0 ⟨b, 0, a, 0, 0, 5, 1⟩ true).getT 0 zthI) ((one zthI 0 ⟨b, 0, a, 0, 0, 5, 1⟩ true).getE 0) c 0 = 51 := by rw [one0T, one0E]; unfold rmEI; rw [if_neg (by simp), owns_f a1 b1 c1 hca hcb]; rfl
    have v4 : rmVI ((one zthI 0 ⟨b, 0, a, 0, 0, 5, 1⟩ true).getT 0 zthI) ((one zthI 0 ⟨b, 0, a, 0, 0, 5, 1⟩ true).getE 0) c 0 = 0 := by unfold rmVI; rw [e4]; rfl
    have e5 : nsE ((one zthI 0 ⟨b, 0, a, 0, 0, 5, 1⟩ true).getT 0 zthI) ((one zthI 0 ⟨b, 0, a, 0, 0, 5, 1⟩ true).getE 0) b 0 b 0 511 = 0 := by
      rw [one0T, one0E]; unfold nsE stE; dsimp only; rw [if_neg (by simp), if_pos ⟨areB2 (by omega) b2 (by omega) (by omega), permB5 (by omega) (by omega) (by omega) (by omega) (by omega), permB5 (by omega) (by omega) (by omega) (by omega) (by omega)⟩, if_pos (owns_u (by omega) (by omega) 0 (by omega))]
    have s5 : (if (0 : Int) = 0 then (one zthI 0 ⟨b, 0, a, 0, 0, 5, 1⟩ true).setI 0 (((one zthI 0 ⟨b, 0, a, 0, 0, 5, 1⟩ true).getT 0 zthI).setP b 0 511) else (one zthI 0 ⟨b, 0, a, 0, 0, 5, 1⟩ true)) = one zthI 0 ⟨b, 0, a, 0, 511, 5, 1⟩ true := by rw [if_pos rfl, one0S, one0T]; rfl
    have e6 : rmEI ((one zthI 0 ⟨b, 0, a, 0, 511, 5, 1⟩ true).getT 0 zthI) ((one zthI 0 ⟨b, 0, a, 0, 511, 5, 1⟩ true).getE 0) a 0 = 0 := by rw [one0T, one0E]; unfold rmEI; dsimp only; rw [if_neg (by simp), if_pos (owns_c (by omega) (by omega) 511 (by omega))]
    have v6 : rmVI ((one zthI 0 ⟨b, 0, a, 0, 511, 5, 1⟩ true).getT 0 zthI) ((one zthI 0 ⟨b, 0, a, 0, 511, 5, 1⟩ true).getE 0) a 0 = 1 := by unfold rmVI; rw [e6, one0T]; rfl
    have s6 : (if (0 : Int) = 0 then (one zthI 0 ⟨b, 0, a, 0, 511, 5, 1⟩ true).rmI 0 zthI else (one zthI 0 ⟨b, 0, a, 0, 511, 5, 1⟩ true)) = one zthI 1 zthI false := by rw [if_pos rfl, one0R]
    have s2 : (if (51 : Int) = 0 then (one zthI 0 ⟨a, 0, a, 0, 0, 5, 1⟩ true).setI 0 (((one zthI 0 ⟨a, 0, a, 0, 0, 5, 1⟩ true).getT 0 zthI).setP b 0 0) else (one zthI 0 ⟨a, 0, a, 0, 0, 5, 1⟩ true)) = one zthI 0 ⟨a, 0, a, 0, 0, 5, 1⟩ true := by rw [if_neg (by decide)]
    have s4 : (if (51 : Int) = 0 then (one zthI 0 ⟨b, 0, a, 0, 0, 5, 1⟩ true).rmI 0 zthI else (one zthI 0 ⟨b, 0, a, 0, 0, 5, 1⟩ true)) = one zthI 0 ⟨b, 0, a, 0, 0, 5, 1⟩ true := by rw [if_neg (by decide)]
    have Hg1 := Lib.hid g1
    have He2 := Lib.hid e2
    have Hs2 := Lib.hid s2
    have He3 := Lib.hid e3
    have Hs3 := Lib.hid s3
    have He4 := Lib.hid e4
    have Hv4 := Lib.hid v4
    have Hs4 := Lib.hid s4
    have He5 := Lib.hid e5
    have Hs5 := Lib.hid s5
    have He6 := Lib.hid e6
    have Hv6 := Lib.hid v6
    have Hs6 := Lib.hid s6
    clear g1 e2 s2 e3 s3 e4 v4 s4 e5 s5 e6 v6 s6 ha hb hc
    have hca' : (c == a) = false := by simp; omega
    have hcb' : (c == b) = false := by simp; omega
    clear hca hcb
    go_enter Tryd.func6, Tryd.ntmps6
    go_wp2_with fail
    refine (shown_any _ he).mono ?_; rintro e w1 ⟨rfl, hG1⟩
    go_wp2_with fail
    refine (nnew_anyI _ (he.same hG1 (fun f => f))).mono ?_; rintro e w2 ⟨n, h, rfl, x2⟩
    go_wp2_with fail
    refine (nget_eqI x2 a 0 5 512 1 (by omega) 0 true 0 _ Hg1.out).mono ?_; rintro e w3 ⟨rfl, x3, _⟩
    go_wp2_with fail
    refine (nset_atI x3 0 c 0 b 0 0 51 _ He2.out Hs2.out).mono ?_; rintro e w4 ⟨rfl, x4, _⟩
    go_wp2_with fail
    refine (nset_atI x4 0 a 0 b 0 0 0 _ He3.out Hs3.out).mono ?_; rintro e w5 ⟨rfl, x5, _⟩
    go_wp2_with fail
    refine (nremove_atI x5 0 c 0 0 51 _ He4.out Hv4.out Hs4.out).mono ?_; rintro e w6 ⟨rfl, x6, _⟩
    go_wp2_with fail
    refine (nset_atI x6 0 b 0 b 0 511 0 _ He5.out Hs5.out).mono ?_; rintro e w7 ⟨rfl, x7, _⟩
    go_wp2_with fail
    refine (nremove_atI x7 0 a 0 1 0 _ He6.out Hv6.out Hs6.out).mono ?_; rintro e w8 ⟨rfl, x8, _⟩
    go_wp2_with fail
    refine (nIds_at x8 0 (by rw [one_ids0]; rfl)).mono ?_; rintro e w9 ⟨A, cp, rfl, _, x9, _⟩
    go_wp2
    go_ret
    exact ⟨by first | rfl | (simp; done) | (simp; omega), (hG1.next x9.g).below⟩
  · rcases (show a < 1 ∨ (1 ≤ a ∧ b < 1) ∨ (1 ≤ a ∧ 1 ≤ b ∧ c < 1) ∨ (1 ≤ a ∧ 1 ≤ b ∧ 1 ≤ c ∧ 65535 < a) ∨ (1 ≤ a ∧ 1 ≤ b ∧ 1 ≤ c ∧ a ≤ 65535 ∧ 65535 < b) ∨ (1 ≤ a ∧ 1 ≤ b ∧ 1 ≤ c ∧ a ≤ 65535 ∧ b ≤ 65535 ∧ 65535 < c) ∨ (1 ≤ a ∧ 1 ≤ b ∧ 1 ≤ c ∧ a ≤ 65535 ∧ b ≤ 65535 ∧ c ≤ 65535 ∧ c = a) ∨ (1 ≤ a ∧ 1 ≤ b ∧ 1 ≤ c ∧ a ≤ 65535 ∧ b ≤ 65535 ∧ c ≤ 65535 ∧ c ≠ a ∧ c = b) by omega) with h | ⟨h1, h⟩ | ⟨h1, h2, h⟩ | ⟨h1, h2, h3, h⟩ | ⟨h1, h2, h3, h4, h⟩ | ⟨h1, h2, h3, h4, h5, h⟩ | ⟨h1, h2, h3, h4, h5, h6, h⟩ | ⟨h1, h2, h3, h4, h5, h6, h7, h⟩
    all_goals
      first
        | (have h8 : (c == a) = true := by simp [h])
        | (have h8 : (c == b) = true := by simp [h]
           have h9 : (c == a) = false := by simp; omega)
        | skip
      clear hg
      go_enter Tryd.func6, Tryd.ntmps6
      go_wp2_with fail
      refine (shown_any _ he).mono ?_; rintro e w1 ⟨rfl, hG1⟩
      go_wp2
      go_ret
      exact ⟨rfl, hG1.below⟩
end Go.Proofs
