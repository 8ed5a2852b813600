/- Semaphores: Try. -/
import Derived.Test.YtgecoiaidmndkaaDoorF
import Derived.Deep.RegionHeld3
set_option linter.unusedVariables false
set_option linter.unusedSimpArgs false
namespace Go.Proofs
open Go.RowKit Go.Shelf
attribute [local go_sem] Oper.semAt_some
variable {aR aA aW : Addr}

/-- A slice of operations. -/
def Ops (w : World) (A : Option Addr) (m : Nat) (Nm Dl Fl : Nat → Int) : Prop := 0 < m → ∃ g off, A = some ⟨g, off, none⟩ ∧ g < w.heap.size ∧ OpsW w g off m Nm Dl Fl
theorem Ops.same {w w' : World} {A : Option Addr} {m : Nat} {Nm Dl Fl : Nat → Int} (h : Ops w A m Nm Dl Fl) (hG : Same w w') : Ops w' A m Nm Dl Fl := fun hm =>
  let ⟨g, off, e, hg, ho⟩ := h hm; ⟨g, off, e, Nat.lt_of_lt_of_le hg hG.size, ho.gr hG (fun f => f)⟩

set_option maxRecDepth 100000 in
set_option maxHeartbeats 4000000 in
theorem try_arg (xs : List Int) (A : Option Addr) (n c : Nat) (B : Option Addr) (m d : Nat) (w : World) (hn : xs.length = n) (hn8 : n ≤ maxLen) (hm8 : m ≤ maxLen) (hc : Ints w A xs) (h : rightB xs = false ∨ m = 0) :
    Calls Tryd.prog 13 #[.slice A n c, .slice B m d] w fun e w' => e = .returned (.tuple #[.slice none 0 0, .int .i64 0, .int .i64 2]) ∧ w = w' := by
  have HR := right_any xs A n c w hn hn8 hc
  unfold maxLen at hm8
  refine (callsIn_wide (n := 9)).1 ?_
  refine callsIn_of_wp_marks Tryd.func13 rfl trivial ?_ rfl
  simp only [Tryd.ntmps13, List.size_toArray, List.length_cons, List.length_nil, Nat.reduceAdd, Nat.reduceSub, Array.replicate_succ, Array.replicate_zero, List.push_toArray, List.append_toArray, List.nil_append, List.cons_append]
  cases hr : rightB xs
  · rw [hr] at HR
    clear hc h hn hr
    gi_wp2
    refine wpIn_scope ?_
    gi_wp2_with (refine ⟨trivial, ?_⟩; gi_at_call 15; refine (callsIn_wide.2 HR).mono ?_; rintro e w1 ⟨rfl, rfl⟩)
    all_goals
      rw [Exit.noGoto_ret]
      exact ⟨_, results_tmp3 rfl _ _ _, rfl, rfl⟩
  · rw [hr] at HR h
    obtain rfl : m = 0 := by simpa using h
    clear hc h hn hr
    gi_wp2
    refine wpIn_scope ?_
    gi_wp2_with (refine ⟨trivial, ?_⟩; gi_at_call 15; refine (callsIn_wide.2 HR).mono ?_; rintro e w1 ⟨rfl, rfl⟩)
    all_goals
      rw [Exit.noGoto_ret]
      exact ⟨_, results_tmp3 rfl _ _ _, rfl, rfl⟩

set_option maxRecDepth 100000 in
set_option maxHeartbeats 4000000 in
theorem try_big (xs : List Int) (A : Option Addr) (n c : Nat) (B : Option Addr) (m d : Nat) (w : World) (hn : xs.length = n) (hn8 : n ≤ maxLen) (hm8 : m ≤ maxLen) (hc : Ints w A xs) (hr : rightB xs = true) (h : 8 < m) :
    Calls Tryd.prog 13 #[.slice A n c, .slice B m d] w fun e w' => e = .returned (.tuple #[.slice none 0 0, .int .i64 0, .int .i64 130]) ∧ w = w' := by
  have HR := right_any xs A n c w hn hn8 hc
  unfold maxLen at hm8
  rw [hr] at HR
  clear hc hn hr
  have hm0 : ¬ ((m : Int) = 0) := by omega
  refine (callsIn_wide (n := 9)).1 ?_
  refine callsIn_of_wp_marks Tryd.func13 rfl trivial ?_ rfl
  simp only [Tryd.ntmps13, List.size_toArray, List.length_cons, List.length_nil, Nat.reduceAdd, Nat.reduceSub, Array.replicate_succ, Array.replicate_zero, List.push_toArray, List.append_toArray, List.nil_append, List.cons_append]
  gi_wp2
  refine wpIn_scope ?_
  gi_wp2_with (refine ⟨trivial, ?_⟩; gi_at_call 15; refine (callsIn_wide.2 HR).mono ?_; rintro e w1 ⟨rfl, rfl⟩)
  all_goals
    rw [Exit.noGoto_ret]
    exact ⟨_, results_tmp3 rfl _ _ _, rfl, rfl⟩

theorem steps_any (b n c g off m d : Nat) (w : World) : Calls Tryd.prog 27 #[.slice (some ⟨b, 0, none⟩) n c, .slice (some ⟨g, off, none⟩) m d] w fun e w' =>
    e = .returned (.func (.func 31) #[] #[.pointer (some ⟨w.heap.size + 1, 0, none⟩), .pointer (some ⟨w.heap.size, 0, none⟩)]) ∧ Same w w' ∧
    Blk w' w.heap.size 22 #[.slice (some ⟨b, 0, none⟩) n c] ∧ Blk w' (w.heap.size + 1) 23 #[.slice (some ⟨g, off, none⟩) m d] := by
  go_enter Tryd.func27, Tryd.ntmps27
  go_wp2
  go_ret
  exact ⟨rfl, Gr.a2 _ _ _, (Blk.new _ _ _ _ rfl).alloc _, Blk.new _ _ _ _ (by simp)⟩
theorem steps_seq (nn bo bl r g off m c : Nat) (hn : 1 ≤ nn) (Nm Dl Fl : Nat → Int) (xs : List Int) (n : Nat) (hxs : xs.length = n) (hare : areB xs = true) (h8 : n ≤ 8) (hm : m ≤ 8)
    (hNm : ∀ i, i < m → 0 ≤ Nm i ∧ Nm i < n) (hFl : ∀ i, i < m → -9223372036854775808 ≤ Fl i ∧ Fl i < 9223372036854775808) (X : Nat → Prop) (w : World)
    (hS : Sen w aR aA aW) (hXS : ∀ k, X k → ¬ (k = 0 ∨ k = 1 ∨ k = 2 ∨ k = aR.block ∨ k = aA.block ∨ k = aW.block)) (hrS : ¬ (r = 0 ∨ r = 1 ∨ r = 2 ∨ r = aR.block ∨ r = aA.block ∨ r = aW.block))
    (hO : OpsW w g off m Nm Dl Fl) (hR : Blk w r 3 (xs.map (Value.int .i64)).toArray) (hL : Blk w bl 22 #[.slice (some ⟨r, 0, none⟩) n n]) (hB : Blk w bo 23 #[.slice (some ⟨g, off, none⟩) m c])
    (x1 : ¬ X r) (x2 : ¬ X bl) (x3 : ¬ X bo) (x4 : ¬ X g) (n1 : bl ≠ r) (n2 : bo ≠ r) (n3 : g ≠ r) :
    SeqRow Fence.wide nn Tryd.prog 31 #[.pointer (some ⟨bo, 0, none⟩), .pointer (some ⟨bl, 0, none⟩)] (fun x : Nat => #[.int .i64 (x : Nat), errV aR aA aW (er Nm Dl Fl xs x)]) (fun x => x) (KeptX X) m r 3 ((stp Nm Dl Fl xs m).map (Value.int .i64)).toArray w :=
  fun l J Jx W hW hJB hY hJ0 =>
    have hG : Same w W := Gr.of_below hW (fun _ => False)
    steps1_in nn l bo bl r g off m c hn Nm Dl Fl xs n hxs hare h8 hm hNm hFl X J Jx W hY (hS.same hG) hXS hrS (hO.gr hG (fun f => f)) (hG.blk hR (fun f => f)) (hG.blk hL (fun f => f)) (hG.blk hB (fun f => f)) x1 x2 x3 x4 n1 n2 n3 hJ0 hJB
theorem Sen.lt {w : World} (h : Sen w aR aA aW) : 0 < w.heap.size ∧ 1 < w.heap.size ∧ 2 < w.heap.size ∧ aR.block < w.heap.size ∧ aA.block < w.heap.size ∧ aW.block < w.heap.size := by
  obtain ⟨c1, t1, h1⟩ := h.bR
  obtain ⟨c2, t2, h2⟩ := h.bA
  obtain ⟨c3, t3, h3⟩ := h.bW
  exact ⟨World.block_lt_of_cell? _ _ h.g0, World.block_lt_of_cell? _ _ h.g1, World.block_lt_of_cell? _ _ h.g2, (Array.getElem?_eq_some_iff.1 h1).1, (Array.getElem?_eq_some_iff.1 h2).1, (Array.getElem?_eq_some_iff.1 h3).1⟩

theorem hpre_succ {Nm Dl Fl : Nat → Int} {xs : List Int} {pre : List Nat} {x : Nat} (h : ∀ j, j < pre.length → er Nm Dl Fl xs j = 0) (hx : x = pre.length) (he : er Nm Dl Fl xs x = 0) : ∀ j, j < (pre ++ [x]).length → er Nm Dl Fl xs j = 0 := fun j hj => by
  rw [List.length_append] at hj
  rcases Nat.lt_or_ge j pre.length with h1 | h1
  · exact h j h1
  · obtain rfl : j = x := by simp at hj; omega
    exact he
theorem inb_zero (n : Nat) (h : 1 ≤ n) : inB n 0 = true := by unfold inB; simp; omega
theorem inb_succ {n k : Nat} {Nm : Nat → Int} (h : ∀ j, j < k → inB n (Nm j) = true) (hk : inB n (Nm k) = true) : ∀ j, j < k + 1 → inB n (Nm j) = true := fun j hj => by
  rcases Nat.lt_or_ge j k with h1 | h1
  · exact h j h1
  · obtain rfl : j = k := by omega
    exact hk
/-- What Try tells of operations that are some, and not too many, on right values. -/
def TryPost (aR aA aW : Addr) (w : World) (n m : Nat) (Nm Dl Fl : Nat → Int) (xs : List Int) (e : Ending) (w' : World) : Prop :=
  Same w w' ∧
  (((∃ i, i < m ∧ inB n (Nm i) = false) ∧ e = .returned (.tuple #[.slice none 0 0, .int .i64 0, .int .i64 131])) ∨
   ((∀ i, i < m → inB n (Nm i) = true) ∧ ∃ i, i < m ∧ er Nm Dl Fl xs i ≠ 0 ∧ (∀ j, j < i → er Nm Dl Fl xs j = 0) ∧ e = .returned (.tuple #[.slice none 0 0, .int .i64 i, .int .i64 (code (er Nm Dl Fl xs i))])) ∨
   ((∀ i, i < m → inB n (Nm i) = true) ∧ (∀ i, i < m → er Nm Dl Fl xs i = 0) ∧ ∃ b, w.heap.size ≤ b ∧ e = .returned (.tuple #[.slice (some ⟨b, 0, none⟩) n n, .int .i64 0, .int .i64 0]) ∧ Blk w' b 3 ((stp Nm Dl Fl xs m).map (Value.int .i64)).toArray))

set_option maxRecDepth 100000 in
set_option maxHeartbeats 4000000 in
theorem try_any (xs : List Int) (A : Option Addr) (n c : Nat) (B : Option Addr) (m d : Nat) (Nm Dl Fl : Nat → Int) (w : World) (hn : xs.length = n) (hm1 : 1 ≤ m) (hm8 : m ≤ 8) (hc : Ints w A xs) (hr : rightB xs = true) (ho : Ops w B m Nm Dl Fl)
    (hFl : ∀ i, i < m → -9223372036854775808 ≤ Fl i ∧ Fl i < 9223372036854775808) (hS : Sen w aR aA aW) :
    Calls Tryd.prog 13 #[.slice A n c, .slice B m d] w (TryPost aR aA aW w n m Nm Dl Fl xs) := by
  have hr' := hr
  unfold rightB at hr'
  simp at hr'
  obtain ⟨⟨hn1, hn8⟩, hare⟩ := hr'
  rw [hn] at hn1 hn8
  have HR := right_any xs A n c w hn (by unfold maxLen; omega) hc
  obtain ⟨g, off, rfl, hg, hO⟩ := ho (by omega)
  rw [hr] at HR
  clear hr ho
  have HO := Lib.hid hO
  have HC := Lib.hid hc
  have HN := Lib.hid hn
  have HFL := Lib.hid hFl
  have HARE := Lib.hid hare
  clear hO hc hn hFl hare
  have hm0 : ((m : Int) == 0) = false := by simp; omega
  refine (callsIn_wide (n := 9)).1 ?_
  refine callsIn_of_wp_marks Tryd.func13 rfl trivial ?_ rfl
  simp only [Tryd.ntmps13, List.size_toArray, List.length_cons, List.length_nil, Nat.reduceAdd, Nat.reduceSub, Array.replicate_succ, Array.replicate_zero, List.push_toArray, List.append_toArray, List.nil_append, List.cons_append]
  gi_wp2
  refine wpIn_scope ?_
  gi_wp2_with (refine ⟨trivial, ?_⟩; gi_at_call 15; refine (callsIn_wide.2 HR).mono ?_; rintro e w1 ⟨rfl, rfl⟩)
  clear HR
  gi_loopw [30] (fun i wr => ∃ k : Nat, k ≤ m ∧ i = .int .i64 k ∧ Hid (∀ j, j < k → inB n (Nm j) = true) ∧ Same w wr) (fun i _ => m - (intOf i).toNat)
  case atStart => exact ⟨0, by omega, rfl, Lib.hid (fun j hj => by omega), Gr.refl _ _⟩
  case round =>
    obtain ⟨k, hk, rfl, HK, hG⟩ := hrel
    by_cases hlt : k < m
    · obtain ⟨o0, o1, o2⟩ := HO.out.gr hG (fun f => f) k hlt
      generalize h0 : Nm k = num at o0
      generalize Dl k = dd at o1
      generalize Fl k = fl at o2
      have H0 := Lib.hid h0
      clear h0
      rcases (show num ≠ 0 ∨ (num = 0 ∧ dd ≠ 0) ∨ (num = 0 ∧ dd = 0 ∧ fl ≠ 0) ∨ (num = 0 ∧ dd = 0 ∧ fl = 0) by omega) with hz | ⟨rfl, hz⟩ | ⟨rfl, rfl, hz⟩ | ⟨rfl, rfl, rfl⟩
      · cases hb : inB n num
        · gi_wp2_with (first | (refine ⟨trivial, ?_⟩; gi_at_call 25; refine (callsIn_wide.2 (isIn_any A n c _ _ (by unfold maxLen; omega))).mono ?_; rintro e w1 ⟨rfl, rfl⟩) | (refine ⟨trivial, ?_⟩))
          rw [Exit.noGoto_ret]
          exact ⟨_, results_tmp3 rfl _ _ _, (hG.alloc _).alloc _, .inl ⟨⟨k, hlt, by rw [H0.out]; exact hb⟩, rfl⟩⟩
        · have HK2 := Lib.hid (inb_succ HK.out (by rw [H0.out]; exact hb))
          gi_wp2_with (first | (refine ⟨trivial, ?_⟩; gi_at_call 25; refine (callsIn_wide.2 (isIn_any A n c _ _ (by unfold maxLen; omega))).mono ?_; rintro e w1 ⟨rfl, rfl⟩) | (refine ⟨trivial, ?_⟩))
          go_roundw
          case rel => exact ⟨k + 1, by omega, by go_num, HK2, (hG.alloc _).alloc _⟩
          case measure => simp [intOf]; omega
      · have hb := inb_zero n hn1
        have HK2 := Lib.hid (inb_succ HK.out (by rw [H0.out]; exact hb))
        gi_wp2_with (first | (refine ⟨trivial, ?_⟩; gi_at_call 25; refine (callsIn_wide.2 (isIn_any A n c _ _ (by unfold maxLen; omega))).mono ?_; rintro e w1 ⟨rfl, rfl⟩) | (refine ⟨trivial, ?_⟩))
        go_roundw
        case rel => exact ⟨k + 1, by omega, by go_num, HK2, (hG.alloc _).alloc _⟩
        case measure => simp [intOf]; omega
      · have hb := inb_zero n hn1
        have HK2 := Lib.hid (inb_succ HK.out (by rw [H0.out]; exact hb))
        gi_wp2_with (first | (refine ⟨trivial, ?_⟩; gi_at_call 25; refine (callsIn_wide.2 (isIn_any A n c _ _ (by unfold maxLen; omega))).mono ?_; rintro e w1 ⟨rfl, rfl⟩) | (refine ⟨trivial, ?_⟩))
        go_roundw
        case rel => exact ⟨k + 1, by omega, by go_num, HK2, (hG.alloc _).alloc _⟩
        case measure => simp [intOf]; omega
      · have hb := inb_zero n hn1
        have HK2 := Lib.hid (inb_succ HK.out (by rw [H0.out]; exact hb))
        gi_wp2_with (first | (refine ⟨trivial, ?_⟩; gi_at_call 25; refine (callsIn_wide.2 (isIn_any A n c _ _ (by unfold maxLen; omega))).mono ?_; rintro e w1 ⟨rfl, rfl⟩) | (refine ⟨trivial, ?_⟩))
        go_roundw
        case rel => exact ⟨k + 1, by omega, by go_num, HK2, (hG.alloc _).alloc _⟩
        case measure => simp [intOf]; omega
    · obtain rfl : k = m := by omega
      gi_wp2_with (refine ⟨trivial, ?_⟩; gi_at_call 26; refine (callsIn_wide.2 (copied_any xs A n c _ HN.out hn1 hn8 (HC.out.same hG))).mono ?_; rintro e w1 ⟨rfl, hG1, hR1⟩)
      have hra : Blk ((w1.alloc (.cells #[.int .i64 0] 3)).alloc (.cells #[.nilIface] 44)) w1.heap.size 3 #[.int .i64 0] := (Blk.new _ _ _ _ rfl).alloc _
      have hrf : Blk ((w1.alloc (.cells #[.int .i64 0] 3)).alloc (.cells #[.nilIface] 44)) (w1.heap.size + 1) 44 #[.nilIface] := Blk.new _ _ _ _ (by simp)
      have hrr : Blk ((w1.alloc (.cells #[.int .i64 0] 3)).alloc (.cells #[.nilIface] 44)) wr.heap.size 3 (xs.map (Value.int .i64)).toArray := (hR1.alloc _).alloc _
      have hG2 : Same w ((w1.alloc (.cells #[.int .i64 0] 3)).alloc (.cells #[.nilIface] 44)) := ((hG.next hG1).alloc _).alloc _
      have hzr := hG.size
      have hrl := hR1.lt
      have hz2 : w1.heap.size + 1 < ((w1.alloc (.cells #[.int .i64 0] 3)).alloc (.cells #[.nilIface] 44)).heap.size := by simp
      generalize (w1.alloc (.cells #[.int .i64 0] 3)).alloc (.cells #[.nilIface] 44) = W2 at *
      clear hG hG1 hR1
      generalize wr.heap.size = r at *
      generalize w1.heap.size = ba at *
      first | refine wpIn_label_seq ?_ | refine wpIn_label ?_
      gi_wp2_with (refine ⟨trivial, ?_⟩; gi_at_call 27; refine (callsIn_wide.2 (steps_any _ _ _ _ _ _ _ _)).mono ?_; rintro e w3 ⟨rfl, hG3, hBl, hBo⟩)
      have hra3 := hG3.blk hra (fun f => f)
      have hrf3 := hG3.blk hrf (fun f => f)
      have hrr3 := hG3.blk hrr (fun f => f)
      have hGw := hG2.next hG3
      have hlo := hBo.lt
      have hSw := hS.same hGw
      have hsl := hS.lt
      have HO3 := HO.out.gr hGw (fun f => f)
      clear hG3 hra hrf hrr hG2
      have hseq := steps_seq (aR := aR) (aA := aA) (aW := aW) 8 (W2.heap.size + 1) W2.heap.size r g off k d (by omega) Nm Dl Fl xs n HN.out HARE.out hn8 hm8 (fun i hi => by have := HK.out i hi; unfold inB at this; simp at this; omega) HFL.out (fun k => k = ba ∨ k = ba + 1 ∨ w3.heap.size ≤ k) w3 hSw (fun k hk => by omega) (by omega) HO3 hrr3 hBl hBo (by omega) (by omega) (by omega) (by omega) (by omega) (by omega) (by omega)
      refine rangeFunc_row rfl (by omega) (gf := 31) (lb := #[.pointer (some ⟨W2.heap.size + 1, 0, none⟩), .pointer (some ⟨W2.heap.size, 0, none⟩)]) rfl trivial (enters_of Tryd.func31 (by kernel_rfl) rfl)
        hseq keptX_t keptX_b (Below.refl _ _) (fun _ => rfl) (by omega)
        (fun pre W => (∀ j, j < pre.length → er Nm Dl Fl xs j = 0) ∧ Blk W ba 3 #[.int .i64 0] ∧ Blk W (ba + 1) 44 #[.nilIface] ∧ Gr w3 W (fun k => k = r))
        (fun c pre W => c = .exit 3 ∧ ∃ i, i < k ∧ er Nm Dl Fl xs i ≠ 0 ∧ (∀ j, j < i → er Nm Dl Fl xs j = 0) ∧ Blk W ba 3 #[.int .i64 i] ∧ Blk W (ba + 1) 44 #[errV aR aA aW (er Nm Dl Fl xs i)] ∧ Gr w3 W (fun k => k = r ∨ k = ba ∨ k = ba + 1))
        (OwnFrom.and (ownFrom_pure _ _) (OwnFrom.and (ownFrom_blk _ _ _) (OwnFrom.and (ownFrom_blk _ _ _) (ownFrom_gr _ (Nat.le_refl _)))))
        (fun c => OwnFrom.and (ownFrom_pure _ _) (ownFrom_ex fun _ => OwnFrom.and (ownFrom_pure _ _) (OwnFrom.and (ownFrom_pure _ _) (OwnFrom.and (ownFrom_pure _ _) (OwnFrom.and (ownFrom_blk _ _ _) (OwnFrom.and (ownFrom_blk _ _ _) (ownFrom_gr _ (Nat.le_refl _))))))))
        (fun pre W W' ⟨hp, hA, hF, hW⟩ hG' => ⟨hp, hG'.blk hA (by omega), hG'.blk hF (by omega), hW.trans hG' (fun j _ hj => hj)⟩)
        ⟨fun j hj => by simp at hj, hra3, hrf3, Gr.refl _ _⟩
        ?_ ?assign ?body ?done ?stop
      case assign =>
        intro l x W K hK
        gi_wp2
        exact hK
      case body =>
        rintro l pre x W ⟨hp, hA, hF, hW⟩ hlen hx
        have HP := Lib.hid hp
        have HX := Lib.hid (show x = pre.length from hx)
        clear hp hx
        rcases Nat.eq_zero_or_pos (er Nm Dl Fl xs x) with he | he
        · have HE := Lib.hid he
          rw [he]
          simp only [errV]
          clear he
          gi_wp2
          exact ⟨KeepsFrom.refl _ _, KeptX.refl _ _, hpre_succ HP.out HX.out HE.out, hA, hF, hW⟩
        · obtain ⟨a, ha⟩ : ∃ a, errV aR aA aW (er Nm Dl Fl xs x) = .iface 69 (.pointer (some a)) := by
            match h : er Nm Dl Fl xs x with
            | 0 => omega
            | 1 => exact ⟨_, rfl⟩
            | 2 => exact ⟨_, rfl⟩
            | n + 3 => exact ⟨_, rfl⟩
          have HE := Lib.hid he
          have HA := Lib.hid ha
          rw [ha]
          clear ha he
          have fa := hA.frozen 0
          have ff := hF.frozen 0
          have ca := hA.cell 0
          have cf := hF.cell 0
          simp at ca cf
          gi_wp2
          refine ⟨((KeepsOthers.setCell _ _ _).from _).trans ((KeepsOthers.setCell _ _ _).from _), rfl, x, by have := HX.out; omega, by have := HE.out; omega, fun j hj => HP.out j (by have := HX.out; omega), ?_, ?_, ?_⟩
          · have := (hA.set_ 0 (.int .i64 (x : Nat))).far (p := ⟨ba + 1, 0, none⟩) (by dsimp only; omega) (.iface 69 (.pointer (some a)))
            simpa using this
          · rw [HA.out]
            have := (hF.far (p := ⟨ba, 0, none⟩) (by dsimp only; omega) (.int .i64 (x : Nat))).set_ 0 (.iface 69 (.pointer (some a)))
            simpa using this
          · exact Gr.setCell (p := ⟨ba + 1, 0, none⟩) (X := fun k => k = r ∨ k = ba ∨ k = ba + 1) (Gr.setCell (p := ⟨ba, 0, none⟩) (X := fun k => k = r ∨ k = ba ∨ k = ba + 1) (hW.mono (fun _ _ h => .inl h)) (.inl (.inr (.inl rfl))) _) (.inl (.inr (.inr rfl))) _
      case done =>
        rintro D ys W hD hys ⟨hp, hA, hF, hW⟩ hRow hK
        have cf := hF.cell 0
        simp at cf
        have HP := Lib.hid hp
        have HY := Lib.hid hys
        clear hp hys
        gi_wp2
        rw [Exit.noGoto_ret]
        refine ⟨by simp, .inl ⟨_, _, rfl, run_takeDeferred hK, ?_⟩⟩
        refine ⟨_, results_tmp3 rfl _ _ _, Gr.put (hGw.trans hW (fun j hj h => by omega)) _ (by have := hGw.size; omega), .inr (.inr ⟨HK.out, fun i hi => HP.out i (by rw [HY.out]; exact hi), r, by omega, rfl, hRow.put _ hK rfl⟩)⟩
      case stop =>
        rintro D c pre W hD ⟨rfl, i, hi, he, hlt, hA, hF, hW⟩ hK
        have cf := hF.cell 0
        have ca := hA.cell 0
        simp at cf ca
        obtain ⟨a, ha⟩ : ∃ a, errV aR aA aW (er Nm Dl Fl xs i) = .iface 69 (.pointer (some a)) := by
          match h : er Nm Dl Fl xs i with
          | 0 => omega
          | 1 => exact ⟨_, rfl⟩
          | 2 => exact ⟨_, rfl⟩
          | n + 3 => exact ⟨_, rfl⟩
        have hSW : Sen W aR aA aW := hSw.kept (KeptX.of_gr hW) (fun k hk => by omega)
        have HT := fun W' (h : Same W W') => told_any (er Nm Dl Fl xs i) W' (hSW.same h)
        rw [ha] at HT cf
        have HLT := Lib.hid hlt
        have HE := Lib.hid he
        clear hlt he ha hA hF
        gi_wp2
        refine wpIn_mono (Q := NoPanic _) ?_ NoPanic.imp
        gi_region_with (refine ⟨trivial, ?_⟩; gi_at_call 28; refine (callsIn_wide.2 (HT _ ((Gr.refl _ _).drew))).mono ?_; rintro e w5 ⟨rfl, rfl⟩)
        all_goals
          refine NoPanic.normal ?_
          gi_wp2
          rw [Exit.noGoto_ret]
          refine ⟨by simp, .inl ⟨_, _, rfl, run_takeDeferred (show W.drew.heap[D]? = _ from hK), ?_⟩⟩
          exact ⟨_, results_tmp3 rfl _ _ _, Gr.put ((hGw.trans hW (fun j hj h => by omega)).drew) _ (by have := hGw.size; omega), .inr (.inl ⟨HK.out, i, hi, HE.out, HLT.out, rfl⟩)⟩
end Go.Proofs
