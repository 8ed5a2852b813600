/- The step from a walk to the row: for a law, whatever its arguments. -/
import Derived.Test.YthijminlalddcaaGreatDoorRows
import Derived.Test.YthijminlalddcaaGreatDoorC
import Derived.ProofKit
import Derived.OpenShut
import Derived.Lib.SmallJoins
import Derived.Deep.Slices
import Derived.Deep.Fields
import Derived.ChangeSame
set_option linter.unusedVariables false
set_option linter.unusedSimpArgs false
namespace Go.Proofs
open Go.RowKit Go.WideShapes Go.ChangeShapes Go.Joins Go.Deep

section
variable {H : Type} {enc : TypeId × Value → H} {P : Program}

theorem trodAll_stays (hl : laidOutB P = true) {W W' : World} (hb : Below W.heap.size W W') (sp : Nat → Bool) : ∀ {ts : List TypeId} {vs : List Value} {ds : List (DataW H)} {ps : List MemPlace},
    (∀ t ∈ ts, P.readableRec t = true ∧ t < P.types.size) → DataW.TrodAll enc P W 0 (fun _ => true) true ts vs ds ps → (∀ x ∈ ps, x.block < W.heap.size) → (∀ x ∈ ps, sp x.block = true) →
    DataW.TrodAll enc P W' 0 sp true ts vs ds ps
  | [], vs, ds, ps, _, h, _, _ => by
    obtain ⟨rfl, rfl, rfl⟩ := trodAll_nil h
    exact trodAll_mk0
  | t :: ts, vs, ds, ps, ht, h, hlt, hsp => by
    obtain ⟨v, vs', d, ds', p, q, rfl, rfl, rfl, h0, hr⟩ := trodAll_cons h
    have h1 := ht t (by simp)
    exact trodAll_cons_mk (WideElems.Trod_stays hl h1.1 h1.2 h0 (fun x hx => hb.same (hlt x (List.mem_append_left _ hx))) (fun x hx => hsp x (List.mem_append_left _ hx)))
      (trodAll_stays hl hb sp (fun t ht' => ht t (List.mem_cons_of_mem _ ht')) hr (fun x hx => hlt x (List.mem_append_right _ hx)) (fun x hx => hsp x (List.mem_append_right _ hx)))

theorem law_post {f : Func} {s : ChangeSpec} {W W' : World} {args : Array Value} {ds : List (DataW H)} {before : List MemPlace} (hl : laidOutB P = true)
    (hts : ∀ t ∈ f.params.toList, P.readableRec t = true ∧ t < P.types.size) {bt : TypeId} (hrt : f.resultTypes = #[bt]) (hbt : P.underlying bt = some .bool)
    (hvs : s.vars = []) (hW : DataW.Whole enc P f.params.toList s.vars false W args.toList ds [] before)
    (hres : (s.fn H ds).results = [.lit (.bool true)]) (hargs : (s.fn H ds).args = ds) (hsv : (s.fn H ds).vars = []) (hb : Below W.heap.size W W') :
    s.post enc P f false true false false W args (.bool true) W' := by
  have hlt : ∀ p ∈ before, p.block < W.heap.size := fun p hp => hW.lt p hp
  obtain ⟨p, q, hA, hV, hpq, hfz, hnd⟩ := hW
  have hV' := hV
  rw [hvs] at hV
  obtain ⟨_, rfl⟩ := trodVars_none hV
  rw [List.append_nil] at hpq
  subst hpq
  have hA' : ∀ sp : Nat → Bool, (∀ x ∈ before, sp x.block = true) → DataW.TrodAll enc P W' 0 sp true f.params.toList args.toList ds before :=
    fun sp hsp => trodAll_stays hl hb sp hts hA hlt hsp
  have hR : ∀ (b : Nat) (sp : Nat → Bool) (hd : Bool), DataW.TrodAll enc P W' b sp hd f.resultTypes.toList ((Value.bool true).resultList f.resultTypes.size) (s.fn H (ds ++ [])).results [] := by
    intro b sp hd
    rw [List.append_nil, hres, hrt]
    exact trodAll_cons_mk (shut_bool hbt true) trodAll_mk0
  refine ⟨ds, [], before, [], before, [], ⟨before, [], hA, hV', by simp, hfz, hnd⟩, hR _ _ _, by rw [List.append_nil, hargs]; exact hA' _ (fun x hx => by simpa using hlt x hx), ?_, ?_, fun h => by cases h⟩
  · rw [hvs, List.append_nil, hsv]; rfl
  · exact hb.frame _
end

/-! ### An argument that is a struct, by value, of whole numbers alone -/
section
variable {H : Type} {enc : TypeId × Value → H} {P : Program} {w : World} {base : Nat} {spare : Nat → Bool} {held : Bool}
theorem open_agg_ints {r : Reach} {b0 : Nat} {t : TypeId} {fs : Array Field} {v : Value} {d : DataW H} {p : List MemPlace} (hs : P.underlying t = some (.struct fs)) (hone : oneCellFields P fs = true) (hC : P.cellsOf t = fs.size)
    (hint : ∀ (j : Nat) (f : Field), fs[j]? = some f → P.underlying f.type = some (.int .i64)) (hv : Value.okWide P w r b0 t v) (h : DataW.Trod enc P w base spare held t v d p) :
    ∃ l : List Int, l.length = fs.size ∧ v = .agg (l.map (Value.int .i64)).toArray ∧ ∀ a ∈ l, (Lit.int .i64 a).wf = true := by
  obtain ⟨cs, rfl, hsz⟩ := okWide_struct hs hv
  obtain ⟨fuel, hf⟩ := h
  obtain ⟨xs, n, _, _, _, hxl, hg⟩ := DataW.trod_struct hs hf
  have hcs : cs.size = fs.size := hsz.trans hC
  have key : ∀ j, j < cs.size → ∃ a : Int, cs[j]? = some (.int .i64 a) ∧ (Lit.int .i64 a).wf = true := by
    intro j hj
    have hj' : j < fs.size := by omega
    have hfj : fs[j]? = some fs[j] := Array.getElem?_eq_getElem hj'
    obtain ⟨o0, k0⟩ := hone_of hone j fs[j] hfj
    have h1 := hg j fs[j] hfj
    rw [o0, k0] at h1
    have hone' : ((Value.agg cs).cells.toList.drop j).take 1 = [cs[j]] := by
      show (cs.toList.drop j).take 1 = _
      rw [List.drop_eq_getElem_cons (by simpa using hj)]
      simp
    rw [hone'] at h1
    obtain ⟨y, hy⟩ : ∃ y, DataW.trod enc P w base spare held n fs[j].type [cs[j]] = some y := ⟨_, h1.trans (List.getElem?_eq_getElem (by omega))⟩
    obtain ⟨a, ha, _, hw⟩ := DataW.trod_int (hint j _ hfj) hy
    refine ⟨a, ?_, hw⟩
    rw [Array.getElem?_eq_getElem hj]
    simpa using ha
  have hlist : ∃ l : List Int, l.length = cs.size ∧ cs.toList = l.map (Value.int .i64) ∧ ∀ a ∈ l, (Lit.int .i64 a).wf = true := by
    have : ∀ ys : List Value, (∀ j, j < ys.length → ∃ a : Int, ys[j]? = some (.int .i64 a) ∧ (Lit.int .i64 a).wf = true) → ∃ l : List Int, l.length = ys.length ∧ ys = l.map (Value.int .i64) ∧ ∀ a ∈ l, (Lit.int .i64 a).wf = true := by
      intro ys
      induction ys with
      | nil => exact fun _ => ⟨[], rfl, rfl, by simp⟩
      | cons y ys ih =>
        intro hk
        obtain ⟨a, ha, hw⟩ := hk 0 (by simp)
        obtain ⟨l, hl, he, hw'⟩ := ih (fun j hj => by simpa using hk (j + 1) (by simpa using hj))
        refine ⟨a :: l, by simp [hl], by simp at ha; simp [ha, he], ?_⟩
        intro b hb
        rcases List.mem_cons.1 hb with rfl | hb
        · exact hw
        · exact hw' b hb
    obtain ⟨l, h1, h2, h3⟩ := this cs.toList (fun j hj => by simpa using key j (by simpa using hj))
    exact ⟨l, by simpa using h1, h2, h3⟩
  obtain ⟨l, hl, he, hw⟩ := hlist
  exact ⟨l, by omega, by rw [← he], hw⟩
end
/-! ### A list of a known length, written out -/
theorem list1 {α : Type} : ∀ (l : List α), l.length = 1 → ∃ x0, l = [x0]
  | [x0], _ => ⟨x0, rfl⟩
theorem list2 {α : Type} : ∀ (l : List α), l.length = 2 → ∃ x0 x1, l = [x0, x1]
  | [x0, x1], _ => ⟨x0, x1, rfl⟩
theorem list3 {α : Type} : ∀ (l : List α), l.length = 3 → ∃ x0 x1 x2, l = [x0, x1, x2]
  | [x0, x1, x2], _ => ⟨x0, x1, x2, rfl⟩
theorem list4 {α : Type} : ∀ (l : List α), l.length = 4 → ∃ x0 x1 x2 x3, l = [x0, x1, x2, x3]
  | [x0, x1, x2, x3], _ => ⟨x0, x1, x2, x3, rfl⟩
theorem list5 {α : Type} : ∀ (l : List α), l.length = 5 → ∃ x0 x1 x2 x3 x4, l = [x0, x1, x2, x3, x4]
  | [x0, x1, x2, x3, x4], _ => ⟨x0, x1, x2, x3, x4, rfl⟩
theorem list6 {α : Type} : ∀ (l : List α), l.length = 6 → ∃ x0 x1 x2 x3 x4 x5, l = [x0, x1, x2, x3, x4, x5]
  | [x0, x1, x2, x3, x4, x5], _ => ⟨x0, x1, x2, x3, x4, x5, rfl⟩
theorem list7 {α : Type} : ∀ (l : List α), l.length = 7 → ∃ x0 x1 x2 x3 x4 x5 x6, l = [x0, x1, x2, x3, x4, x5, x6]
  | [x0, x1, x2, x3, x4, x5, x6], _ => ⟨x0, x1, x2, x3, x4, x5, x6, rfl⟩
end Go.Proofs
