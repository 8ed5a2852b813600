/- A loop over an iterator that turns a box of its own ahead of the first yield. -/
import Derived.Test.YtdonlpldbdooaaaDoorA
set_option linter.unusedVariables false
set_option linter.unusedSimpArgs false
namespace Go.Proofs
open Go.RowKit Go.Shelf
variable {F : Fence} {n : Nat} {P : Program}

/-- The iterator's word: it may turn block B ahead of the first element. -/
def SeqBox {α : Type} (F : Fence) (n : Nat) (P : Program) (g : Nat) (lb : Array Value) (encs : α → Array Value) (ord : α → Nat) (Kp : World → World → Prop) (S : List α → Prop) (N B : Nat) (w : World) : Prop :=
  ∀ (l : Nat) (J Jx : List α → World → Prop) (W : World), Below w.heap.size w W → (∀ W', Gr W W' (fun k => k = B) → J [] W → J [] W') → (∀ xs W', J xs W' → J xs W'.drew) →
    (∀ pre x W1, J pre W1 → pre.length < N → ord x = pre.length → YieldAt F (n - 1) P l (encs x) W1 fun e W' =>
      (e = .returned (.bool true) ∧ J (pre ++ [x]) W' ∧ Kp W1 W') ∨ (e = .returned (.bool false) ∧ Jx (pre ++ [x]) W')) →
    J [] W →
    CallsIn F n P g (#[.func (.yield l) #[] #[]] ++ lb) W fun e W' => (∃ v, e = .returned v) ∧ ((∃ xs, S xs ∧ J xs W') ∨ (∃ pre, Jx pre W'))

theorem rangeFunc_box {α : Type} {g : Operand} {ps : Array Tmp} {assign body : Code} {Q : Exit → Act → World → Prop} {a : Act} {w : World}
    (hro : F.round = none) (h1 : 1 ≤ n) {gf : Nat} {lb : Array Value} (hg : a.eval g = .func (.func gf) #[] lb) (hFg : F.fn gf) (eg : ∀ args w, (callFunc gf args).run P w = .ok (.enter gf args) w)
    {encs : α → Array Value} {ord : α → Nat} {Kp : World → World → Prop} {S : List α → Prop} {N B : Nat} {w0 : World} (hseq : SeqBox F (n - 1) P gf lb encs ord Kp S N B w0)
    (hKt : ∀ {A B C : World}, Kp A B → Kp B C → Kp A C) (hKb : ∀ (W : World) (l : Nat) (o o' : Obj), w.heap.size ≤ l → W.heap[l]? = some o → o.isCells = false → o.isWalk = false → Kp W (W.putObj l o')) (hb0 : Below w0.heap.size w0 w) (hps : ∀ x, (encs x).size = ps.size)
    (hB : B < w.heap.size) (I : List α → World → Prop) (Ix : Code → List α → World → Prop) (hI : OwnFrom w.heap.size I) (hIx : ∀ c, OwnFrom w.heap.size (Ix c))
    (hIB : ∀ W W', I [] W → Gr W W' (fun k => k = B) → I [] W') (hId : ∀ xs W, I xs W → I xs W.drew) (h0 : I [] w) (a₁ : α → Act)
    (hassign : ∀ (l : Nat) (x : α) (W : World) (K : Act → World → Prop), K (a₁ x) W →
      assign.wpIn (F.inRound l) (n - 1 - 1) P (Exit.then K (fun _ _ _ => False)) { tmps := (ps.zip (encs x)).foldl (fun t (p, v) => t.setIfInBounds p v) a.tmps, defers := [] } W)
    (hbody : ∀ (l : Nat) (pre : List α) (x : α) (W : World), I pre W → pre.length < N → ord x = pre.length → body.wpIn (F.inRound l) (n - 1 - 1) P (ownPostG w.heap.size Kp I Ix (pre ++ [x]) W) (a₁ x) W)
    (hdone : ∀ (D : Nat) (xs : List α) (W : World), w.heap.size ≤ D → S xs → I xs W → W.heap[D]? = some (.deferred (some [])) → Q .normal { a with defers := { target := .collected D, args := #[] } :: a.defers } W)
    (hstop : ∀ (D : Nat) (c : Code) (pre : List α) (W : World), w.heap.size ≤ D → Ix c pre W → W.heap[D]? = some (.deferred (some [])) → c.wpIn F n P Q { a with defers := { target := .collected D, args := #[] } :: a.defers } W) :
    (Code.rangeFunc g ps assign body).wpIn F n P Q a w := by
  refine wpIn_rangeFunc ?_
  intro fn hfn
  rw [hro]
  obtain ⟨rc', hrc⟩ : ∃ r : LoopState → Option Code → Loop, r = fun st pe => { state := st, pending := pe, fn, tmps := a.tmps, params := ps, assign, body, defers := w.heap.size } := ⟨_, rfl⟩
  obtain ⟨W1, hW1⟩ : ∃ W1, (w.alloc (.deferred (some []))).alloc (.loop (rc' .ready none)) = W1 := ⟨_, rfl⟩
  have z1 : W1.heap.size = w.heap.size + 2 := by rw [← hW1]; simp
  have L1 : W1.heap[w.heap.size + 1]? = some (.loop (rc' .ready none)) := by rw [← hW1]; exact heap_at _ _ _ (by simp)
  have D1 : W1.heap[w.heap.size]? = some (.deferred (some [])) := by rw [← hW1]; exact (Below.heap_alloc _ _ _ (by simp)).trans (heap_at _ _ _ rfl)
  have I1 : I [] W1 := by rw [← hW1]; exact hI.alloc _ (hI.alloc _ h0)
  have G1 : Gr w W1 (fun _ => False) := by rw [← hW1]; exact Gr.a2 _ _ _
  have B1 : Below w0.heap.size w0 W1 := hb0.trans (G1.below.mono hb0.size)
  refine ⟨w.heap.size + 1, [{ target := .collected w.heap.size, args := #[] }], W1, { target := .fn (.func gf) lb, args := #[.func (.yield (w.heap.size + 1)) #[] #[]] }, W1, gf,
    #[.func (.yield (w.heap.size + 1)) #[] #[]] ++ lb, W1, ?_, ?_, ?_, ?_, fun _ => h1, ?_⟩
  · rw [← hW1, hrc]; exact run_enterLoop_outer _ _ _ _ _
  · simp only [resolve, hg]
    simp [go_sem]
  · intro f' hf'; simp [Target.leads] at hf'; subst hf'; exact hFg
  · simp [invoke, go_sem, eg]
  · have hold : ∀ {A C : World} {k : Nat}, Gr A C (fun j => j = B) → k < A.heap.size → k ≠ B → C.heap[k]? = A.heap[k]? := fun h hk hne => h.2.2.2.2 _ hk hne
    refine (hseq (w.heap.size + 1)
      (fun pre W => I pre W ∧ W.heap[w.heap.size + 1]? = some (.loop (rc' .ready none)) ∧ W.heap[w.heap.size]? = some (.deferred (some [])))
      (fun pre W => ∃ c, Ix c pre W ∧ W.heap[w.heap.size + 1]? = some (.loop (rc' .done (some c))) ∧ W.heap[w.heap.size]? = some (.deferred (some [])))
      W1 B1
      (fun W' hG ⟨hi, hl, hd⟩ => ⟨hIB _ _ hi hG, (hold hG (by omega) (by omega)).trans hl, (hold hG (by omega) (by omega)).trans hd⟩)
      (fun xs W' ⟨hi, hl, hd⟩ => ⟨hId _ _ hi, hl, hd⟩) ?_ ⟨I1, L1, D1⟩).mono ?_
    · rintro pre x W ⟨hi, hl, hd⟩ hlen hord
      have hlt : w.heap.size + 1 < W.heap.size := (Array.getElem?_eq_some_iff.1 hl).1
      have hy := run_yield (P := P) (args := encs x) hl (by rw [hrc]; exact hps x)
      rw [hrc] at hy
      refine ⟨fn, _, assign, body, hy, roundIn_of_wpIn hfn (hassign _ x W _ ⟨_, run_beginRound hl (by rw [hrc]), ?_⟩)⟩
      obtain ⟨W2, hW2⟩ : ∃ W2, W.putObj (w.heap.size + 1) (.loop { rc' .ready none with state := .busy }) = W2 := ⟨_, rfl⟩
      have L2 : W2.heap[w.heap.size + 1]? = some (.loop { rc' .ready none with state := .busy }) := by rw [← hW2]; exact World.putObj_heap_same hlt
      have D2 : W2.heap[w.heap.size]? = some (.deferred (some [])) := by rw [← hW2]; exact (World.putObj_heap_other (by omega)).trans hd
      have K2 : Kp W W2 := by rw [← hW2]; exact hKb _ _ _ _ (by omega) hl rfl rfl
      have I2 : I pre W2 := by rw [← hW2]; exact hI.putObj _ hi (by omega) hl rfl
      rw [hW2]
      refine wpIn_mono (hbody _ pre x _ I2 hlen hord) ?_
      have L3 : ∀ {W3 : World}, KeepsFrom w.heap.size W2 W3 → W3.heap[w.heap.size + 1]? = some (.loop { rc' .ready none with state := .busy }) := fun k => k.same _ _ (by omega) L2 rfl
      have D3 : ∀ {W3 : World} (o : Obj), KeepsFrom w.heap.size W2 W3 → (W3.putObj (w.heap.size + 1) o).heap[w.heap.size]? = some (.deferred (some [])) := fun o k => (World.putObj_heap_other (by omega)).trans (k.same _ _ (Nat.le_refl _) D2 rfl)
      have N3 : ∀ {W3 : World} (o : Obj), KeepsFrom w.heap.size W2 W3 → (W3.putObj (w.heap.size + 1) o).heap[w.heap.size + 1]? = some o := fun o k => World.putObj_heap_same (Array.getElem?_eq_some_iff.1 (L3 k)).1
      have out : ∀ (c : Code) (W3 : World), KeepsFrom w.heap.size W2 W3 → Ix c (pre ++ [x]) W3 → ∃ v W4, (Instr.endRound (w.heap.size + 1) (some c)).run P W3 = .ok v W4 ∧
          ((Ending.returned v = .returned (.bool true) ∧ (I (pre ++ [x]) W4 ∧ W4.heap[w.heap.size + 1]? = some (.loop (rc' .ready none)) ∧ W4.heap[w.heap.size]? = some (.deferred (some []))) ∧ Kp W W4) ∨
           (Ending.returned v = .returned (.bool false) ∧ ∃ c, Ix c (pre ++ [x]) W4 ∧ W4.heap[w.heap.size + 1]? = some (.loop (rc' .done (some c))) ∧ W4.heap[w.heap.size]? = some (.deferred (some [])))) := fun c W3 k hx => by
        have hr := run_endRound (P := P) (some c) (L3 k)
        rw [hrc] at hr ⊢
        exact ⟨_, _, hr, .inr ⟨rfl, c, (hIx c).putObj _ hx (by omega) (L3 k) rfl, N3 _ k, D3 _ k⟩⟩
      rintro e a3 W3 hp
      cases e with
      | normal =>
        obtain ⟨k3, kp3, i3⟩ := hp
        have hr := run_endRound (P := P) none (L3 k3)
        rw [hrc] at hr ⊢
        exact ⟨_, _, hr, .inl ⟨rfl, ⟨hI.putObj _ i3 (by omega) (L3 k3) rfl, N3 _ k3, D3 _ k3⟩, hKt (hKt K2 kp3) (hKb _ _ _ _ (by omega) (L3 k3) rfl rfl)⟩⟩
      | ret => exact out _ _ hp.1 hp.2
      | exit id => exact out _ _ hp.1 hp.2
      | goto t => exact out _ _ hp.1 hp.2
      | panic ch => exact hp.elim
      | outgrown => exact hp.elim
    · rintro e W2 ⟨⟨v, rfl⟩, (⟨xs, hS, hi, hl, hd⟩ | ⟨pre, c, hi, hl, hd⟩)⟩
      · have hend := run_endLoop (P := P) hl (by rw [hrc]; simp)
        rw [hrc] at hend
        exact ⟨none, _, hend, hdone _ xs _ (Nat.le_refl _) hS (hI.putObj _ hi (by omega) hl rfl) ((World.putObj_heap_other (by omega)).trans hd)⟩
      · have hend := run_endLoop (P := P) hl (by rw [hrc]; simp)
        rw [hrc] at hend
        exact ⟨some c, _, hend, hstop _ c pre _ (Nat.le_refl _) ((hIx c).putObj _ hi (by omega) hl rfl) ((World.putObj_heap_other (by omega)).trans hd)⟩
end Go.Proofs
