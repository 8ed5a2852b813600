/- errors.As at a refusal; told, first. (After the kit's worked example on errors.As at a concrete target.) -/
import Derived.Test.YthijminlalddcaaGreatDoorC
import Derived.LaidEql
import Derived.Stop.Asserts
import Derived.RowKitTokens
set_option linter.unusedVariables false
set_option linter.unusedSimpArgs false
namespace Go.Proofs
open Go.RowKit Go.Shelf Go.Extern.Stop Go.Stop Go.Extern
attribute [local go_sem] Oper.semAt_some
namespace AsF

theorem valueOfP (t : Addr) (w : World) : (ReflectliteValue.unpack (.iface 120 (.pointer (some t)))).run Tryz.prog w
    = .ok (.agg #[.pointer (some ⟨1, 120, none⟩), .pointer (some ⟨w.heap.size, 0, none⟩), .int .u64 150]) (w.alloc (.cells #[.pointer (some t)] 120)) := by kernel_rfl
theorem typeP (a : Addr) (w : World) : (ReflectliteValue.methodAny (ReflectliteValue.valueError "reflectlite.Value.Type" 0) (fun t _ _ _ => ReflectliteType.toType t) #[.agg #[.pointer (some ⟨1, 120, none⟩), .pointer (some a), .int .u64 150]]).run Tryz.prog w
    = .ok (.iface 166 (.agg #[.pointer (some ⟨1, 120, none⟩)])) w := by kernel_rfl
theorem tsize : Tryz.prog.types.size = 211 := by kernel_rfl
theorem methodKind (h : Value) (w : World) : (Go.method (211 + 100) 166 (.agg #[h]) "Kind").run Tryz.prog w = .ok (108, h) w := by kernel_rfl
theorem kindP (w : World) : ((ReflectliteType.abiMethod fun t => (fun a : Nat => Value.int IntKind.u8 (a : Int)) <$> Rtype.kind t) #[.pointer (some ⟨1, 120, none⟩)]).run Tryz.prog w = .ok (.int .u8 22) w := by kernel_rfl
theorem kindE (w : World) : ((ReflectliteType.abiMethod fun t => (fun a : Nat => Value.int IntKind.u8 (a : Int)) <$> Rtype.kind t) #[.pointer (some ⟨1, 117, none⟩)]).run Tryz.prog w = .ok (.int .u8 25) w := by kernel_rfl
theorem rlm (z : Sem Value) (f : TypeId → Addr → Nat → Nat → Sem Value) (v : Value) :
    ReflectliteValue.method z f #[v] = (do match ← ReflectliteValue.parts v with | none => z | some (t, a, fl) => f t a fl (fl % 32)) := rfl
theorem partsP (a : Addr) (w : World) : (ReflectliteValue.parts (.agg #[.pointer (some ⟨1, 120, none⟩), .pointer (some a), .int .u64 150])).run Tryz.prog w = .ok (some (120, a, 150)) w := by kernel_rfl
theorem isNilP (a p : Addr) (W : World) (ha : W.cell? a = some (.pointer (some p))) :
    (ReflectliteValue.method (ReflectliteValue.valueError "reflectlite.Value.IsNil" 0) ReflectliteValue.isNil #[.agg #[.pointer (some ⟨1, 120, none⟩), .pointer (some a), .int .u64 150]]).run Tryz.prog W = .ok (.bool false) W := by
  rw [rlm]
  simp only [Sem.run_bind, partsP, Result.andThen]
  simp [ReflectliteValue.isNil, loadVar, isAgg, underlying, Tryz.underlying120, ha, Result.andThen]
theorem methodElem (h : Value) (w : World) : (Go.method (211 + 100) 166 (.agg #[h]) "Elem").run Tryz.prog w = .ok (123, .agg #[h]) w := by kernel_rfl
theorem methodImplements (h : Value) (w : World) : (Go.method (211 + 100) 166 (.agg #[h]) "Implements").run Tryz.prog w = .ok (124, .agg #[h]) w := by kernel_rfl
theorem methodAssignableTo (h : Value) (w : World) : (Go.method (211 + 100) 166 (.agg #[h]) "AssignableTo").run Tryz.prog w = .ok (121, .agg #[h]) w := by kernel_rfl
theorem elemT (w : World) : (ReflectliteType.method ReflectliteType.elem #[.agg #[.pointer (some ⟨1, 120, none⟩)]]).run Tryz.prog w = .ok (.iface 166 (.agg #[.pointer (some ⟨1, 117, none⟩)])) w := by kernel_rfl
theorem implementsE (w : World) : (ReflectliteType.relation "Implements" ReflectliteType.implements_ #[.agg #[.pointer (some ⟨1, 117, none⟩)], .iface 166 (.agg #[.pointer (some ⟨1, 72, none⟩)])]).run Tryz.prog w = .ok (.bool true) w := by kernel_rfl
theorem typeOfE (v : Value) (w : World) : (ReflectliteType.typeOf #[.iface 117 v]).run Tryz.prog w = .ok (.iface 166 (.agg #[.pointer (some ⟨1, 117, none⟩)])) w := by kernel_rfl
theorem assignableE (w : World) : (ReflectliteType.relation "AssignableTo" ReflectliteType.assignableTo #[.agg #[.pointer (some ⟨1, 117, none⟩)], .iface 166 (.agg #[.pointer (some ⟨1, 117, none⟩)])]).run Tryz.prog w = .ok (.bool true) w := by kernel_rfl
theorem valueOfE (e : Int) (w : World) : (ReflectliteValue.unpack (.iface 117 (.agg #[.int .i64 e]))).run Tryz.prog w
    = .ok (.agg #[.pointer (some ⟨1, 117, none⟩), .pointer (some ⟨w.heap.size, 0, none⟩), .int .u64 153]) (w.alloc (.cells #[.int .i64 e] 117)) := by kernel_rfl
theorem elemOfP (w : World) : (Rtype.elem? 120).run Tryz.prog w = .ok (some 117) w := by kernel_rfl
theorem mkE (p : Addr) (w : World) : (ReflectliteValue.mk 117 p ReflectliteValue.flagAddr).run Tryz.prog w = .ok (.agg #[.pointer (some ⟨1, 117, none⟩), .pointer (some p), .int .u64 409]) w := by kernel_rfl
theorem elemVP (a p : Addr) (W : World) (ha : W.cell? a = some (.pointer (some p))) :
    (ReflectliteValue.method (ReflectliteValue.valueError "reflectlite.Value.Elem" 0) ReflectliteValue.elem #[.agg #[.pointer (some ⟨1, 120, none⟩), .pointer (some a), .int .u64 150]]).run Tryz.prog W
      = .ok (.agg #[.pointer (some ⟨1, 117, none⟩), .pointer (some p), .int .u64 409]) W := by
  rw [rlm]
  simp only [Sem.run_bind, partsP, Result.andThen]
  simp [ReflectliteValue.elem, loadVar, isAgg, underlying, Tryz.underlying120, ha, Result.andThen, elemOfP, mkE]
theorem rls (v x : Value) : ReflectliteValue.set #[v, x] = (do
    let (some (dst, a, fl), some (src, b, _)) := (← ReflectliteValue.parts v, ← ReflectliteValue.parts x)
      | unsupported (.noEntry "extern/(internal/reflectlite.Value).Set.zeroValue")
    if fl / ReflectliteValue.flagAddr % 2 == 0 then unsupported (.noEntry "extern/(internal/reflectlite.Value).Set.unaddressable")
    let val ← loadVar src b
    if ← Rtype.directlyAssignable dst src then storeVar dst a val
    else if ← Rtype.implements dst src then
      if (← Rtype.kind src) == 20 then
        match val with
        | .nilIface => unsupported (.noEntry "extern/reflectlite: a nil value of one interface type handed on as a value of another")
        | _ => storeVar dst a val
      else storeVar dst a (.iface src val)
    else panicString ("reflectlite.Set: value of type " ++ (← Rtype.spelt src) ++ " is not assignable to type " ++ (← Rtype.spelt dst))
    pure (.tuple #[])) := rfl
theorem partsEa (a : Addr) (w : World) : (ReflectliteValue.parts (.agg #[.pointer (some ⟨1, 117, none⟩), .pointer (some a), .int .u64 409])).run Tryz.prog w = .ok (some (117, a, 409)) w := by kernel_rfl
theorem partsE (a : Addr) (w : World) : (ReflectliteValue.parts (.agg #[.pointer (some ⟨1, 117, none⟩), .pointer (some a), .int .u64 153])).run Tryz.prog w = .ok (some (117, a, 153)) w := by kernel_rfl
theorem directE (w : World) : (Rtype.directlyAssignable 117 117).run Tryz.prog w = .ok true w := by kernel_rfl
theorem sizeE (w : World) : (sizeOf 117).run Tryz.prog w = .ok 1 w := by kernel_rfl
/-- (Value).Set: the refusal at 'ta' gets what the Value's own variable 'b' holds. -/
theorem setE (ta b : Nat) (e o : Int) (W : World) (hb : W.cell? ⟨b, 0, none⟩ = some (.int .i64 e)) (ht : W.cell? ⟨ta, 0, none⟩ = some (.int .i64 o)) (hf : W.frozen? ⟨ta, 0, none⟩ = false) :
    (ReflectliteValue.set #[.agg #[.pointer (some ⟨1, 117, none⟩), .pointer (some ⟨ta, 0, none⟩), .int .u64 409], .agg #[.pointer (some ⟨1, 117, none⟩), .pointer (some ⟨b, 0, none⟩), .int .u64 153]]).run Tryz.prog W
      = .ok (.tuple #[]) (W.setCell ⟨ta, 0, none⟩ (.int .i64 e)) := by
  rw [rls]
  simp only [Sem.run_bind, partsEa, partsE, Result.andThen]
  simp [ReflectliteValue.flagAddr, loadVar, isAgg, underlying, Tryz.underlying117, hb, Result.andThen, directE, storeVar, Value.cells, storeCells, Addr.add]
  have hl : (loadCells ⟨b, 0, none⟩ 1).run Tryz.prog W = .ok #[.int .i64 e] W := run_loadCells_list W ⟨b, 0, none⟩ [.int .i64 e] (fun j v hj => by
    match j, hj with
    | 0, hj => simp at hj; subst hj; simpa [Addr.add] using hb)
  rw [hl]
  simp [storeCells, Addr.add]
  rw [run_store Tryz.prog W ⟨ta, 0, none⟩ _ _ (by rfl)]
  simp [ht, hf]
set_option maxHeartbeats 4000000 in
theorem as_hit (e o : Int) (t : Nat) (w : World) (hg : w.cell? ⟨0, 0, none⟩ = some (.iface 166 (.agg #[.pointer (some ⟨1, 72, none⟩)]))) (ht0 : w.cell? ⟨t, 0, none⟩ = some (.int .i64 o)) (hf0 : w.frozen? ⟨t, 0, none⟩ = false) :
    Calls Tryz.prog 62 #[.iface 117 (.agg #[.int .i64 e]), .iface 120 (.pointer (some ⟨t, 0, none⟩))] w fun ev w' => ev = .returned (.bool true) ∧
      w' = ((((w.alloc (.cells #[.pointer (some ⟨t, 0, none⟩)] 120)).alloc (.cells #[.pointer (some ⟨1, 120, none⟩), .pointer (some ⟨w.heap.size, 0, none⟩), .int .u64 150] 149)).alloc (.cells #[.pointer (some ⟨1, 120, none⟩), .pointer (some ⟨w.heap.size, 0, none⟩), .int .u64 150] 149)).alloc (.cells #[.int .i64 e] 117)).setCell ⟨t, 0, none⟩ (.int .i64 e) := by
  have h6 := @run_callFunc_extern Tryz.prog 80 _ (fun args => ReflectliteValue.unpack (args.getD 0 (.tuple #[]))) Tryz.func80 (by kernel_rfl) (by kernel_rfl) (by kernel_rfl) (by kernel_rfl)
  have h7 := @run_callFunc_extern Tryz.prog 81 _ (ReflectliteValue.methodAny (ReflectliteValue.valueError "reflectlite.Value.Type" 0) (fun t _ _ _ => ReflectliteType.toType t)) Tryz.func81 (by kernel_rfl) (by kernel_rfl) (by kernel_rfl) (by kernel_rfl)
  have h8 := @run_callFunc_extern Tryz.prog 82 _ (ReflectliteValue.method (ReflectliteValue.valueError "reflectlite.Value.IsNil" 0) ReflectliteValue.isNil) Tryz.func82 (by kernel_rfl) (by kernel_rfl) (by kernel_rfl) (by kernel_rfl)
  have h27 := @run_callFunc_extern Tryz.prog 108 _ (ReflectliteType.abiMethod fun t => do pure (.int .u8 (← Rtype.kind t))) Tryz.func108 (by kernel_rfl) (by kernel_rfl) (by kernel_rfl) (by kernel_rfl)
  have h37 := @run_callFunc_extern Tryz.prog 123 _ (ReflectliteType.method ReflectliteType.elem) Tryz.func123 (by kernel_rfl) (by kernel_rfl) (by kernel_rfl) (by kernel_rfl)
  have h38 := @run_callFunc_extern Tryz.prog 124 _ (ReflectliteType.relation "Implements" ReflectliteType.implements_) Tryz.func124 (by kernel_rfl) (by kernel_rfl) (by kernel_rfl) (by kernel_rfl)
  have h10 := @run_callFunc_extern Tryz.prog 91 _ ReflectliteType.typeOf Tryz.func91 (by kernel_rfl) (by kernel_rfl) (by kernel_rfl) (by kernel_rfl)
  have h35 := @run_callFunc_extern Tryz.prog 121 _ (ReflectliteType.relation "AssignableTo" ReflectliteType.assignableTo) Tryz.func121 (by kernel_rfl) (by kernel_rfl) (by kernel_rfl) (by kernel_rfl)
  have h11 := @run_callFunc_extern Tryz.prog 92 _ (ReflectliteValue.method (ReflectliteValue.valueError "reflectlite.Value.Elem" 0) ReflectliteValue.elem) Tryz.func92 (by kernel_rfl) (by kernel_rfl) (by kernel_rfl) (by kernel_rfl)
  have h12 := @run_callFunc_extern Tryz.prog 93 _ ReflectliteValue.set Tryz.func93 (by kernel_rfl) (by kernel_rfl) (by kernel_rfl) (by kernel_rfl)
  have tO := typeOfE
  have mA := methodAssignableTo
  have a25 := assignableE
  have v25 := valueOfE
  have f6 := valueOfP
  have f7 := typeP
  have mK := methodKind
  have mE := methodElem
  have mI := methodImplements
  have k27 := kindP
  have k25 := kindE
  have e27 := elemT
  have i25 := implementsE
  have n8 := isNilP ⟨w.heap.size, 0, none⟩ ⟨t, 0, none⟩ ((w.alloc (.cells #[.pointer (some ⟨t, 0, none⟩)] 120)).alloc (.cells #[.pointer (some ⟨1, 120, none⟩), .pointer (some ⟨w.heap.size, 0, none⟩), .int .u64 150] 149)) (by simp)
  have hlt : 0 < w.heap.size := World.block_lt_of_cell? _ _ hg
  have hg2 : ((w.alloc (.cells #[.pointer (some ⟨t, 0, none⟩)] 120)).alloc (.cells #[.pointer (some ⟨1, 120, none⟩), .pointer (some ⟨w.heap.size, 0, none⟩), .int .u64 150] 149)).cell? ⟨0, 0, none⟩ = some (.iface 166 (.agg #[.pointer (some ⟨1, 72, none⟩)])) := by
    rw [World.cell?_alloc_lt _ _ ⟨0, 0, none⟩ (by simp), World.cell?_alloc_lt _ _ ⟨0, 0, none⟩ hlt]; exact hg
  have htl : t < w.heap.size := World.block_lt_of_cell? _ _ ht0
  have el := elemVP ⟨w.heap.size, 0, none⟩ ⟨t, 0, none⟩ (((w.alloc (.cells #[.pointer (some ⟨t, 0, none⟩)] 120)).alloc (.cells #[.pointer (some ⟨1, 120, none⟩), .pointer (some ⟨w.heap.size, 0, none⟩), .int .u64 150] 149)).alloc (.cells #[.pointer (some ⟨1, 120, none⟩), .pointer (some ⟨w.heap.size, 0, none⟩), .int .u64 150] 149)) (by rw [World.cell?_alloc_lt _ _ ⟨w.heap.size, 0, none⟩ (by simp; omega)]; simp)
  have st := setE t (w.heap.size + 1 + 1 + 1) e o ((((w.alloc (.cells #[.pointer (some ⟨t, 0, none⟩)] 120)).alloc (.cells #[.pointer (some ⟨1, 120, none⟩), .pointer (some ⟨w.heap.size, 0, none⟩), .int .u64 150] 149)).alloc (.cells #[.pointer (some ⟨1, 120, none⟩), .pointer (some ⟨w.heap.size, 0, none⟩), .int .u64 150] 149)).alloc (.cells #[.int .i64 e] 117))
    (by rw [World.cell?_alloc_at _ _ _ _ (by simp)]; rfl)
    (by rw [World.cell?_alloc_lt _ _ ⟨t, 0, none⟩ (by simp; omega), World.cell?_alloc_lt _ _ ⟨t, 0, none⟩ (by simp; omega), World.cell?_alloc_lt _ _ ⟨t, 0, none⟩ (by simp; omega), World.cell?_alloc_lt _ _ ⟨t, 0, none⟩ htl]; exact ht0)
    (by rw [World.frozen?_alloc_old _ _ ⟨t, 0, none⟩ (by simp; omega), World.frozen?_alloc_old _ _ ⟨t, 0, none⟩ (by simp; omega), World.frozen?_alloc_old _ _ ⟨t, 0, none⟩ (by simp; omega), World.frozen?_alloc_old _ _ ⟨t, 0, none⟩ (Nat.ne_of_lt htl)]; exact hf0)
  go_enter Tryz.func62, Tryz.ntmps62
  go_wp2
  refine wp_loop_rounds 1 ?_
  rw [rounds_succ]
  go_wp2
  go_ret
  exact ⟨rfl, rfl⟩
end AsF

/-- errors.errorType lies. -/
def EtH (w : World) : Prop := w.cell? ⟨0, 0, none⟩ = some (.iface 166 (.agg #[.pointer (some ⟨1, 72, none⟩)]))
theorem EtH.same {w w' : World} {X : Nat → Prop} (h : EtH w) (hG : Gr w w' X) (hx : ¬ X 0) : EtH w' := (hG.cell (p := ⟨0, 0, none⟩) (World.block_lt_of_cell? _ _ h) hx).trans h
theorem EtH.lt {w : World} (h : EtH w) : 0 < w.heap.size := World.block_lt_of_cell? _ _ h

/-- An error out of a number: nil, or a refusal. -/
def errV (e : Int) : Value := if e = 0 then .nilIface else .iface 117 (.agg #[.int .i64 e])
theorem first_ok (b : Nat) (w : World) (hb : Blk w b 44 #[.int .i64 0]) : Calls Tryz.prog 31 #[.slice (some ⟨b, 0, none⟩) 1 1] w fun ev w' => ev = .returned .nilIface ∧ w = w' := by
  have c0 := hb.cell 0
  simp at c0
  clear hb
  go_enter Tryz.func31, Tryz.ntmps31
  go_wp2
  go_loop [7] (fun i => i = .int .i64 0 ∨ i = .int .i64 1) (fun i => 1 - (intOf i).toNat)
  case atStart => exact .inl rfl
  case round =>
    rcases hrel with rfl | rfl
    · go_wp2
      go_round
      case rel => exact .inr rfl
      case measure => simp [intOf]
    · go_wp2
      go_ret
      exact ⟨rfl, rfl⟩
theorem first_no (e : Int) (he : (e == 0) = false) (b : Nat) (w : World) (hb : Blk w b 44 #[.int .i64 e]) : Calls Tryz.prog 31 #[.slice (some ⟨b, 0, none⟩) 1 1] w fun ev w' => ev = .returned (.iface 117 (.agg #[.int .i64 e])) ∧ w = w' := by
  have c0 := hb.cell 0
  simp at c0
  clear hb
  go_enter Tryz.func31, Tryz.ntmps31
  go_wp2
  go_loop [7] (fun i => i = .int .i64 0) (fun i => 1 - (intOf i).toNat)
  case atStart => exact rfl
  case round =>
    obtain rfl := hrel
    go_wp2
    go_ret
    exact ⟨rfl, rfl⟩
theorem first_any (e : Int) (b : Nat) (w : World) (hb : Blk w b 44 #[.int .i64 e]) : Calls Tryz.prog 31 #[.slice (some ⟨b, 0, none⟩) 1 1] w fun ev w' => ev = .returned (errV e) ∧ w = w' := by
  unfold errV
  by_cases he : e = 0
  · subst he
    rw [if_pos rfl]
    exact first_ok b w hb
  · rw [if_neg he]
    exact first_no e (by simp [he]) b w hb
set_option maxHeartbeats 1000000 in
theorem told_no (e : Int) (w : World) (hg : EtH w) : Calls Tryz.prog 33 #[.iface 117 (.agg #[.int .i64 e])] w fun ev w' => ev = .returned (.int .i64 e) ∧ Same w w' := by
  have hlt := hg.lt
  have hb : Blk (w.alloc (.cells #[.int .i64 0] 117)) w.heap.size 117 #[.int .i64 0] := Blk.new _ _ _ _ rfl
  have hg' : EtH (w.alloc (.cells #[.int .i64 0] 117)) := hg.same (X := fun _ => False) (Gr.a1 _ _) (fun f => f)
  go_enter Tryz.func33, Tryz.ntmps33
  go_wp2_with fail
  refine (AsF.as_hit e 0 w.heap.size _ hg' (by simp) (hb.frozen 0)).mono ?_
  rintro ev w' ⟨rfl, hw⟩
  have hG : Same w w' := by
    rw [hw]
    repeat (first | (with_reducible exact Gr.refl _ _) | (with_reducible refine Gr.setCell ?_ (.inr (by dsimp only; omega)) _) | (with_reducible refine Gr.alloc ?_ _))
  have hc : w'.cell? ⟨w.heap.size, 0, none⟩ = some (.int .i64 e) := by
    rw [hw]
    simp [go_sem]
  clear hw hg hg' hb
  go_wp2
  go_ret
  exact ⟨rfl, hG⟩
end Go.Proofs
