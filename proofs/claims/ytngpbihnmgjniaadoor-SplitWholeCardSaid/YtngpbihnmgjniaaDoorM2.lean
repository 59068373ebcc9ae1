/- Words, walks and plain laws that the claim leans on, part 2. -/
import Derived.Test.YtngpbihnmgjniaaDoorM1
import Derived.LaidEql
import Derived.Stop.Asserts
import Derived.RowKitTokens

/-! errors.As at the target *api.Errno: the model's entries for reflectlite at this program's types. -/
namespace Go.Proofs.YtngpbihnmgjniaaDoor
set_option linter.unusedVariables false
set_option linter.unusedSimpArgs false
open Go.RowKit Go.Extern.Stop Go.Stop Go.Extern

/-- errors.errorType stands. -/
def ErrT (w : World) : Prop := w.cell? ⟨0, 0, none⟩ = some (.iface 95 (.agg #[.pointer (some ⟨2, 43, none⟩)]))
theorem ErrT.keeps {w w' : World} (h : ErrT w) (hk : Keeps (fun _ => False) w w') : ErrT w' := hk.cell h (fun h => h)

theorem as_valueOfT (t : Addr) (w : World) : (ReflectliteValue.unpack (.iface 60 (.pointer (some t)))).run Tryd.prog w
    = .ok (.agg #[.pointer (some ⟨2, 60, none⟩), .pointer (some ⟨w.heap.size, 0, none⟩), .int .u64 150]) (w.alloc (.cells #[.pointer (some t)] 60)) := by kernel_rfl
theorem as_typeT (a : Addr) (w : World) : (ReflectliteValue.methodAny (ReflectliteValue.valueError "reflectlite.Value.Type" 0) (fun t _ _ _ => ReflectliteType.toType t) #[.agg #[.pointer (some ⟨2, 60, none⟩), .pointer (some a), .int .u64 150]]).run Tryd.prog w
    = .ok (.iface 95 (.agg #[.pointer (some ⟨2, 60, none⟩)])) w := by kernel_rfl
theorem as_kindT (w : World) : ((ReflectliteType.abiMethod fun t => (fun a : Nat => Value.int IntKind.u8 (a : Int)) <$> Rtype.kind t) #[.pointer (some ⟨2, 60, none⟩)]).run Tryd.prog w = .ok (.int .u8 22) w := by kernel_rfl
theorem as_kindE (w : World) : ((ReflectliteType.abiMethod fun t => (fun a : Nat => Value.int IntKind.u8 (a : Int)) <$> Rtype.kind t) #[.pointer (some ⟨2, 27, none⟩)]).run Tryd.prog w = .ok (.int .u8 2) w := by kernel_rfl
theorem rlm (z : Sem Value) (f : TypeId → Addr → Nat → Nat → Sem Value) (v : Value) :
    ReflectliteValue.method z f #[v] = (do match ← ReflectliteValue.parts v with | none => z | some (t, a, fl) => f t a fl (fl % 32)) := rfl
theorem as_partsT (a : Addr) (w : World) : (ReflectliteValue.parts (.agg #[.pointer (some ⟨2, 60, none⟩), .pointer (some a), .int .u64 150])).run Tryd.prog w = .ok (some (60, a, 150)) w := by kernel_rfl
theorem as_isNilT (a p : Addr) (W : World) (ha : W.cell? a = some (.pointer (some p))) :
    (ReflectliteValue.method (ReflectliteValue.valueError "reflectlite.Value.IsNil" 0) ReflectliteValue.isNil #[.agg #[.pointer (some ⟨2, 60, none⟩), .pointer (some a), .int .u64 150]]).run Tryd.prog W = .ok (.bool false) W := by
  rw [rlm]
  simp only [Sem.run_bind, as_partsT, Result.andThen]
  simp [ReflectliteValue.isNil, loadVar, isAgg, underlying, Tryd.underlying60, ha, Result.andThen]
theorem as_elemT (w : World) : (ReflectliteType.method ReflectliteType.elem #[.agg #[.pointer (some ⟨2, 60, none⟩)]]).run Tryd.prog w = .ok (.iface 95 (.agg #[.pointer (some ⟨2, 27, none⟩)])) w := by kernel_rfl
theorem as_implementsE (w : World) : (ReflectliteType.relation "Implements" ReflectliteType.implements_ #[.agg #[.pointer (some ⟨2, 27, none⟩)], .iface 95 (.agg #[.pointer (some ⟨2, 43, none⟩)])]).run Tryd.prog w = .ok (.bool true) w := by kernel_rfl
theorem as_typeOfE (v : Value) (w : World) : (ReflectliteType.typeOf #[.iface 27 v]).run Tryd.prog w = .ok (.iface 95 (.agg #[.pointer (some ⟨2, 27, none⟩)])) w := by kernel_rfl
theorem as_typeOfF (v : Value) (w : World) : (ReflectliteType.typeOf #[.iface 56 v]).run Tryd.prog w = .ok (.iface 95 (.agg #[.pointer (some ⟨2, 56, none⟩)])) w := by kernel_rfl
theorem as_assignableE (w : World) : (ReflectliteType.relation "AssignableTo" ReflectliteType.assignableTo #[.agg #[.pointer (some ⟨2, 27, none⟩)], .iface 95 (.agg #[.pointer (some ⟨2, 27, none⟩)])]).run Tryd.prog w = .ok (.bool true) w := by kernel_rfl
theorem as_assignableF (w : World) : (ReflectliteType.relation "AssignableTo" ReflectliteType.assignableTo #[.agg #[.pointer (some ⟨2, 56, none⟩)], .iface 95 (.agg #[.pointer (some ⟨2, 27, none⟩)])]).run Tryd.prog w = .ok (.bool false) w := by kernel_rfl
theorem as_valueOfE (k : Int) (w : World) : (ReflectliteValue.unpack (.iface 27 (.int .i64 k))).run Tryd.prog w
    = .ok (.agg #[.pointer (some ⟨2, 27, none⟩), .pointer (some ⟨w.heap.size, 0, none⟩), .int .u64 130]) (w.alloc (.cells #[.int .i64 k] 27)) := by kernel_rfl
theorem as_elemOfT (w : World) : (Rtype.elem? 60).run Tryd.prog w = .ok (some 27) w := by kernel_rfl
theorem as_mkE (p : Addr) (w : World) : (ReflectliteValue.mk 27 p ReflectliteValue.flagAddr).run Tryd.prog w = .ok (.agg #[.pointer (some ⟨2, 27, none⟩), .pointer (some p), .int .u64 386]) w := by kernel_rfl
theorem as_elemV (a p : Addr) (W : World) (ha : W.cell? a = some (.pointer (some p))) :
    (ReflectliteValue.method (ReflectliteValue.valueError "reflectlite.Value.Elem" 0) ReflectliteValue.elem #[.agg #[.pointer (some ⟨2, 60, none⟩), .pointer (some a), .int .u64 150]]).run Tryd.prog W
      = .ok (.agg #[.pointer (some ⟨2, 27, none⟩), .pointer (some p), .int .u64 386]) W := by
  rw [rlm]
  simp only [Sem.run_bind, as_partsT, Result.andThen]
  simp [ReflectliteValue.elem, loadVar, isAgg, underlying, Tryd.underlying60, ha, Result.andThen, as_elemOfT, as_mkE]
theorem rls (v x : Value) : ReflectliteValue.set #[v, x] = (do
    let (some (dst, a, fl), some (src, b, _)) := (← ReflectliteValue.parts v, ← ReflectliteValue.parts x)
      | unsupported (.noEntry "extern/(internal/reflectlite.Value).Set.zeroValue")
    if fl / ReflectliteValue.flagAddr % 2 == 0 then unsupported (.noEntry "extern/(internal/reflectlite.Value).Set.unaddressable")
    let val ← loadVar src b
    if ← Rtype.directlyAssignable dst src then storeVar dst a val
    else if ← Rtype.implements dst src then
      if (← Rtype.kind src) == 20 then
        match val with
        | .nilIface => unsupported (.noEntry "extern/reflectlite: a nil value of one interface type handed on as a value of another")
        | _ => storeVar dst a val
      else storeVar dst a (.iface src val)
    else panicString ("reflectlite.Set: value of type " ++ (← Rtype.spelt src) ++ " is not assignable to type " ++ (← Rtype.spelt dst))
    pure (.tuple #[])) := rfl
theorem as_partsEa (a : Addr) (w : World) : (ReflectliteValue.parts (.agg #[.pointer (some ⟨2, 27, none⟩), .pointer (some a), .int .u64 386])).run Tryd.prog w = .ok (some (27, a, 386)) w := by kernel_rfl
theorem as_partsE (a : Addr) (w : World) : (ReflectliteValue.parts (.agg #[.pointer (some ⟨2, 27, none⟩), .pointer (some a), .int .u64 130])).run Tryd.prog w = .ok (some (27, a, 130)) w := by kernel_rfl
theorem as_directE (w : World) : (Rtype.directlyAssignable 27 27).run Tryd.prog w = .ok true w := by kernel_rfl
theorem as_setE (ta b : Addr) (k : Int) (old : Value) (W : World) (hb : W.cell? b = some (.int .i64 k)) (ht : W.cell? ta = some old) (hf : W.frozen? ta = false) :
    (ReflectliteValue.set #[.agg #[.pointer (some ⟨2, 27, none⟩), .pointer (some ta), .int .u64 386], .agg #[.pointer (some ⟨2, 27, none⟩), .pointer (some b), .int .u64 130]]).run Tryd.prog W
      = .ok (.tuple #[]) (W.setCell ta (.int .i64 k)) := by
  rw [rls]
  simp only [Sem.run_bind, as_partsEa, as_partsE, Result.andThen]
  simp [ReflectliteValue.flagAddr, loadVar, isAgg, underlying, Tryd.underlying27, hb, Result.andThen, as_directE, storeVar, Value.cells, storeCells, Addr.add]
  rw [run_store Tryd.prog W ta _ _ (by rfl)]
  simp [ht, hf]
end Go.Proofs.YtngpbihnmgjniaaDoor

/-! errors.As at a fault that wraps an error's number: that number is told. -/
namespace Go.Proofs.YtngpbihnmgjniaaDoor
set_option linter.unusedVariables false
set_option linter.unusedSimpArgs false
open Go.RowKit Go.Extern.Stop Go.Stop Go.Extern

theorem as_mKind (h : Value) (w : World) : (Go.method 236 95 (.agg #[h]) "Kind").run Tryd.prog w = .ok (60, h) w := by kernel_rfl
theorem as_mElem (h : Value) (w : World) : (Go.method 236 95 (.agg #[h]) "Elem").run Tryd.prog w = .ok (73, .agg #[h]) w := by kernel_rfl
theorem as_mImplements (h : Value) (w : World) : (Go.method 236 95 (.agg #[h]) "Implements").run Tryd.prog w = .ok (74, .agg #[h]) w := by kernel_rfl
theorem as_mAssignable (h : Value) (w : World) : (Go.method 236 95 (.agg #[h]) "AssignableTo").run Tryd.prog w = .ok (71, .agg #[h]) w := by kernel_rfl
theorem as_mUnwrap (h : Value) (w : World) : (Go.method 236 56 h "Unwrap").run Tryd.prog w = .ok (65, h) w := by kernel_rfl

theorem as_noAs (v : Value) (w : World) : (Instr.typeAssert (.iface 56 v) 43 100 true).run Tryd.prog w = .ok (.tuple #[.nilIface, .bool false]) w := run_typeAssert_lacksB Tryd.underlying100 (by kernel_rfl) (by kernel_rfl) v _ w
theorem as_unw (v : Value) (w : World) : (Instr.typeAssert (.iface 56 v) 43 103 true).run Tryd.prog w = .ok (.tuple #[.iface 56 v, .bool true]) w := run_typeAssert_hasB Tryd.underlying103 (by kernel_rfl) v _ w
theorem unwrap_any (f : Nat) (k : Int) (w : World) (h : w.cell? ⟨f, 1, none⟩ = some (.iface 27 (.int .i64 k))) :
    Calls Tryd.prog 65 #[.pointer (some ⟨f, 0, none⟩)] w fun e w' => e = .returned (.iface 27 (.int .i64 k)) ∧ w = w' := by
  go_enter Tryd.func65, Tryd.ntmps65
  go_wp2
  go_ret
  exact ⟨rfl, rfl⟩

set_option maxRecDepth 100000 in
set_option maxHeartbeats 4000000 in
theorem as_inner (f t vb : Nat) (k : Int) (w : World) (hf1 : w.cell? ⟨f, 1, none⟩ = some (.iface 27 (.int .i64 k))) (ht : RowAt w t #[.int .i64 0] 27) (hv : w.cell? ⟨vb, 0, none⟩ = some (.pointer (some ⟨t, 0, none⟩))) :
    Calls Tryd.prog 33 #[.iface 56 (.pointer (some ⟨f, 0, none⟩)), .iface 60 (.pointer (some ⟨t, 0, none⟩)), .agg #[.pointer (some ⟨2, 60, none⟩), .pointer (some ⟨vb, 0, none⟩), .int .u64 150], .iface 95 (.agg #[.pointer (some ⟨2, 27, none⟩)])] w fun ev w' => ev = .returned (.bool true) ∧
      Keeps (· = t) w w' ∧ RowAt w' t #[.int .i64 k] 27 := by
  have h40 := @run_callFunc_extern Tryd.prog 30 _ (fun args => ReflectliteValue.unpack (args.getD 0 (.tuple #[]))) Tryd.func30 (by kernel_rfl) (by kernel_rfl) (by kernel_rfl) (by kernel_rfl)
  have h41 := @run_callFunc_extern Tryd.prog 31 _ (ReflectliteValue.methodAny (ReflectliteValue.valueError "reflectlite.Value.Type" 0) (fun t _ _ _ => ReflectliteType.toType t)) Tryd.func31 (by kernel_rfl) (by kernel_rfl) (by kernel_rfl) (by kernel_rfl)
  have h42 := @run_callFunc_extern Tryd.prog 32 _ (ReflectliteValue.method (ReflectliteValue.valueError "reflectlite.Value.IsNil" 0) ReflectliteValue.isNil) Tryd.func32 (by kernel_rfl) (by kernel_rfl) (by kernel_rfl) (by kernel_rfl)
  have h62 := @run_callFunc_extern Tryd.prog 60 _ (ReflectliteType.abiMethod fun t => do pure (.int .u8 (← Rtype.kind t))) Tryd.func60 (by kernel_rfl) (by kernel_rfl) (by kernel_rfl) (by kernel_rfl)
  have h74 := @run_callFunc_extern Tryd.prog 73 _ (ReflectliteType.method ReflectliteType.elem) Tryd.func73 (by kernel_rfl) (by kernel_rfl) (by kernel_rfl) (by kernel_rfl)
  have h75 := @run_callFunc_extern Tryd.prog 74 _ (ReflectliteType.relation "Implements" ReflectliteType.implements_) Tryd.func74 (by kernel_rfl) (by kernel_rfl) (by kernel_rfl) (by kernel_rfl)
  have h45 := @run_callFunc_extern Tryd.prog 41 _ ReflectliteType.typeOf Tryd.func41 (by kernel_rfl) (by kernel_rfl) (by kernel_rfl) (by kernel_rfl)
  have h72 := @run_callFunc_extern Tryd.prog 71 _ (ReflectliteType.relation "AssignableTo" ReflectliteType.assignableTo) Tryd.func71 (by kernel_rfl) (by kernel_rfl) (by kernel_rfl) (by kernel_rfl)
  have h46 := @run_callFunc_extern Tryd.prog 42 _ (ReflectliteValue.method (ReflectliteValue.valueError "reflectlite.Value.Elem" 0) ReflectliteValue.elem) Tryd.func42 (by kernel_rfl) (by kernel_rfl) (by kernel_rfl) (by kernel_rfl)
  have h47 := @run_callFunc_extern Tryd.prog 43 _ ReflectliteValue.set Tryd.func43 (by kernel_rfl) (by kernel_rfl) (by kernel_rfl) (by kernel_rfl)
  have q1 := as_valueOfT
  have q2 := as_typeT
  have q3 := as_kindT
  have q4 := as_kindE
  have q5 := as_elemT
  have q6 := as_implementsE
  have q7 := as_typeOfE
  have q8 := as_typeOfF
  have q9 := as_assignableE
  have q10 := as_assignableF
  have q11 := as_valueOfE
  have m1 := as_mKind
  have m2 := as_mElem
  have m3 := as_mImplements
  have m4 := as_mAssignable
  have m5 := as_mUnwrap
  have a1 := as_noAs
  have a2 := as_unw
  have hkA := (Keeps.refl (fun _ => False) w).alloc (.cells #[.pointer (some ⟨2, 60, none⟩), .pointer (some ⟨vb, 0, none⟩), .int .u64 150] 77)
  have hf2 := hkA.cell hf1 (fun h => h)
  have hkB := hkA.alloc (.cells #[.int .i64 k] 27)
  have htB := ht.keeps hkB (fun h => h)
  have el := as_elemV ⟨vb, 0, none⟩ ⟨t, 0, none⟩ (w.alloc (.cells #[.pointer (some ⟨2, 60, none⟩), .pointer (some ⟨vb, 0, none⟩), .int .u64 150] 77)) (hkA.cell hv (fun h => h))
  have st := as_setE ⟨t, 0, none⟩ ⟨w.heap.size + 1, 0, none⟩ k (.int .i64 0) ((w.alloc (.cells #[.pointer (some ⟨2, 60, none⟩), .pointer (some ⟨vb, 0, none⟩), .int .u64 150] 77)).alloc (.cells #[.int .i64 k] 27))
    (by have h := (RowAt.new (w.alloc (.cells #[.pointer (some ⟨2, 60, none⟩), .pointer (some ⟨vb, 0, none⟩), .int .u64 150] 77)) #[.int .i64 k] 27).cell 0; rw [show (w.alloc (.cells #[.pointer (some ⟨2, 60, none⟩), .pointer (some ⟨vb, 0, none⟩), .int .u64 150] 77)).heap.size = w.heap.size + 1 by show (w.heap.push _).size = _; simp] at h; exact h) (htB.cell 0) (htB.frozen 0)
  go_enter Tryd.func33, Tryd.ntmps33
  go_wp2
  refine wp_loop_rounds 2 ?_
  rw [rounds_succ]
  go_wp2_with (go_at_call 65; refine (unwrap_any f k _ hf2).mono ?_; rintro e w' ⟨rfl, rfl⟩)
  rw [rounds_succ]
  go_wp2
  go_ret
  exact ⟨rfl, (hkB.mono (fun _ _ h => h.elim)).setCell _ _ (.inl rfl), (htB.set 0 _).eq rfl⟩

set_option maxRecDepth 100000 in
set_option maxHeartbeats 4000000 in
theorem as_fault (f t : Nat) (k : Int) (w : World) (hg : ErrT w) (hf1 : w.cell? ⟨f, 1, none⟩ = some (.iface 27 (.int .i64 k))) (ht : RowAt w t #[.int .i64 0] 27) :
    Calls Tryd.prog 22 #[.iface 56 (.pointer (some ⟨f, 0, none⟩)), .iface 60 (.pointer (some ⟨t, 0, none⟩))] w fun ev w' => ev = .returned (.bool true) ∧
      Keeps (· = t) w w' ∧ RowAt w' t #[.int .i64 k] 27 := by
  have h40 := @run_callFunc_extern Tryd.prog 30 _ (fun args => ReflectliteValue.unpack (args.getD 0 (.tuple #[]))) Tryd.func30 (by kernel_rfl) (by kernel_rfl) (by kernel_rfl) (by kernel_rfl)
  have h41 := @run_callFunc_extern Tryd.prog 31 _ (ReflectliteValue.methodAny (ReflectliteValue.valueError "reflectlite.Value.Type" 0) (fun t _ _ _ => ReflectliteType.toType t)) Tryd.func31 (by kernel_rfl) (by kernel_rfl) (by kernel_rfl) (by kernel_rfl)
  have h42 := @run_callFunc_extern Tryd.prog 32 _ (ReflectliteValue.method (ReflectliteValue.valueError "reflectlite.Value.IsNil" 0) ReflectliteValue.isNil) Tryd.func32 (by kernel_rfl) (by kernel_rfl) (by kernel_rfl) (by kernel_rfl)
  have h62 := @run_callFunc_extern Tryd.prog 60 _ (ReflectliteType.abiMethod fun t => do pure (.int .u8 (← Rtype.kind t))) Tryd.func60 (by kernel_rfl) (by kernel_rfl) (by kernel_rfl) (by kernel_rfl)
  have h74 := @run_callFunc_extern Tryd.prog 73 _ (ReflectliteType.method ReflectliteType.elem) Tryd.func73 (by kernel_rfl) (by kernel_rfl) (by kernel_rfl) (by kernel_rfl)
  have h75 := @run_callFunc_extern Tryd.prog 74 _ (ReflectliteType.relation "Implements" ReflectliteType.implements_) Tryd.func74 (by kernel_rfl) (by kernel_rfl) (by kernel_rfl) (by kernel_rfl)
  have h45 := @run_callFunc_extern Tryd.prog 41 _ ReflectliteType.typeOf Tryd.func41 (by kernel_rfl) (by kernel_rfl) (by kernel_rfl) (by kernel_rfl)
  have h72 := @run_callFunc_extern Tryd.prog 71 _ (ReflectliteType.relation "AssignableTo" ReflectliteType.assignableTo) Tryd.func71 (by kernel_rfl) (by kernel_rfl) (by kernel_rfl) (by kernel_rfl)
  have h46 := @run_callFunc_extern Tryd.prog 42 _ (ReflectliteValue.method (ReflectliteValue.valueError "reflectlite.Value.Elem" 0) ReflectliteValue.elem) Tryd.func42 (by kernel_rfl) (by kernel_rfl) (by kernel_rfl) (by kernel_rfl)
  have h47 := @run_callFunc_extern Tryd.prog 43 _ ReflectliteValue.set Tryd.func43 (by kernel_rfl) (by kernel_rfl) (by kernel_rfl) (by kernel_rfl)
  have q1 := as_valueOfT
  have q2 := as_typeT
  have q3 := as_kindT
  have q4 := as_kindE
  have q5 := as_elemT
  have q6 := as_implementsE
  have q7 := as_typeOfE
  have q8 := as_typeOfF
  have q9 := as_assignableE
  have q10 := as_assignableF
  have q11 := as_valueOfE
  have m1 := as_mKind
  have m2 := as_mElem
  have m3 := as_mImplements
  have m4 := as_mAssignable
  have m5 := as_mUnwrap
  have hk1 := (Keeps.refl (fun _ => False) w).alloc (.cells #[.pointer (some ⟨t, 0, none⟩)] 60)
  have hv1 : (w.alloc (.cells #[.pointer (some ⟨t, 0, none⟩)] 60)).cell? ⟨w.heap.size, 0, none⟩ = some (.pointer (some ⟨t, 0, none⟩)) := (RowAt.new w #[.pointer (some ⟨t, 0, none⟩)] 60).cell 0
  have hk2 := hk1.alloc (.cells #[.pointer (some ⟨2, 60, none⟩), .pointer (some ⟨w.heap.size, 0, none⟩), .int .u64 150] 77)
  have hv2 := ((RowAt.new w #[.pointer (some ⟨t, 0, none⟩)] 60).alloc (.cells #[.pointer (some ⟨2, 60, none⟩), .pointer (some ⟨w.heap.size, 0, none⟩), .int .u64 150] 77)).cell 0
  have hg2 : _ = _ := hk2.cell hg (fun h => h)
  have n1 := as_isNilT ⟨w.heap.size, 0, none⟩ ⟨t, 0, none⟩ _ hv2
  go_enter Tryd.func22, Tryd.ntmps22
  go_wp2_with (go_at_call 33; refine (as_inner f t w.heap.size k _ (hk2.cell hf1 (fun h => h)) (ht.keeps hk2 (fun h => h)) hv2).mono ?_; rintro e w3 ⟨rfl, hk3, ht3⟩)
  go_ret
  exact ⟨rfl, (hk2.mono (fun _ _ h => h.elim)).trans hk3 (fun _ _ h => h), ht3⟩
end Go.Proofs.YtngpbihnmgjniaaDoor

/-! ip4.number: the number of an error. -/
namespace Go.Proofs.YtngpbihnmgjniaaDoor
set_option linter.unusedVariables false
set_option linter.unusedSimpArgs false
open Go.RowKit

theorem number_nil (w : World) : Calls Tryd.prog 16 #[.nilIface] w fun e w' => e = .returned (.int .i64 0) ∧ Keeps (fun _ => False) w w' := by
  go_enter Tryd.func16, Tryd.ntmps16
  go_wp2
  go_ret
  exact ⟨rfl, (Keeps.refl _ _).alloc _⟩

set_option maxRecDepth 100000 in
set_option maxHeartbeats 4000000 in
theorem number_fault (f : Nat) (k : Int) (w : World) (hg : ErrT w) (hf1 : w.cell? ⟨f, 1, none⟩ = some (.iface 27 (.int .i64 k))) :
    Calls Tryd.prog 16 #[.iface 56 (.pointer (some ⟨f, 0, none⟩))] w fun e w' => e = .returned (.int .i64 k) ∧ Keeps (fun _ => False) w w' := by
  have hkA := (Keeps.refl (fun _ => False) w).alloc (.cells #[.int .i64 0] 27)
  have hr := RowAt.new w #[.int .i64 0] 27
  go_enter Tryd.func16, Tryd.ntmps16
  go_wp2_with (go_at_call 22; refine (as_fault f w.heap.size k _ (hg.keeps hkA) (hkA.cell hf1 (fun h => h)) hr).mono ?_; rintro e w2 ⟨rfl, hk2, hr2⟩; have c2 := hr2.cell 0)
  go_ret
  exact ⟨rfl, hkA.own hk2 (Nat.le_refl _)⟩
end Go.Proofs.YtngpbihnmgjniaaDoor
