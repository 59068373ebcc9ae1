/- Words, walks and plain laws that the claim leans on, part 2. -/
import Derived.Test.YtjcbbmlloadagaaDoorM1
import Derived.LaidEql
import Derived.Stop.Asserts
import Derived.RowKitTokens

/-! errors.As at the target *api.Errno: the model's entries for reflectlite at this program's types. -/
namespace Go.Proofs.YtjcbbmlloadagaaDoor
set_option linter.unusedVariables false
set_option linter.unusedSimpArgs false
open Go.RowKit Go.Extern.Stop Go.Stop Go.Extern

/-- errors.errorType stands. -/
def ErrT (w : World) : Prop := w.cell? ⟨0, 0, none⟩ = some (.iface 84 (.agg #[.pointer (some ⟨1, 49, none⟩)]))
theorem ErrT.keeps {w w' : World} (h : ErrT w) (hk : Keeps (fun _ => False) w w') : ErrT w' := hk.cell h (fun h => h)

theorem as_valueOfT (t : Addr) (w : World) : (ReflectliteValue.unpack (.iface 67 (.pointer (some t)))).run Tryd.prog w
    = .ok (.agg #[.pointer (some ⟨1, 67, none⟩), .pointer (some ⟨w.heap.size, 0, none⟩), .int .u64 150]) (w.alloc (.cells #[.pointer (some t)] 67)) := by kernel_rfl
theorem as_typeT (a : Addr) (w : World) : (ReflectliteValue.methodAny (ReflectliteValue.valueError "reflectlite.Value.Type" 0) (fun t _ _ _ => ReflectliteType.toType t) #[.agg #[.pointer (some ⟨1, 67, none⟩), .pointer (some a), .int .u64 150]]).run Tryd.prog w
    = .ok (.iface 84 (.agg #[.pointer (some ⟨1, 67, none⟩)])) w := by kernel_rfl
theorem as_kindT (w : World) : ((ReflectliteType.abiMethod fun t => (fun a : Nat => Value.int IntKind.u8 (a : Int)) <$> Rtype.kind t) #[.pointer (some ⟨1, 67, none⟩)]).run Tryd.prog w = .ok (.int .u8 22) w := by kernel_rfl
theorem as_kindE (w : World) : ((ReflectliteType.abiMethod fun t => (fun a : Nat => Value.int IntKind.u8 (a : Int)) <$> Rtype.kind t) #[.pointer (some ⟨1, 26, none⟩)]).run Tryd.prog w = .ok (.int .u8 2) w := by kernel_rfl
theorem rlm (z : Sem Value) (f : TypeId → Addr → Nat → Nat → Sem Value) (v : Value) :
    ReflectliteValue.method z f #[v] = (do match ← ReflectliteValue.parts v with | none => z | some (t, a, fl) => f t a fl (fl % 32)) := rfl
theorem as_partsT (a : Addr) (w : World) : (ReflectliteValue.parts (.agg #[.pointer (some ⟨1, 67, none⟩), .pointer (some a), .int .u64 150])).run Tryd.prog w = .ok (some (67, a, 150)) w := by kernel_rfl
theorem as_isNilT (a p : Addr) (W : World) (ha : W.cell? a = some (.pointer (some p))) :
    (ReflectliteValue.method (ReflectliteValue.valueError "reflectlite.Value.IsNil" 0) ReflectliteValue.isNil #[.agg #[.pointer (some ⟨1, 67, none⟩), .pointer (some a), .int .u64 150]]).run Tryd.prog W = .ok (.bool false) W := by
  rw [rlm]
  simp only [Sem.run_bind, as_partsT, Result.andThen]
  simp [ReflectliteValue.isNil, loadVar, isAgg, underlying, Tryd.underlying67, ha, Result.andThen]
theorem as_elemT (w : World) : (ReflectliteType.method ReflectliteType.elem #[.agg #[.pointer (some ⟨1, 67, none⟩)]]).run Tryd.prog w = .ok (.iface 84 (.agg #[.pointer (some ⟨1, 26, none⟩)])) w := by kernel_rfl
theorem as_implementsE (w : World) : (ReflectliteType.relation "Implements" ReflectliteType.implements_ #[.agg #[.pointer (some ⟨1, 26, none⟩)], .iface 84 (.agg #[.pointer (some ⟨1, 49, none⟩)])]).run Tryd.prog w = .ok (.bool true) w := by kernel_rfl
theorem as_typeOfE (v : Value) (w : World) : (ReflectliteType.typeOf #[.iface 26 v]).run Tryd.prog w = .ok (.iface 84 (.agg #[.pointer (some ⟨1, 26, none⟩)])) w := by kernel_rfl
theorem as_typeOfF (v : Value) (w : World) : (ReflectliteType.typeOf #[.iface 62 v]).run Tryd.prog w = .ok (.iface 84 (.agg #[.pointer (some ⟨1, 62, none⟩)])) w := by kernel_rfl
theorem as_assignableE (w : World) : (ReflectliteType.relation "AssignableTo" ReflectliteType.assignableTo #[.agg #[.pointer (some ⟨1, 26, none⟩)], .iface 84 (.agg #[.pointer (some ⟨1, 26, none⟩)])]).run Tryd.prog w = .ok (.bool true) w := by kernel_rfl
theorem as_assignableF (w : World) : (ReflectliteType.relation "AssignableTo" ReflectliteType.assignableTo #[.agg #[.pointer (some ⟨1, 62, none⟩)], .iface 84 (.agg #[.pointer (some ⟨1, 26, none⟩)])]).run Tryd.prog w = .ok (.bool false) w := by kernel_rfl
theorem as_valueOfE (k : Int) (w : World) : (ReflectliteValue.unpack (.iface 26 (.int .i64 k))).run Tryd.prog w
    = .ok (.agg #[.pointer (some ⟨1, 26, none⟩), .pointer (some ⟨w.heap.size, 0, none⟩), .int .u64 130]) (w.alloc (.cells #[.int .i64 k] 26)) := by kernel_rfl
theorem as_elemOfT (w : World) : (Rtype.elem? 67).run Tryd.prog w = .ok (some 26) w := by kernel_rfl
theorem as_mkE (p : Addr) (w : World) : (ReflectliteValue.mk 26 p ReflectliteValue.flagAddr).run Tryd.prog w = .ok (.agg #[.pointer (some ⟨1, 26, none⟩), .pointer (some p), .int .u64 386]) w := by kernel_rfl
theorem as_elemV (a p : Addr) (W : World) (ha : W.cell? a = some (.pointer (some p))) :
    (ReflectliteValue.method (ReflectliteValue.valueError "reflectlite.Value.Elem" 0) ReflectliteValue.elem #[.agg #[.pointer (some ⟨1, 67, none⟩), .pointer (some a), .int .u64 150]]).run Tryd.prog W
      = .ok (.agg #[.pointer (some ⟨1, 26, none⟩), .pointer (some p), .int .u64 386]) W := by
  rw [rlm]
  simp only [Sem.run_bind, as_partsT, Result.andThen]
  simp [ReflectliteValue.elem, loadVar, isAgg, underlying, Tryd.underlying67, ha, Result.andThen, as_elemOfT, as_mkE]
theorem rls (v x : Value) : ReflectliteValue.set #[v, x] = (do
    let (some (dst, a, fl), some (src, b, _)) := (← ReflectliteValue.parts v, ← ReflectliteValue.parts x)
      | unsupported (.noEntry "extern/(internal/reflectlite.Value).Set.zeroValue")
    if fl / ReflectliteValue.flagAddr % 2 == 0 then unsupported (.noEntry "extern/(internal/reflectlite.Value).Set.unaddressable")
    let val ← loadVar src b
    if ← Rtype.directlyAssignable dst src then storeVar dst a val
    else if ← Rtype.implements dst src then
      if (← Rtype.kind src) == 20 then
        match val with
        | .nilIface => unsupported (.noEntry "extern/reflectlite: a nil value of one interface type handed on as a value of another")
        | _ => storeVar dst a val
      else storeVar dst a (.iface src val)
    else panicString ("reflectlite.Set: value of type " ++ (← Rtype.spelt src) ++ " is not assignable to type " ++ (← Rtype.spelt dst))
    pure (.tuple #[])) := rfl
theorem as_partsEa (a : Addr) (w : World) : (ReflectliteValue.parts (.agg #[.pointer (some ⟨1, 26, none⟩), .pointer (some a), .int .u64 386])).run Tryd.prog w = .ok (some (26, a, 386)) w := by kernel_rfl
theorem as_partsE (a : Addr) (w : World) : (ReflectliteValue.parts (.agg #[.pointer (some ⟨1, 26, none⟩), .pointer (some a), .int .u64 130])).run Tryd.prog w = .ok (some (26, a, 130)) w := by kernel_rfl
theorem as_directE (w : World) : (Rtype.directlyAssignable 26 26).run Tryd.prog w = .ok true w := by kernel_rfl
theorem as_setE (ta b : Addr) (k : Int) (old : Value) (W : World) (hb : W.cell? b = some (.int .i64 k)) (ht : W.cell? ta = some old) (hf : W.frozen? ta = false) :
    (ReflectliteValue.set #[.agg #[.pointer (some ⟨1, 26, none⟩), .pointer (some ta), .int .u64 386], .agg #[.pointer (some ⟨1, 26, none⟩), .pointer (some b), .int .u64 130]]).run Tryd.prog W
      = .ok (.tuple #[]) (W.setCell ta (.int .i64 k)) := by
  rw [rls]
  simp only [Sem.run_bind, as_partsEa, as_partsE, Result.andThen]
  simp [ReflectliteValue.flagAddr, loadVar, isAgg, underlying, Tryd.underlying26, hb, Result.andThen, as_directE, storeVar, Value.cells, storeCells, Addr.add]
  rw [run_store Tryd.prog W ta _ _ (by rfl)]
  simp [ht, hf]
end Go.Proofs.YtjcbbmlloadagaaDoor

/-! errors.As at a fault that wraps an error's number: that number is told. -/
namespace Go.Proofs.YtjcbbmlloadagaaDoor
set_option linter.unusedVariables false
set_option linter.unusedSimpArgs false
open Go.RowKit Go.Extern.Stop Go.Stop Go.Extern

theorem as_mKind (h : Value) (w : World) : (Go.method 227 84 (.agg #[h]) "Kind").run Tryd.prog w = .ok (62, h) w := by kernel_rfl
theorem as_mElem (h : Value) (w : World) : (Go.method 227 84 (.agg #[h]) "Elem").run Tryd.prog w = .ok (74, .agg #[h]) w := by kernel_rfl
theorem as_mImplements (h : Value) (w : World) : (Go.method 227 84 (.agg #[h]) "Implements").run Tryd.prog w = .ok (75, .agg #[h]) w := by kernel_rfl
theorem as_mAssignable (h : Value) (w : World) : (Go.method 227 84 (.agg #[h]) "AssignableTo").run Tryd.prog w = .ok (72, .agg #[h]) w := by kernel_rfl
theorem as_mUnwrap (h : Value) (w : World) : (Go.method 227 62 h "Unwrap").run Tryd.prog w = .ok (67, h) w := by kernel_rfl

/- 89: interface As(any) bool; 92: interface Unwrap() error (this seat's numbers) -/
theorem as_noAs (v : Value) (w : World) : (Instr.typeAssert (.iface 62 v) 49 89 true).run Tryd.prog w = .ok (.tuple #[.nilIface, .bool false]) w := run_typeAssert_lacksB Tryd.underlying89 (by kernel_rfl) (by kernel_rfl) v _ w
theorem as_unw (v : Value) (w : World) : (Instr.typeAssert (.iface 62 v) 49 92 true).run Tryd.prog w = .ok (.tuple #[.iface 62 v, .bool true]) w := run_typeAssert_hasB Tryd.underlying92 (by kernel_rfl) v _ w
theorem unwrap_any (f : Nat) (k : Int) (w : World) (h : w.cell? ⟨f, 1, none⟩ = some (.iface 26 (.int .i64 k))) :
    Calls Tryd.prog 67 #[.pointer (some ⟨f, 0, none⟩)] w fun e w' => e = .returned (.iface 26 (.int .i64 k)) ∧ w = w' := by
  go_enter Tryd.func67, Tryd.ntmps67
  go_wp2
  go_ret
  exact ⟨rfl, rfl⟩

set_option maxRecDepth 100000 in
set_option maxHeartbeats 4000000 in
theorem as_inner (f t vb : Nat) (k : Int) (w : World) (hf1 : w.cell? ⟨f, 1, none⟩ = some (.iface 26 (.int .i64 k))) (ht : RowAt w t #[.int .i64 0] 26) (hv : w.cell? ⟨vb, 0, none⟩ = some (.pointer (some ⟨t, 0, none⟩))) :
    Calls Tryd.prog 43 #[.iface 62 (.pointer (some ⟨f, 0, none⟩)), .iface 67 (.pointer (some ⟨t, 0, none⟩)), .agg #[.pointer (some ⟨1, 67, none⟩), .pointer (some ⟨vb, 0, none⟩), .int .u64 150], .iface 84 (.agg #[.pointer (some ⟨1, 26, none⟩)])] w fun ev w' => ev = .returned (.bool true) ∧
      Keeps (· = t) w w' ∧ RowAt w' t #[.int .i64 k] 26 := by
  have h40 := @run_callFunc_extern Tryd.prog 40 _ (fun args => ReflectliteValue.unpack (args.getD 0 (.tuple #[]))) Tryd.func40 (by kernel_rfl) (by kernel_rfl) (by kernel_rfl) (by kernel_rfl)
  have h41 := @run_callFunc_extern Tryd.prog 41 _ (ReflectliteValue.methodAny (ReflectliteValue.valueError "reflectlite.Value.Type" 0) (fun t _ _ _ => ReflectliteType.toType t)) Tryd.func41 (by kernel_rfl) (by kernel_rfl) (by kernel_rfl) (by kernel_rfl)
  have h42 := @run_callFunc_extern Tryd.prog 42 _ (ReflectliteValue.method (ReflectliteValue.valueError "reflectlite.Value.IsNil" 0) ReflectliteValue.isNil) Tryd.func42 (by kernel_rfl) (by kernel_rfl) (by kernel_rfl) (by kernel_rfl)
  have h62 := @run_callFunc_extern Tryd.prog 62 _ (ReflectliteType.abiMethod fun t => do pure (.int .u8 (← Rtype.kind t))) Tryd.func62 (by kernel_rfl) (by kernel_rfl) (by kernel_rfl) (by kernel_rfl)
  have h74 := @run_callFunc_extern Tryd.prog 74 _ (ReflectliteType.method ReflectliteType.elem) Tryd.func74 (by kernel_rfl) (by kernel_rfl) (by kernel_rfl) (by kernel_rfl)
  have h75 := @run_callFunc_extern Tryd.prog 75 _ (ReflectliteType.relation "Implements" ReflectliteType.implements_) Tryd.func75 (by kernel_rfl) (by kernel_rfl) (by kernel_rfl) (by kernel_rfl)
  have h45 := @run_callFunc_extern Tryd.prog 45 _ ReflectliteType.typeOf Tryd.func45 (by kernel_rfl) (by kernel_rfl) (by kernel_rfl) (by kernel_rfl)
  have h72 := @run_callFunc_extern Tryd.prog 72 _ (ReflectliteType.relation "AssignableTo" ReflectliteType.assignableTo) Tryd.func72 (by kernel_rfl) (by kernel_rfl) (by kernel_rfl) (by kernel_rfl)
  have h46 := @run_callFunc_extern Tryd.prog 46 _ (ReflectliteValue.method (ReflectliteValue.valueError "reflectlite.Value.Elem" 0) ReflectliteValue.elem) Tryd.func46 (by kernel_rfl) (by kernel_rfl) (by kernel_rfl) (by kernel_rfl)
  have h47 := @run_callFunc_extern Tryd.prog 47 _ ReflectliteValue.set Tryd.func47 (by kernel_rfl) (by kernel_rfl) (by kernel_rfl) (by kernel_rfl)
  have q1 := as_valueOfT
  have q2 := as_typeT
  have q3 := as_kindT
  have q4 := as_kindE
  have q5 := as_elemT
  have q6 := as_implementsE
  have q7 := as_typeOfE
  have q8 := as_typeOfF
  have q9 := as_assignableE
  have q10 := as_assignableF
  have q11 := as_valueOfE
  have m1 := as_mKind
  have m2 := as_mElem
  have m3 := as_mImplements
  have m4 := as_mAssignable
  have m5 := as_mUnwrap
  have a1 := as_noAs
  have a2 := as_unw
  have hkA := (Keeps.refl (fun _ => False) w).alloc (.cells #[.pointer (some ⟨1, 67, none⟩), .pointer (some ⟨vb, 0, none⟩), .int .u64 150] 72)
  have hf2 := hkA.cell hf1 (fun h => h)
  have hkB := hkA.alloc (.cells #[.int .i64 k] 26)
  have htB := ht.keeps hkB (fun h => h)
  have el := as_elemV ⟨vb, 0, none⟩ ⟨t, 0, none⟩ (w.alloc (.cells #[.pointer (some ⟨1, 67, none⟩), .pointer (some ⟨vb, 0, none⟩), .int .u64 150] 72)) (hkA.cell hv (fun h => h))
  have st := as_setE ⟨t, 0, none⟩ ⟨w.heap.size + 1, 0, none⟩ k (.int .i64 0) ((w.alloc (.cells #[.pointer (some ⟨1, 67, none⟩), .pointer (some ⟨vb, 0, none⟩), .int .u64 150] 72)).alloc (.cells #[.int .i64 k] 26))
    (by have h := (RowAt.new (w.alloc (.cells #[.pointer (some ⟨1, 67, none⟩), .pointer (some ⟨vb, 0, none⟩), .int .u64 150] 72)) #[.int .i64 k] 26).cell 0; rw [show (w.alloc (.cells #[.pointer (some ⟨1, 67, none⟩), .pointer (some ⟨vb, 0, none⟩), .int .u64 150] 72)).heap.size = w.heap.size + 1 by show (w.heap.push _).size = _; simp] at h; exact h) (htB.cell 0) (htB.frozen 0)
  go_enter Tryd.func43, Tryd.ntmps43
  go_wp2
  refine wp_loop_rounds 2 ?_
  rw [rounds_succ]
  go_wp2_with (go_at_call 67; refine (unwrap_any f k _ hf2).mono ?_; rintro e w' ⟨rfl, rfl⟩)
  rw [rounds_succ]
  go_wp2
  go_ret
  exact ⟨rfl, (hkB.mono (fun _ _ h => h.elim)).setCell _ _ (.inl rfl), (htB.set 0 _).eq rfl⟩

set_option maxRecDepth 100000 in
set_option maxHeartbeats 4000000 in
theorem as_fault (f t : Nat) (k : Int) (w : World) (hg : ErrT w) (hf1 : w.cell? ⟨f, 1, none⟩ = some (.iface 26 (.int .i64 k))) (ht : RowAt w t #[.int .i64 0] 26) :
    Calls Tryd.prog 37 #[.iface 62 (.pointer (some ⟨f, 0, none⟩)), .iface 67 (.pointer (some ⟨t, 0, none⟩))] w fun ev w' => ev = .returned (.bool true) ∧
      Keeps (· = t) w w' ∧ RowAt w' t #[.int .i64 k] 26 := by
  have h40 := @run_callFunc_extern Tryd.prog 40 _ (fun args => ReflectliteValue.unpack (args.getD 0 (.tuple #[]))) Tryd.func40 (by kernel_rfl) (by kernel_rfl) (by kernel_rfl) (by kernel_rfl)
  have h41 := @run_callFunc_extern Tryd.prog 41 _ (ReflectliteValue.methodAny (ReflectliteValue.valueError "reflectlite.Value.Type" 0) (fun t _ _ _ => ReflectliteType.toType t)) Tryd.func41 (by kernel_rfl) (by kernel_rfl) (by kernel_rfl) (by kernel_rfl)
  have h42 := @run_callFunc_extern Tryd.prog 42 _ (ReflectliteValue.method (ReflectliteValue.valueError "reflectlite.Value.IsNil" 0) ReflectliteValue.isNil) Tryd.func42 (by kernel_rfl) (by kernel_rfl) (by kernel_rfl) (by kernel_rfl)
  have h62 := @run_callFunc_extern Tryd.prog 62 _ (ReflectliteType.abiMethod fun t => do pure (.int .u8 (← Rtype.kind t))) Tryd.func62 (by kernel_rfl) (by kernel_rfl) (by kernel_rfl) (by kernel_rfl)
  have h74 := @run_callFunc_extern Tryd.prog 74 _ (ReflectliteType.method ReflectliteType.elem) Tryd.func74 (by kernel_rfl) (by kernel_rfl) (by kernel_rfl) (by kernel_rfl)
  have h75 := @run_callFunc_extern Tryd.prog 75 _ (ReflectliteType.relation "Implements" ReflectliteType.implements_) Tryd.func75 (by kernel_rfl) (by kernel_rfl) (by kernel_rfl) (by kernel_rfl)
  have h45 := @run_callFunc_extern Tryd.prog 45 _ ReflectliteType.typeOf Tryd.func45 (by kernel_rfl) (by kernel_rfl) (by kernel_rfl) (by kernel_rfl)
  have h72 := @run_callFunc_extern Tryd.prog 72 _ (ReflectliteType.relation "AssignableTo" ReflectliteType.assignableTo) Tryd.func72 (by kernel_rfl) (by kernel_rfl) (by kernel_rfl) (by kernel_rfl)
  have h46 := @run_callFunc_extern Tryd.prog 46 _ (ReflectliteValue.method (ReflectliteValue.valueError "reflectlite.Value.Elem" 0) ReflectliteValue.elem) Tryd.func46 (by kernel_rfl) (by kernel_rfl) (by kernel_rfl) (by kernel_rfl)
  have h47 := @run_callFunc_extern Tryd.prog 47 _ ReflectliteValue.set Tryd.func47 (by kernel_rfl) (by kernel_rfl) (by kernel_rfl) (by kernel_rfl)
  have q1 := as_valueOfT
  have q2 := as_typeT
  have q3 := as_kindT
  have q4 := as_kindE
  have q5 := as_elemT
  have q6 := as_implementsE
  have q7 := as_typeOfE
  have q8 := as_typeOfF
  have q9 := as_assignableE
  have q10 := as_assignableF
  have q11 := as_valueOfE
  have m1 := as_mKind
  have m2 := as_mElem
  have m3 := as_mImplements
  have m4 := as_mAssignable
  have m5 := as_mUnwrap
  have hk1 := (Keeps.refl (fun _ => False) w).alloc (.cells #[.pointer (some ⟨t, 0, none⟩)] 67)
  have hv1 : (w.alloc (.cells #[.pointer (some ⟨t, 0, none⟩)] 67)).cell? ⟨w.heap.size, 0, none⟩ = some (.pointer (some ⟨t, 0, none⟩)) := (RowAt.new w #[.pointer (some ⟨t, 0, none⟩)] 67).cell 0
  have hk2 := hk1.alloc (.cells #[.pointer (some ⟨1, 67, none⟩), .pointer (some ⟨w.heap.size, 0, none⟩), .int .u64 150] 72)
  have hv2 := ((RowAt.new w #[.pointer (some ⟨t, 0, none⟩)] 67).alloc (.cells #[.pointer (some ⟨1, 67, none⟩), .pointer (some ⟨w.heap.size, 0, none⟩), .int .u64 150] 72)).cell 0
  have hg2 : _ = _ := hk2.cell hg (fun h => h)
  have n1 := as_isNilT ⟨w.heap.size, 0, none⟩ ⟨t, 0, none⟩ _ hv2
  go_enter Tryd.func37, Tryd.ntmps37
  go_wp2_with (go_at_call 43; refine (as_inner f t w.heap.size k _ (hk2.cell hf1 (fun h => h)) (ht.keeps hk2 (fun h => h)) hv2).mono ?_; rintro e w3 ⟨rfl, hk3, ht3⟩)
  go_ret
  exact ⟨rfl, (hk2.mono (fun _ _ h => h.elim)).trans hk3 (fun _ _ h => h), ht3⟩
end Go.Proofs.YtjcbbmlloadagaaDoor

/-! ip4.number: the number of an error. -/
namespace Go.Proofs.YtjcbbmlloadagaaDoor
set_option linter.unusedVariables false
set_option linter.unusedSimpArgs false
open Go.RowKit

theorem number_nil (w : World) : Calls Tryd.prog 23 #[.nilIface] w fun e w' => e = .returned (.int .i64 0) ∧ Keeps (fun _ => False) w w' := by
  go_enter Tryd.func23, Tryd.ntmps23
  go_wp2
  go_ret
  exact ⟨rfl, (Keeps.refl _ _).alloc _⟩

set_option maxRecDepth 100000 in
set_option maxHeartbeats 4000000 in
theorem number_fault (f : Nat) (k : Int) (w : World) (hg : ErrT w) (hf1 : w.cell? ⟨f, 1, none⟩ = some (.iface 26 (.int .i64 k))) :
    Calls Tryd.prog 23 #[.iface 62 (.pointer (some ⟨f, 0, none⟩))] w fun e w' => e = .returned (.int .i64 k) ∧ Keeps (fun _ => False) w w' := by
  have hkA := (Keeps.refl (fun _ => False) w).alloc (.cells #[.int .i64 0] 26)
  have hr := RowAt.new w #[.int .i64 0] 26
  go_enter Tryd.func23, Tryd.ntmps23
  go_wp2_with (go_at_call 37; refine (as_fault f w.heap.size k _ (hg.keeps hkA) (hkA.cell hf1 (fun h => h)) hr).mono ?_; rintro e w2 ⟨rfl, hk2, hr2⟩; have c2 := hr2.cell 0)
  go_ret
  exact ⟨rfl, hkA.own hk2 (Nat.le_refl _)⟩
end Go.Proofs.YtjcbbmlloadagaaDoor
