/- Words, walks and plain laws that the claim leans on, part 30. -/
import Derived.Test.YtekaoknpjpbjgaaDoorM2
import Derived.LaidEql
import Derived.Lib.IfaceEq
import Derived.Stop.Asserts
import Derived.RowKitTokens

/-! errors.Is at numbers of errors: they are the same number, or not. -/
namespace Go.Proofs.YtekaoknpjpbjgaaDoor
set_option linter.unusedVariables false
set_option linter.unusedSimpArgs false
open Go.RowKit Go.Extern.Stop Go.Stop Go.Extern

theorem is_typeOf (v : Value) (w : World) : (Extern.ReflectliteType.typeOf #[.iface 29 v]).run Tryd.prog w = .ok (.iface 82 (.agg #[.pointer (some ⟨1, 29, none⟩)])) w := by kernel_rfl
theorem is_comparable (w : World) : ((Extern.ReflectliteType.method fun t => do Rtype.noPackHeld "Comparable" t; pure (Value.bool (← typeInfo t).comparable)) #[.agg #[.pointer (some ⟨1, 29, none⟩)]]).run Tryd.prog w = .ok (.bool true) w := by kernel_rfl
theorem is_mComparable (v : Value) (w : World) : (Go.method 261 82 v "Comparable").run Tryd.prog w = .ok (116, v) w := by kernel_rfl
theorem is_noIs (v : Value) (xT : TypeId) (w : World) : (Instr.typeAssert (.iface 29 v) xT 84 true).run Tryd.prog w = .ok (.tuple #[.nilIface, .bool false]) w := run_typeAssert_lacksB Tryd.underlying84 (by kernel_rfl) (by kernel_rfl) v xT w
theorem is_noUnwrap (v : Value) (xT : TypeId) (w : World) : (Instr.typeAssert (.iface 29 v) xT 87 true).run Tryd.prog w = .ok (.tuple #[.nilIface, .bool false]) w := run_typeAssert_lacksB Tryd.underlying87 (by kernel_rfl) (by kernel_rfl) v xT w
theorem is_noUnwraps (v : Value) (xT : TypeId) (w : World) : (Instr.typeAssert (.iface 29 v) xT 89 true).run Tryd.prog w = .ok (.tuple #[.nilIface, .bool false]) w := run_typeAssert_lacksB Tryd.underlying89 (by kernel_rfl) (by kernel_rfl) v xT w

set_option maxRecDepth 100000 in
set_option maxHeartbeats 1000000 in
/-- Two numbers. -/
theorem is_num (a b : Int) (w : World) :
    Calls Tryd.prog 38 #[.iface 29 (.int .i64 a), .iface 29 (.int .i64 b)] w fun e w' => e = .returned (.bool (decide (a = b))) ∧ w = w' := by
  have h8 := @run_callFunc_extern Tryd.prog 48 _ Extern.ReflectliteType.typeOf Tryd.func48 (by kernel_rfl) (by kernel_rfl) (by kernel_rfl) (by kernel_rfl)
  have h32 := @run_callFunc_extern Tryd.prog 116 _ (Extern.ReflectliteType.method fun t => do Rtype.noPackHeld "Comparable" t; pure (.bool (← typeInfo t).comparable)) Tryd.func116 (by kernel_rfl) (by kernel_rfl) (by kernel_rfl) (by kernel_rfl)
  have tT := is_typeOf
  have cT := is_comparable
  generalize (Extern.ReflectliteType.method fun t => do Rtype.noPackHeld "Comparable" t; pure (Value.bool (← typeInfo t).comparable)) = F at h32 cT
  have mR := is_mComparable
  have nE := is_noIs
  have uE := is_noUnwrap
  have vE := is_noUnwraps
  have heq := Lib.run_eql_iface_int (P := Tryd.prog) w (tx := 29) (k := .i64) a b Tryd.underlying57 (by kernel_rfl) Tryd.underlying29
  by_cases hab : a = b
  · subst hab
    rw [decide_eq_true rfl]
    go_enter Tryd.func38, Tryd.ntmps38
    go_wp2
    refine wp_loop_rounds 1 ?_
    rw [rounds_succ]
    go_wp2
    go_ret
    exact ⟨rfl, rfl⟩
  · rw [decide_eq_false hab]
    go_enter Tryd.func38, Tryd.ntmps38
    go_wp2
    refine wp_loop_rounds 1 ?_
    rw [rounds_succ]
    go_wp2
    go_ret
    exact ⟨rfl, rfl⟩

set_option maxRecDepth 100000 in
/-- Nil. -/
theorem is_nil (b : Int) (w : World) :
    Calls Tryd.prog 38 #[.nilIface, .iface 29 (.int .i64 b)] w fun e w' => e = .returned (.bool false) ∧ w = w' := by
  have hn := run_eql_iface_nil_left (P := Tryd.prog) w 29 (.int .i64 b) Tryd.underlying57
  go_enter Tryd.func38, Tryd.ntmps38
  go_wp2
  go_ret
  exact ⟨rfl, rfl⟩
end Go.Proofs.YtekaoknpjpbjgaaDoor
