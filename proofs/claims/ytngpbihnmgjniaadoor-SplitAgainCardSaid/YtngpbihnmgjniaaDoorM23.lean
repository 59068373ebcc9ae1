/- Words, walks and plain laws that the claim leans on, part 23. -/
import Derived.Test.YtngpbihnmgjniaaDoorM2
import Derived.Test.YtngpbihnmgjniaaDoorTie
import Derived.ProofKit
import Derived.ChangeSame
import Derived.ChangeVars
import Derived.JoinedOf
import Derived.RowKitTokens
import Derived.LaidLaws
import Derived.LaidHandle
import Derived.Stop.Joined

/-! What the laid handle gives the walks: errors.errorType stands; a world in which it does. -/
namespace Go.Proofs.YtngpbihnmgjniaaDoor
set_option linter.unusedVariables false
set_option linter.unusedSimpArgs false
open Go.ChangeShapes Go.WideShapes Go.RowKit

def laids : List (String × DataW Unit) := [("errors.errorType", Rows.laid_errors_errorType)]
theorem lae_et : Tryd.prog.globalNamed "errors.errorType" = some 0 := by kernel_rfl
theorem lae_rt : (Tryd.prog.cutTypes.find? (·.1 == "internal/reflectlite.rtype")).map (·.2) = some 95 := by kernel_rfl
theorem lae_row : ((List.range Tryd.prog.types.size).filter fun t => Tryd.prog.rowNamed t [101, 114, 114, 111, 114]) = [43] := by kernel_rfl
theorem errT_of {W : World} (h : laidMetH Tryd.prog laids W) : ErrT W := by
  have h' : laidMet Tryd.prog [] W ∧ handlesMet Tryd.prog laids W := h
  obtain ⟨name, u, ty, e1, e2, e3, e4, e5⟩ := h'.2 _ (List.mem_singleton.2 rfl)
  have en : name = [101, 114, 114, 111, 114] := (Option.some.inj e1).symm
  subst en
  obtain rfl := Option.some.inj (lae_rt.symm.trans e2)
  have hm : ty ∈ (List.range Tryd.prog.types.size).filter fun t => Tryd.prog.rowNamed t [101, 114, 114, 111, 114] := List.mem_filter.2 ⟨List.mem_range.2 e3, e4⟩
  rw [lae_row] at hm
  obtain rfl := List.mem_singleton.1 hm
  have hh : typeHandle Tryd.prog 43 = .pointer (some ⟨2, 43, none⟩) := by kernel_rfl
  rw [hh] at e5
  unfold ErrT
  simpa using World.var?_cell lae_et e5 0

/-- A world that meets the condition. -/
noncomputable def laidWorld (os : Os) : World :=
  let w0 := World.holding Tryd.prog os ⟨#[], #[], []⟩
  { w0 with heap := w0.heap.modify 0 fun
      | .cells _ t frozen => .cells #[.iface 95 (.agg #[.pointer (some ⟨2, 43, none⟩)])] t frozen
      | o => o }
theorem laidWorld_met (os : Os) (args : Array Value) : laidMetH Tryd.prog laids ((laidWorld os).forCall (fun _ _ => 0) ⟨#[], args, []⟩).memory :=
  laidMetH_of_parts (laidMet_nil _ _) (by kernel_rfl)
end Go.Proofs.YtngpbihnmgjniaaDoor
