/- RenoNil: the walk as the row asks for it. -/
import Derived.Test.YtgabinccjmdidaaWf
namespace Go.Proofs.Ytgabinccjmdidaa
open Go.RowKit
theorem nil_walk (n : Int) (w : World) (_ : (Lit.int .i64 n).wf = true) : Calls Try.prog 6 #[.int .i64 n] w fun e w' => e = .returned (.bool true) ∧ Below w.heap.size w w' :=
  (nil_law n w).mono fun _ _ h => ⟨h.1, h.2.below _ (Nat.le_refl _) fun _ _ h => h⟩
end Go.Proofs.Ytgabinccjmdidaa
