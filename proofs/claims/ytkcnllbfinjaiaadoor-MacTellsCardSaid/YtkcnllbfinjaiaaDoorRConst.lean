/- redoubtref10.Round: a block into a state, in ints. -/
import Derived.Test.YtkcnllbfinjaiaaDoorRState
namespace Go.Proofs.YtkcnllbfinjaiaaDoor
open Go.RowKit

def szs (s : S8) : List Int := zs (words8 s)
def kzs : List Int := zs kList
set_option maxRecDepth 100000 in
set_option maxHeartbeats 4000000 in
theorem consts_any (w : World) : Calls Tryd.prog 28 #[] w fun e w' => ∃ x, e = .returned x ∧ ZOwn w' w.heap.size x kzs ∧ Keeps (fun _ => False) w w' := by
  go_enter Tryd.func28, Tryd.ntmps28
  go_wp2
  go_ret
  exact ⟨_, rfl, ZOwn.lit w _ kzs 72 w.heap.size (by kernel_rfl) (by kernel_rfl) (by omega) (Nat.le_refl _), (Keeps.refl _ _).alloc _⟩
end Go.Proofs.YtkcnllbfinjaiaaDoor
