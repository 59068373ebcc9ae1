/-
  No cell of these rows narrows 'for every input' (looked for: loops, veiled, ifaces, maps, wideKeys, modest, calm, conditions, laid).
  DERIVED. THE GIVEN ROWS OF THIS SEAT. 5 by the template 'for every input the law returns true; each argument reads behind the call as it read before'; 0 by the template 'total and deterministic' (their statements: YtgabinccjmdidaaTotals.lean).
  GIVEN WITH THE SEED: the statements are not yours to turn. If you find one false, say at which input.
  Laid BY PROGRAM, IN A SANDBOX (cutbox-rows.mjs): the forced cells as the released guide's own fill.sh prints them over the translation 866b0540c77b7b61… (all of the seat's roots in one cut). By AI agents, Wed Nov 11 2026. No macro, syntax, notation, axiom, sorry.
-/
import Derived.Test.YtgabinccjmdidaaChecked
import GoSem.Claim
import GoSem.ClaimJoined
import GoSem.ClaimMapViews
import Derived.JoinedTies
import Derived.KernelRfl
namespace Go.Proofs.Ytgabinccjmdidaa
/- THE CELL 'sum', in the pinned program and in every row, IS THE sha256 OF THE DUMP (.gsa) THAT YtgabinccjmdidaaProg.lean LOADS. Nothing in Lean hashes anything: it is a label: what it is worth is what the hold of that sum in a sandbox is worth. -/
noncomputable def Try.pinned : Pinned := { name := "ytgabinccjmdidaa", sum := "866b0540c77b7b61cc107d8ee3f852a087f14ed5391dc7f655fd28843856ba23", checked := Try.checked }
namespace Rows
def none {H : Type} : Left H := { results := [], args := [] }

/-- 'redoubtlaw24.RenoDoubles': WHATEVER THE INPUT: true; the input reads as it did. -/
def renoDoublesSpec : ChangeSpec := { name := "renoDoubles", fn := fun _ => fun
  | [d1, d2] => { results := [.lit (.bool true)], args := [d1, d2] }
  | _ => none }
def renoDoublesRow : OpenClaim := { program := "ytgabinccjmdidaa", sum := "866b0540c77b7b61cc107d8ee3f852a087f14ed5391dc7f655fd28843856ba23", func := "redoubt/redoubtlaw24.RenoDoubles", spec := "renoDoubles", apart := false }
def RenoDoublesSaid : Prop := renoDoublesRow.holds Try.pinned (OpenSpec.ofChange renoDoublesSpec)

/-- ITS FALSE NEIGHBOUR: 'it returns false'. Refute it at one input. -/
def renoDoublesWrong : ChangeSpec := { name := "renoDoubles", fn := fun _ => fun
  | [d1, d2] => { results := [.lit (.bool false)], args := [d1, d2] }
  | _ => none }
def RenoDoublesWrongFalsely : Prop := renoDoublesRow.holds Try.pinned (OpenSpec.ofChange renoDoublesWrong)

/-- 'redoubtlaw24.RenoDoes': WHATEVER THE INPUT: true; the input reads as it did. -/
def renoDoesSpec : ChangeSpec := { name := "renoDoes", fn := fun _ => fun
  | [d1, d2] => { results := [.lit (.bool true)], args := [d1, d2] }
  | _ => none }
def renoDoesRow : OpenClaim := { program := "ytgabinccjmdidaa", sum := "866b0540c77b7b61cc107d8ee3f852a087f14ed5391dc7f655fd28843856ba23", func := "redoubt/redoubtlaw24.RenoDoes", spec := "renoDoes", apart := false }
def RenoDoesSaid : Prop := renoDoesRow.holds Try.pinned (OpenSpec.ofChange renoDoesSpec)

/-- ITS FALSE NEIGHBOUR: 'it returns false'. Refute it at one input. -/
def renoDoesWrong : ChangeSpec := { name := "renoDoes", fn := fun _ => fun
  | [d1, d2] => { results := [.lit (.bool false)], args := [d1, d2] }
  | _ => none }
def RenoDoesWrongFalsely : Prop := renoDoesRow.holds Try.pinned (OpenSpec.ofChange renoDoesWrong)

/-- 'redoubtlaw24.RenoBounds': WHATEVER THE INPUT: true; the input reads as it did. -/
def renoBoundsSpec : ChangeSpec := { name := "renoBounds", fn := fun _ => fun
  | [d1, d2] => { results := [.lit (.bool true)], args := [d1, d2] }
  | _ => none }
def renoBoundsRow : OpenClaim := { program := "ytgabinccjmdidaa", sum := "866b0540c77b7b61cc107d8ee3f852a087f14ed5391dc7f655fd28843856ba23", func := "redoubt/redoubtlaw24.RenoBounds", spec := "renoBounds", apart := false }
def RenoBoundsSaid : Prop := renoBoundsRow.holds Try.pinned (OpenSpec.ofChange renoBoundsSpec)

/-- ITS FALSE NEIGHBOUR: 'it returns false'. Refute it at one input. -/
def renoBoundsWrong : ChangeSpec := { name := "renoBounds", fn := fun _ => fun
  | [d1, d2] => { results := [.lit (.bool false)], args := [d1, d2] }
  | _ => none }
def RenoBoundsWrongFalsely : Prop := renoBoundsRow.holds Try.pinned (OpenSpec.ofChange renoBoundsWrong)

/-- 'redoubtlaw24.RenoNil': WHATEVER THE INPUT: true; the input reads as it did. -/
def renoNilSpec : ChangeSpec := { name := "renoNil", fn := fun _ => fun
  | [d] => { results := [.lit (.bool true)], args := [d] }
  | _ => none }
def renoNilRow : OpenClaim := { program := "ytgabinccjmdidaa", sum := "866b0540c77b7b61cc107d8ee3f852a087f14ed5391dc7f655fd28843856ba23", func := "redoubt/redoubtlaw24.RenoNil", spec := "renoNil", apart := false }
def RenoNilSaid : Prop := renoNilRow.holds Try.pinned (OpenSpec.ofChange renoNilSpec)

/-- ITS FALSE NEIGHBOUR: 'it returns false'. Refute it at one input. -/
def renoNilWrong : ChangeSpec := { name := "renoNil", fn := fun _ => fun
  | [d] => { results := [.lit (.bool false)], args := [d] }
  | _ => none }
def RenoNilWrongFalsely : Prop := renoNilRow.holds Try.pinned (OpenSpec.ofChange renoNilWrong)

/-- 'redoubtlaw24.RenoSame': WHATEVER THE INPUT: true; the input reads as it did. -/
def renoSameSpec : ChangeSpec := { name := "renoSame", fn := fun _ => fun
  | [d1, d2, d3] => { results := [.lit (.bool true)], args := [d1, d2, d3] }
  | _ => none }
def renoSameRow : OpenClaim := { program := "ytgabinccjmdidaa", sum := "866b0540c77b7b61cc107d8ee3f852a087f14ed5391dc7f655fd28843856ba23", func := "redoubt/redoubtlaw24.RenoSame", spec := "renoSame", apart := false }
def RenoSameSaid : Prop := renoSameRow.holds Try.pinned (OpenSpec.ofChange renoSameSpec)

/-- ITS FALSE NEIGHBOUR: 'it returns false'. Refute it at one input. -/
def renoSameWrong : ChangeSpec := { name := "renoSame", fn := fun _ => fun
  | [d1, d2, d3] => { results := [.lit (.bool false)], args := [d1, d2, d3] }
  | _ => none }
def RenoSameWrongFalsely : Prop := renoSameRow.holds Try.pinned (OpenSpec.ofChange renoSameWrong)

/- THE SECOND FORM. 'bulk': how many values and letters a reading holds, each counted each time it is reached (what is shared counts as often as it is met; a slice's spare places count too). A statement '..UptoSaid' is the law's where the arguments, and the package variables that the reading takes, are together of bulk at most 1048576: NARROWER than '..Said'. Prove '..Said' where nothing that the law and all that it calls make is longer than what came in: it says more and counts as full. Else prove '..UptoSaid'. A law counts once. -/
mutual
def uptoBulk {H : Type} : DataW H → Nat
  | .lit (.string bytes) => bytes.length + 1
  | .lit _ => 1
  | .nil => 1
  | .ptr d => uptoBulk d + 1
  | .slice elems spare => uptoBulkAll elems + uptoBulkAll spare + 1
  | .agg parts => uptoBulkAll parts + 1
  | .iface _ d => uptoBulk d + 1
  | .map entries => uptoBulkEntries entries + 1
  | .held _ => 1
def uptoBulkAll {H : Type} : List (DataW H) → Nat
  | [] => 0
  | d :: r => uptoBulk d + uptoBulkAll r
def uptoBulkEntries {H : Type} : List (Lit × DataW H) → Nat
  | [] => 0
  | x :: r => uptoBulkEntry x + uptoBulkEntries r
def uptoBulkEntry {H : Type} : Lit × DataW H → Nat
  | (.string bytes, d) => bytes.length + uptoBulk d + 1
  | (_, d) => uptoBulk d + 1
 end
def uptoSmall : (H : Type) → List (DataW H) → Bool := fun _ ds => decide (uptoBulkAll ds ≤ 1048576)
def OpenSpec.upto (s : _root_.Go.ChangeSpec) : _root_.Go.OpenSpec := { _root_.Go.OpenSpec.ofChange s with cond := some uptoSmall }

/-- 'redoubtlaw24.RenoDoubles', WHERE WHAT IT READS IS OF BULK AT MOST 1048576: true; the input reads as it did. -/
def renoDoublesUptoRow : OpenClaim := { program := "ytgabinccjmdidaa", sum := "866b0540c77b7b61cc107d8ee3f852a087f14ed5391dc7f655fd28843856ba23", func := "redoubt/redoubtlaw24.RenoDoubles", spec := "renoDoubles", apart := false, narrowed := true }
def RenoDoublesUptoSaid : Prop := renoDoublesUptoRow.holds Try.pinned (OpenSpec.upto renoDoublesSpec)

/-- 'redoubtlaw24.RenoDoes', WHERE WHAT IT READS IS OF BULK AT MOST 1048576: true; the input reads as it did. -/
def renoDoesUptoRow : OpenClaim := { program := "ytgabinccjmdidaa", sum := "866b0540c77b7b61cc107d8ee3f852a087f14ed5391dc7f655fd28843856ba23", func := "redoubt/redoubtlaw24.RenoDoes", spec := "renoDoes", apart := false, narrowed := true }
def RenoDoesUptoSaid : Prop := renoDoesUptoRow.holds Try.pinned (OpenSpec.upto renoDoesSpec)

/-- 'redoubtlaw24.RenoBounds', WHERE WHAT IT READS IS OF BULK AT MOST 1048576: true; the input reads as it did. -/
def renoBoundsUptoRow : OpenClaim := { program := "ytgabinccjmdidaa", sum := "866b0540c77b7b61cc107d8ee3f852a087f14ed5391dc7f655fd28843856ba23", func := "redoubt/redoubtlaw24.RenoBounds", spec := "renoBounds", apart := false, narrowed := true }
def RenoBoundsUptoSaid : Prop := renoBoundsUptoRow.holds Try.pinned (OpenSpec.upto renoBoundsSpec)

/-- 'redoubtlaw24.RenoNil', WHERE WHAT IT READS IS OF BULK AT MOST 1048576: true; the input reads as it did. -/
def renoNilUptoRow : OpenClaim := { program := "ytgabinccjmdidaa", sum := "866b0540c77b7b61cc107d8ee3f852a087f14ed5391dc7f655fd28843856ba23", func := "redoubt/redoubtlaw24.RenoNil", spec := "renoNil", apart := false, narrowed := true }
def RenoNilUptoSaid : Prop := renoNilUptoRow.holds Try.pinned (OpenSpec.upto renoNilSpec)

/-- 'redoubtlaw24.RenoSame', WHERE WHAT IT READS IS OF BULK AT MOST 1048576: true; the input reads as it did. -/
def renoSameUptoRow : OpenClaim := { program := "ytgabinccjmdidaa", sum := "866b0540c77b7b61cc107d8ee3f852a087f14ed5391dc7f655fd28843856ba23", func := "redoubt/redoubtlaw24.RenoSame", spec := "renoSame", apart := false, narrowed := true }
def RenoSameUptoSaid : Prop := renoSameUptoRow.holds Try.pinned (OpenSpec.upto renoSameSpec)

end Rows
end Go.Proofs.Ytgabinccjmdidaa
