/-
  NARROWER THAN 'FOR EVERY INPUT', by the rows' own cells (each row's printed sentence says how): SplitAgain: laid · SplitMany: laid · SplitWhole: laid.
  DERIVED. THE GIVEN ROWS OF THIS SEAT. 3 by the template 'for every input the law returns true; each argument reads behind the call as it read before'; 0 by the template 'total and deterministic' (their statements: YtngpbihnmgjniaaDoorTotals.lean).
  GIVEN WITH THE SEED: the statements are not yours to turn. If you find one false, say at which input.
  Laid BY PROGRAM, IN A SANDBOX (cutbox-rows.mjs): the forced cells as the released guide's own fill.sh prints them over the translation 8beef22f8a086b4e… (all of the seat's roots in one cut). By AI agents, Wed Nov 11 2026. No macro, syntax, notation, axiom, sorry.
-/
import Derived.Test.YtngpbihnmgjniaaDoorChecked
import GoSem.Claim
import GoSem.ClaimJoined
import GoSem.ClaimMapViews
import Derived.JoinedTies
import Derived.KernelRfl
namespace Go.Proofs.YtngpbihnmgjniaaDoor
/- THE CELL 'sum', in the pinned program and in every row, IS THE sha256 OF THE DUMP (.gsa) THAT YtngpbihnmgjniaaDoorProg.lean LOADS. Nothing in Lean hashes anything: it is a label: what it is worth is what the hold of that sum in a sandbox is worth. -/
noncomputable def Tryd.pinned : Pinned := { name := "ytngpbihnmgjniaadoor", sum := "8beef22f8a086b4e177466797276072229c355c4d78547207afda8ea23b46e32", checked := Tryd.checked }
namespace Rows
def none {H : Type} : Left H := { results := [], args := [] }

/- WHAT THE LISTED PACKAGE-LEVEL VARIABLES READ AS WHEN THE CALL BEGINS. Each datum BY PROGRAM (the guide's laid-datum.mjs) off the statement by which the dump's own 'gosem.cut.vars' lays the variable. In a bare row this is a premise. The card (YtngpbihnmgjniaaDoorCards.lean) ties it to the program's text. -/
def laid_errors_errorType {H : Type} : DataW H := .iface "internal/reflectlite.rtype" (.agg [.ptr (.lit (.string [101, 114, 114, 111, 114]))])

/-- 'redoubtlaw19.SplitAgain': WHATEVER THE INPUT: true; the input reads as it did. -/
def splitAgainSpec : ChangeSpec := { name := "splitAgain", fn := fun _ => fun
  | [d1, d2, d3] => { results := [.lit (.bool true)], args := [d1, d2, d3] }
  | _ => none }
def splitAgainRow : OpenClaim := { program := "ytngpbihnmgjniaadoor", sum := "8beef22f8a086b4e177466797276072229c355c4d78547207afda8ea23b46e32", func := "redoubt/redoubtlaw19.SplitAgain", spec := "splitAgain", inPlace := ["internal/reflectlite.ValueOf", "(internal/reflectlite.Value).Type", "(internal/reflectlite.Value).IsNil", "internal/reflectlite.TypeOf", "(internal/reflectlite.Value).Elem", "(internal/reflectlite.Value).Set", "internal/abi.NoEscape", "internal/bytealg.MakeNoZero"], unfollowed := true, recurses := true, named := ["errors.errorType"], apart := false, laid := [("errors.errorType", laid_errors_errorType)] }
def SplitAgainSaid : Prop := splitAgainRow.holds Tryd.pinned (OpenSpec.ofChange splitAgainSpec)

/-- ITS FALSE NEIGHBOUR: 'it returns false'. Refute it at one input. -/
def splitAgainWrong : ChangeSpec := { name := "splitAgain", fn := fun _ => fun
  | [d1, d2, d3] => { results := [.lit (.bool false)], args := [d1, d2, d3] }
  | _ => none }
def SplitAgainWrongFalsely : Prop := splitAgainRow.holds Tryd.pinned (OpenSpec.ofChange splitAgainWrong)

/-- 'redoubtlaw19.SplitMany': WHATEVER THE INPUT: true; the input reads as it did. -/
def splitManySpec : ChangeSpec := { name := "splitMany", fn := fun _ => fun
  | [d1, d2] => { results := [.lit (.bool true)], args := [d1, d2] }
  | _ => none }
def splitManyRow : OpenClaim := { program := "ytngpbihnmgjniaadoor", sum := "8beef22f8a086b4e177466797276072229c355c4d78547207afda8ea23b46e32", func := "redoubt/redoubtlaw19.SplitMany", spec := "splitMany", inPlace := ["internal/reflectlite.ValueOf", "(internal/reflectlite.Value).Type", "(internal/reflectlite.Value).IsNil", "internal/reflectlite.TypeOf", "(internal/reflectlite.Value).Elem", "(internal/reflectlite.Value).Set", "internal/abi.NoEscape", "internal/bytealg.MakeNoZero"], unfollowed := true, recurses := true, named := ["errors.errorType"], apart := false, laid := [("errors.errorType", laid_errors_errorType)] }
def SplitManySaid : Prop := splitManyRow.holds Tryd.pinned (OpenSpec.ofChange splitManySpec)

/-- ITS FALSE NEIGHBOUR: 'it returns false'. Refute it at one input. -/
def splitManyWrong : ChangeSpec := { name := "splitMany", fn := fun _ => fun
  | [d1, d2] => { results := [.lit (.bool false)], args := [d1, d2] }
  | _ => none }
def SplitManyWrongFalsely : Prop := splitManyRow.holds Tryd.pinned (OpenSpec.ofChange splitManyWrong)

/-- 'redoubtlaw19.SplitWhole': WHATEVER THE INPUT: true; the input reads as it did. -/
def splitWholeSpec : ChangeSpec := { name := "splitWhole", fn := fun _ => fun
  | [d1, d2] => { results := [.lit (.bool true)], args := [d1, d2] }
  | _ => none }
def splitWholeRow : OpenClaim := { program := "ytngpbihnmgjniaadoor", sum := "8beef22f8a086b4e177466797276072229c355c4d78547207afda8ea23b46e32", func := "redoubt/redoubtlaw19.SplitWhole", spec := "splitWhole", inPlace := ["internal/reflectlite.ValueOf", "(internal/reflectlite.Value).Type", "(internal/reflectlite.Value).IsNil", "internal/reflectlite.TypeOf", "(internal/reflectlite.Value).Elem", "(internal/reflectlite.Value).Set", "internal/abi.NoEscape", "internal/bytealg.MakeNoZero"], unfollowed := true, recurses := true, named := ["errors.errorType"], apart := false, laid := [("errors.errorType", laid_errors_errorType)] }
def SplitWholeSaid : Prop := splitWholeRow.holds Tryd.pinned (OpenSpec.ofChange splitWholeSpec)

/-- ITS FALSE NEIGHBOUR: 'it returns false'. Refute it at one input. -/
def splitWholeWrong : ChangeSpec := { name := "splitWhole", fn := fun _ => fun
  | [d1, d2] => { results := [.lit (.bool false)], args := [d1, d2] }
  | _ => none }
def SplitWholeWrongFalsely : Prop := splitWholeRow.holds Tryd.pinned (OpenSpec.ofChange splitWholeWrong)

/- THE SECOND FORM. 'bulk': how many values and letters a reading holds, each counted each time it is reached (what is shared counts as often as it is met; a slice's spare places count too). A statement '..UptoSaid' is the law's where the arguments, and the package variables that the reading takes, are together of bulk at most 1048576: NARROWER than '..Said'. Prove '..Said' where nothing that the law and all that it calls make is longer than what came in: it says more and counts as full. Else prove '..UptoSaid'. A law counts once. -/
mutual
def uptoBulk {H : Type} : DataW H → Nat
  | .lit (.string bytes) => bytes.length + 1
  | .lit _ => 1
  | .nil => 1
  | .ptr d => uptoBulk d + 1
  | .slice elems spare => uptoBulkAll elems + uptoBulkAll spare + 1
  | .agg parts => uptoBulkAll parts + 1
  | .iface _ d => uptoBulk d + 1
  | .map entries => uptoBulkEntries entries + 1
  | .held _ => 1
def uptoBulkAll {H : Type} : List (DataW H) → Nat
  | [] => 0
  | d :: r => uptoBulk d + uptoBulkAll r
def uptoBulkEntries {H : Type} : List (Lit × DataW H) → Nat
  | [] => 0
  | x :: r => uptoBulkEntry x + uptoBulkEntries r
def uptoBulkEntry {H : Type} : Lit × DataW H → Nat
  | (.string bytes, d) => bytes.length + uptoBulk d + 1
  | (_, d) => uptoBulk d + 1
 end
def uptoSmall : (H : Type) → List (DataW H) → Bool := fun _ ds => decide (uptoBulkAll ds ≤ 1048576)
def OpenSpec.upto (s : _root_.Go.ChangeSpec) : _root_.Go.OpenSpec := { _root_.Go.OpenSpec.ofChange s with cond := some uptoSmall }

/-- 'redoubtlaw19.SplitAgain', WHERE WHAT IT READS IS OF BULK AT MOST 1048576: true; the input reads as it did. -/
def splitAgainUptoRow : OpenClaim := { program := "ytngpbihnmgjniaadoor", sum := "8beef22f8a086b4e177466797276072229c355c4d78547207afda8ea23b46e32", func := "redoubt/redoubtlaw19.SplitAgain", spec := "splitAgain", inPlace := ["internal/reflectlite.ValueOf", "(internal/reflectlite.Value).Type", "(internal/reflectlite.Value).IsNil", "internal/reflectlite.TypeOf", "(internal/reflectlite.Value).Elem", "(internal/reflectlite.Value).Set", "internal/abi.NoEscape", "internal/bytealg.MakeNoZero"], unfollowed := true, recurses := true, named := ["errors.errorType"], apart := false, laid := [("errors.errorType", laid_errors_errorType)], narrowed := true }
def SplitAgainUptoSaid : Prop := splitAgainUptoRow.holds Tryd.pinned (OpenSpec.upto splitAgainSpec)

/-- 'redoubtlaw19.SplitMany', WHERE WHAT IT READS IS OF BULK AT MOST 1048576: true; the input reads as it did. -/
def splitManyUptoRow : OpenClaim := { program := "ytngpbihnmgjniaadoor", sum := "8beef22f8a086b4e177466797276072229c355c4d78547207afda8ea23b46e32", func := "redoubt/redoubtlaw19.SplitMany", spec := "splitMany", inPlace := ["internal/reflectlite.ValueOf", "(internal/reflectlite.Value).Type", "(internal/reflectlite.Value).IsNil", "internal/reflectlite.TypeOf", "(internal/reflectlite.Value).Elem", "(internal/reflectlite.Value).Set", "internal/abi.NoEscape", "internal/bytealg.MakeNoZero"], unfollowed := true, recurses := true, named := ["errors.errorType"], apart := false, laid := [("errors.errorType", laid_errors_errorType)], narrowed := true }
def SplitManyUptoSaid : Prop := splitManyUptoRow.holds Tryd.pinned (OpenSpec.upto splitManySpec)

/-- 'redoubtlaw19.SplitWhole', WHERE WHAT IT READS IS OF BULK AT MOST 1048576: true; the input reads as it did. -/
def splitWholeUptoRow : OpenClaim := { program := "ytngpbihnmgjniaadoor", sum := "8beef22f8a086b4e177466797276072229c355c4d78547207afda8ea23b46e32", func := "redoubt/redoubtlaw19.SplitWhole", spec := "splitWhole", inPlace := ["internal/reflectlite.ValueOf", "(internal/reflectlite.Value).Type", "(internal/reflectlite.Value).IsNil", "internal/reflectlite.TypeOf", "(internal/reflectlite.Value).Elem", "(internal/reflectlite.Value).Set", "internal/abi.NoEscape", "internal/bytealg.MakeNoZero"], unfollowed := true, recurses := true, named := ["errors.errorType"], apart := false, laid := [("errors.errorType", laid_errors_errorType)], narrowed := true }
def SplitWholeUptoSaid : Prop := splitWholeUptoRow.holds Tryd.pinned (OpenSpec.upto splitWholeSpec)

end Rows
end Go.Proofs.YtngpbihnmgjniaaDoor
