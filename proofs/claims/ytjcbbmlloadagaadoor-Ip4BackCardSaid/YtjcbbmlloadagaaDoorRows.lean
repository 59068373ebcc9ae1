/-
  NARROWER THAN 'FOR EVERY INPUT', by the rows' own cells (each row's printed sentence says how): Ip4Parses: laid · Ip4Back: laid · Ip4Options: laid · Ip4Lays: laid · Ip4Heads: laid.
  DERIVED. THE GIVEN ROWS OF THIS SEAT. 5 by the template 'for every input the law returns true; each argument reads behind the call as it read before'; 0 by the template 'total and deterministic' (their statements: YtjcbbmlloadagaaDoorTotals.lean).
  GIVEN WITH THE SEED: the statements are not yours to turn. If you find one false, say at which input.
  Laid BY PROGRAM, IN A SANDBOX (cutbox-rows.mjs): the forced cells as the released guide's own fill.sh prints them over the translation a7007d28a85d4ca9… (all of the seat's roots in one cut). By AI agents, Wed Nov 11 2026. No macro, syntax, notation, axiom, sorry.
-/
import Derived.Test.YtjcbbmlloadagaaDoorChecked
import GoSem.Claim
import GoSem.ClaimJoined
import GoSem.ClaimMapViews
import Derived.JoinedTies
import Derived.KernelRfl
namespace Go.Proofs.YtjcbbmlloadagaaDoor
/- THE CELL 'sum', in the pinned program and in every row, IS THE sha256 OF THE DUMP (.gsa) THAT YtjcbbmlloadagaaDoorProg.lean LOADS. Nothing in Lean hashes anything: it is a label: what it is worth is what the hold of that sum in a sandbox is worth. -/
noncomputable def Tryd.pinned : Pinned := { name := "ytjcbbmlloadagaadoor", sum := "a7007d28a85d4ca9c3e656890d4db7ab776e4b122b5bb9ae452d1bdac492f2c7", checked := Tryd.checked }
namespace Rows
def none {H : Type} : Left H := { results := [], args := [] }

/- WHAT THE LISTED PACKAGE-LEVEL VARIABLES READ AS WHEN THE CALL BEGINS. Each datum BY PROGRAM (the guide's laid-datum.mjs) off the statement by which the dump's own 'gosem.cut.vars' lays the variable. In a bare row this is a premise. The card (YtjcbbmlloadagaaDoorCards.lean) ties it to the program's text. -/
def laid_errors_errorType {H : Type} : DataW H := .iface "internal/reflectlite.rtype" (.agg [.ptr (.lit (.string [101, 114, 114, 111, 114]))])

/-- 'redoubtlaw03.Ip4Parses': WHATEVER THE INPUT: true; the input reads as it did. -/
def ip4ParsesSpec : ChangeSpec := { name := "ip4Parses", fn := fun _ => fun
  | [d1, d2] => { results := [.lit (.bool true)], args := [d1, d2] }
  | _ => none }
def ip4ParsesRow : OpenClaim := { program := "ytjcbbmlloadagaadoor", sum := "a7007d28a85d4ca9c3e656890d4db7ab776e4b122b5bb9ae452d1bdac492f2c7", func := "redoubt/redoubtlaw03.Ip4Parses", spec := "ip4Parses", inPlace := ["internal/reflectlite.ValueOf", "(internal/reflectlite.Value).Type", "(internal/reflectlite.Value).IsNil", "internal/reflectlite.TypeOf", "(internal/reflectlite.Value).Elem", "(internal/reflectlite.Value).Set"], unfollowed := true, recurses := true, named := ["errors.errorType"], apart := false, laid := [("errors.errorType", laid_errors_errorType)] }
def Ip4ParsesSaid : Prop := ip4ParsesRow.holds Tryd.pinned (OpenSpec.ofChange ip4ParsesSpec)

/-- ITS FALSE NEIGHBOUR: 'it returns false'. Refute it at one input. -/
def ip4ParsesWrong : ChangeSpec := { name := "ip4Parses", fn := fun _ => fun
  | [d1, d2] => { results := [.lit (.bool false)], args := [d1, d2] }
  | _ => none }
def Ip4ParsesWrongFalsely : Prop := ip4ParsesRow.holds Tryd.pinned (OpenSpec.ofChange ip4ParsesWrong)

/-- 'redoubtlaw03.Ip4Back': WHATEVER THE INPUT: true; the input reads as it did. -/
def ip4BackSpec : ChangeSpec := { name := "ip4Back", fn := fun _ => fun
  | [d1, d2] => { results := [.lit (.bool true)], args := [d1, d2] }
  | _ => none }
def ip4BackRow : OpenClaim := { program := "ytjcbbmlloadagaadoor", sum := "a7007d28a85d4ca9c3e656890d4db7ab776e4b122b5bb9ae452d1bdac492f2c7", func := "redoubt/redoubtlaw03.Ip4Back", spec := "ip4Back", inPlace := ["internal/reflectlite.ValueOf", "(internal/reflectlite.Value).Type", "(internal/reflectlite.Value).IsNil", "internal/reflectlite.TypeOf", "(internal/reflectlite.Value).Elem", "(internal/reflectlite.Value).Set"], unfollowed := true, recurses := true, named := ["errors.errorType"], apart := false, laid := [("errors.errorType", laid_errors_errorType)] }
def Ip4BackSaid : Prop := ip4BackRow.holds Tryd.pinned (OpenSpec.ofChange ip4BackSpec)

/-- ITS FALSE NEIGHBOUR: 'it returns false'. Refute it at one input. -/
def ip4BackWrong : ChangeSpec := { name := "ip4Back", fn := fun _ => fun
  | [d1, d2] => { results := [.lit (.bool false)], args := [d1, d2] }
  | _ => none }
def Ip4BackWrongFalsely : Prop := ip4BackRow.holds Tryd.pinned (OpenSpec.ofChange ip4BackWrong)

/-- 'redoubtlaw03.Ip4Options': WHATEVER THE INPUT: true; the input reads as it did. -/
def ip4OptionsSpec : ChangeSpec := { name := "ip4Options", fn := fun _ => fun
  | [d1, d2] => { results := [.lit (.bool true)], args := [d1, d2] }
  | _ => none }
def ip4OptionsRow : OpenClaim := { program := "ytjcbbmlloadagaadoor", sum := "a7007d28a85d4ca9c3e656890d4db7ab776e4b122b5bb9ae452d1bdac492f2c7", func := "redoubt/redoubtlaw03.Ip4Options", spec := "ip4Options", inPlace := ["internal/reflectlite.ValueOf", "(internal/reflectlite.Value).Type", "(internal/reflectlite.Value).IsNil", "internal/reflectlite.TypeOf", "(internal/reflectlite.Value).Elem", "(internal/reflectlite.Value).Set"], unfollowed := true, recurses := true, named := ["errors.errorType"], apart := false, laid := [("errors.errorType", laid_errors_errorType)] }
def Ip4OptionsSaid : Prop := ip4OptionsRow.holds Tryd.pinned (OpenSpec.ofChange ip4OptionsSpec)

/-- ITS FALSE NEIGHBOUR: 'it returns false'. Refute it at one input. -/
def ip4OptionsWrong : ChangeSpec := { name := "ip4Options", fn := fun _ => fun
  | [d1, d2] => { results := [.lit (.bool false)], args := [d1, d2] }
  | _ => none }
def Ip4OptionsWrongFalsely : Prop := ip4OptionsRow.holds Tryd.pinned (OpenSpec.ofChange ip4OptionsWrong)

/-- 'redoubtlaw03.Ip4Lays': WHATEVER THE INPUT: true; the input reads as it did. -/
def ip4LaysSpec : ChangeSpec := { name := "ip4Lays", fn := fun _ => fun
  | [d] => { results := [.lit (.bool true)], args := [d] }
  | _ => none }
def ip4LaysRow : OpenClaim := { program := "ytjcbbmlloadagaadoor", sum := "a7007d28a85d4ca9c3e656890d4db7ab776e4b122b5bb9ae452d1bdac492f2c7", func := "redoubt/redoubtlaw03.Ip4Lays", spec := "ip4Lays", inPlace := ["internal/reflectlite.ValueOf", "(internal/reflectlite.Value).Type", "(internal/reflectlite.Value).IsNil", "internal/reflectlite.TypeOf", "(internal/reflectlite.Value).Elem", "(internal/reflectlite.Value).Set"], unfollowed := true, recurses := true, named := ["errors.errorType"], apart := false, laid := [("errors.errorType", laid_errors_errorType)] }
def Ip4LaysSaid : Prop := ip4LaysRow.holds Tryd.pinned (OpenSpec.ofChange ip4LaysSpec)

/-- ITS FALSE NEIGHBOUR: 'it returns false'. Refute it at one input. -/
def ip4LaysWrong : ChangeSpec := { name := "ip4Lays", fn := fun _ => fun
  | [d] => { results := [.lit (.bool false)], args := [d] }
  | _ => none }
def Ip4LaysWrongFalsely : Prop := ip4LaysRow.holds Tryd.pinned (OpenSpec.ofChange ip4LaysWrong)

/-- 'redoubtlaw03.Ip4Heads': WHATEVER THE INPUT: true; the input reads as it did. -/
def ip4HeadsSpec : ChangeSpec := { name := "ip4Heads", fn := fun _ => fun
  | [d1, d2, d3] => { results := [.lit (.bool true)], args := [d1, d2, d3] }
  | _ => none }
def ip4HeadsRow : OpenClaim := { program := "ytjcbbmlloadagaadoor", sum := "a7007d28a85d4ca9c3e656890d4db7ab776e4b122b5bb9ae452d1bdac492f2c7", func := "redoubt/redoubtlaw03.Ip4Heads", spec := "ip4Heads", inPlace := ["internal/reflectlite.ValueOf", "(internal/reflectlite.Value).Type", "(internal/reflectlite.Value).IsNil", "internal/reflectlite.TypeOf", "(internal/reflectlite.Value).Elem", "(internal/reflectlite.Value).Set"], unfollowed := true, recurses := true, named := ["errors.errorType"], apart := false, laid := [("errors.errorType", laid_errors_errorType)] }
def Ip4HeadsSaid : Prop := ip4HeadsRow.holds Tryd.pinned (OpenSpec.ofChange ip4HeadsSpec)

/-- ITS FALSE NEIGHBOUR: 'it returns false'. Refute it at one input. -/
def ip4HeadsWrong : ChangeSpec := { name := "ip4Heads", fn := fun _ => fun
  | [d1, d2, d3] => { results := [.lit (.bool false)], args := [d1, d2, d3] }
  | _ => none }
def Ip4HeadsWrongFalsely : Prop := ip4HeadsRow.holds Tryd.pinned (OpenSpec.ofChange ip4HeadsWrong)

/- THE SECOND FORM. 'bulk': how many values and letters a reading holds, each counted each time it is reached (what is shared counts as often as it is met; a slice's spare places count too). A statement '..UptoSaid' is the law's where the arguments, and the package variables that the reading takes, are together of bulk at most 1048576: NARROWER than '..Said'. Prove '..Said' where nothing that the law and all that it calls make is longer than what came in: it says more and counts as full. Else prove '..UptoSaid'. A law counts once. -/
mutual
def uptoBulk {H : Type} : DataW H → Nat
  | .lit (.string bytes) => bytes.length + 1
  | .lit _ => 1
  | .nil => 1
  | .ptr d => uptoBulk d + 1
  | .slice elems spare => uptoBulkAll elems + uptoBulkAll spare + 1
  | .agg parts => uptoBulkAll parts + 1
  | .iface _ d => uptoBulk d + 1
  | .map entries => uptoBulkEntries entries + 1
  | .held _ => 1
def uptoBulkAll {H : Type} : List (DataW H) → Nat
  | [] => 0
  | d :: r => uptoBulk d + uptoBulkAll r
def uptoBulkEntries {H : Type} : List (Lit × DataW H) → Nat
  | [] => 0
  | x :: r => uptoBulkEntry x + uptoBulkEntries r
def uptoBulkEntry {H : Type} : Lit × DataW H → Nat
  | (.string bytes, d) => bytes.length + uptoBulk d + 1
  | (_, d) => uptoBulk d + 1
 end
def uptoSmall : (H : Type) → List (DataW H) → Bool := fun _ ds => decide (uptoBulkAll ds ≤ 1048576)
def OpenSpec.upto (s : _root_.Go.ChangeSpec) : _root_.Go.OpenSpec := { _root_.Go.OpenSpec.ofChange s with cond := some uptoSmall }

/-- 'redoubtlaw03.Ip4Parses', WHERE WHAT IT READS IS OF BULK AT MOST 1048576: true; the input reads as it did. -/
def ip4ParsesUptoRow : OpenClaim := { program := "ytjcbbmlloadagaadoor", sum := "a7007d28a85d4ca9c3e656890d4db7ab776e4b122b5bb9ae452d1bdac492f2c7", func := "redoubt/redoubtlaw03.Ip4Parses", spec := "ip4Parses", inPlace := ["internal/reflectlite.ValueOf", "(internal/reflectlite.Value).Type", "(internal/reflectlite.Value).IsNil", "internal/reflectlite.TypeOf", "(internal/reflectlite.Value).Elem", "(internal/reflectlite.Value).Set"], unfollowed := true, recurses := true, named := ["errors.errorType"], apart := false, laid := [("errors.errorType", laid_errors_errorType)], narrowed := true }
def Ip4ParsesUptoSaid : Prop := ip4ParsesUptoRow.holds Tryd.pinned (OpenSpec.upto ip4ParsesSpec)

/-- 'redoubtlaw03.Ip4Back', WHERE WHAT IT READS IS OF BULK AT MOST 1048576: true; the input reads as it did. -/
def ip4BackUptoRow : OpenClaim := { program := "ytjcbbmlloadagaadoor", sum := "a7007d28a85d4ca9c3e656890d4db7ab776e4b122b5bb9ae452d1bdac492f2c7", func := "redoubt/redoubtlaw03.Ip4Back", spec := "ip4Back", inPlace := ["internal/reflectlite.ValueOf", "(internal/reflectlite.Value).Type", "(internal/reflectlite.Value).IsNil", "internal/reflectlite.TypeOf", "(internal/reflectlite.Value).Elem", "(internal/reflectlite.Value).Set"], unfollowed := true, recurses := true, named := ["errors.errorType"], apart := false, laid := [("errors.errorType", laid_errors_errorType)], narrowed := true }
def Ip4BackUptoSaid : Prop := ip4BackUptoRow.holds Tryd.pinned (OpenSpec.upto ip4BackSpec)

/-- 'redoubtlaw03.Ip4Options', WHERE WHAT IT READS IS OF BULK AT MOST 1048576: true; the input reads as it did. -/
def ip4OptionsUptoRow : OpenClaim := { program := "ytjcbbmlloadagaadoor", sum := "a7007d28a85d4ca9c3e656890d4db7ab776e4b122b5bb9ae452d1bdac492f2c7", func := "redoubt/redoubtlaw03.Ip4Options", spec := "ip4Options", inPlace := ["internal/reflectlite.ValueOf", "(internal/reflectlite.Value).Type", "(internal/reflectlite.Value).IsNil", "internal/reflectlite.TypeOf", "(internal/reflectlite.Value).Elem", "(internal/reflectlite.Value).Set"], unfollowed := true, recurses := true, named := ["errors.errorType"], apart := false, laid := [("errors.errorType", laid_errors_errorType)], narrowed := true }
def Ip4OptionsUptoSaid : Prop := ip4OptionsUptoRow.holds Tryd.pinned (OpenSpec.upto ip4OptionsSpec)

/-- 'redoubtlaw03.Ip4Lays', WHERE WHAT IT READS IS OF BULK AT MOST 1048576: true; the input reads as it did. -/
def ip4LaysUptoRow : OpenClaim := { program := "ytjcbbmlloadagaadoor", sum := "a7007d28a85d4ca9c3e656890d4db7ab776e4b122b5bb9ae452d1bdac492f2c7", func := "redoubt/redoubtlaw03.Ip4Lays", spec := "ip4Lays", inPlace := ["internal/reflectlite.ValueOf", "(internal/reflectlite.Value).Type", "(internal/reflectlite.Value).IsNil", "internal/reflectlite.TypeOf", "(internal/reflectlite.Value).Elem", "(internal/reflectlite.Value).Set"], unfollowed := true, recurses := true, named := ["errors.errorType"], apart := false, laid := [("errors.errorType", laid_errors_errorType)], narrowed := true }
def Ip4LaysUptoSaid : Prop := ip4LaysUptoRow.holds Tryd.pinned (OpenSpec.upto ip4LaysSpec)

/-- 'redoubtlaw03.Ip4Heads', WHERE WHAT IT READS IS OF BULK AT MOST 1048576: true; the input reads as it did. -/
def ip4HeadsUptoRow : OpenClaim := { program := "ytjcbbmlloadagaadoor", sum := "a7007d28a85d4ca9c3e656890d4db7ab776e4b122b5bb9ae452d1bdac492f2c7", func := "redoubt/redoubtlaw03.Ip4Heads", spec := "ip4Heads", inPlace := ["internal/reflectlite.ValueOf", "(internal/reflectlite.Value).Type", "(internal/reflectlite.Value).IsNil", "internal/reflectlite.TypeOf", "(internal/reflectlite.Value).Elem", "(internal/reflectlite.Value).Set"], unfollowed := true, recurses := true, named := ["errors.errorType"], apart := false, laid := [("errors.errorType", laid_errors_errorType)], narrowed := true }
def Ip4HeadsUptoSaid : Prop := ip4HeadsUptoRow.holds Tryd.pinned (OpenSpec.upto ip4HeadsSpec)

end Rows
end Go.Proofs.YtjcbbmlloadagaaDoor
