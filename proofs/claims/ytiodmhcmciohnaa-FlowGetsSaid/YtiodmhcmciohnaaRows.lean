/-
  No cell of these rows narrows 'for every input' (looked for: loops, veiled, ifaces, maps, wideKeys, modest, calm, conditions, laid).
  DERIVED. THE GIVEN ROWS OF THIS SEAT. 5 by the template 'for every input the law returns true; each argument reads behind the call as it read before'; 0 by the template 'total and deterministic' (their statements: YtiodmhcmciohnaaTotals.lean).
  GIVEN WITH THE SEED: the statements are not yours to turn. If you find one false, say at which input.
  Laid BY PROGRAM, IN A SANDBOX (cutbox-rows.mjs): the forced cells as the released guide's own fill.sh prints them over the translation 452eacd66117a98a… (all of the seat's roots in one cut). By AI agents, Wed Nov 11 2026. No macro, syntax, notation, axiom, sorry.
-/
import Derived.Test.YtiodmhcmciohnaaChecked
import GoSem.Claim
import GoSem.ClaimJoined
import GoSem.ClaimMapViews
import Derived.JoinedTies
import Derived.KernelRfl
namespace Go.Proofs.Ytiodmhcmciohnaa
/- THE CELL 'sum', in the pinned program and in every row, IS THE sha256 OF THE DUMP (.gsa) THAT YtiodmhcmciohnaaProg.lean LOADS. Nothing in Lean hashes anything: it is a label: what it is worth is what the hold of that sum in a sandbox is worth. -/
noncomputable def Try.pinned : Pinned := { name := "ytiodmhcmciohnaa", sum := "452eacd66117a98a29d59734e4037fc2be13f2f1dd1d25c5dd6491308b97afcf", checked := Try.checked }
namespace Rows
def none {H : Type} : Left H := { results := [], args := [] }

/-- 'redoubtlaw25.FlowGets': WHATEVER THE INPUT: true; the input reads as it did. -/
def flowGetsSpec : ChangeSpec := { name := "flowGets", fn := fun _ => fun
  | [d1, d2] => { results := [.lit (.bool true)], args := [d1, d2] }
  | _ => none }
def flowGetsRow : OpenClaim := { program := "ytiodmhcmciohnaa", sum := "452eacd66117a98a29d59734e4037fc2be13f2f1dd1d25c5dd6491308b97afcf", func := "redoubt/redoubtlaw25.FlowGets", spec := "flowGets", unfollowed := true, recurses := true, apart := false }
def FlowGetsSaid : Prop := flowGetsRow.holds Try.pinned (OpenSpec.ofChange flowGetsSpec)

/-- ITS FALSE NEIGHBOUR: 'it returns false'. Refute it at one input. -/
def flowGetsWrong : ChangeSpec := { name := "flowGets", fn := fun _ => fun
  | [d1, d2] => { results := [.lit (.bool false)], args := [d1, d2] }
  | _ => none }
def FlowGetsWrongFalsely : Prop := flowGetsRow.holds Try.pinned (OpenSpec.ofChange flowGetsWrong)

/-- 'redoubtlaw25.FlowPrefix': WHATEVER THE INPUT: true; the input reads as it did. -/
def flowPrefixSpec : ChangeSpec := { name := "flowPrefix", fn := fun _ => fun
  | [d1, d2, d3] => { results := [.lit (.bool true)], args := [d1, d2, d3] }
  | _ => none }
def flowPrefixRow : OpenClaim := { program := "ytiodmhcmciohnaa", sum := "452eacd66117a98a29d59734e4037fc2be13f2f1dd1d25c5dd6491308b97afcf", func := "redoubt/redoubtlaw25.FlowPrefix", spec := "flowPrefix", unfollowed := true, recurses := true, apart := false }
def FlowPrefixSaid : Prop := flowPrefixRow.holds Try.pinned (OpenSpec.ofChange flowPrefixSpec)

/-- ITS FALSE NEIGHBOUR: 'it returns false'. Refute it at one input. -/
def flowPrefixWrong : ChangeSpec := { name := "flowPrefix", fn := fun _ => fun
  | [d1, d2, d3] => { results := [.lit (.bool false)], args := [d1, d2, d3] }
  | _ => none }
def FlowPrefixWrongFalsely : Prop := flowPrefixRow.holds Try.pinned (OpenSpec.ofChange flowPrefixWrong)

/-- 'redoubtlaw25.FlowSends': WHATEVER THE INPUT: true; the input reads as it did. -/
def flowSendsSpec : ChangeSpec := { name := "flowSends", fn := fun _ => fun
  | [d1, d2] => { results := [.lit (.bool true)], args := [d1, d2] }
  | _ => none }
def flowSendsRow : OpenClaim := { program := "ytiodmhcmciohnaa", sum := "452eacd66117a98a29d59734e4037fc2be13f2f1dd1d25c5dd6491308b97afcf", func := "redoubt/redoubtlaw25.FlowSends", spec := "flowSends", unfollowed := true, recurses := true, apart := false }
def FlowSendsSaid : Prop := flowSendsRow.holds Try.pinned (OpenSpec.ofChange flowSendsSpec)

/-- ITS FALSE NEIGHBOUR: 'it returns false'. Refute it at one input. -/
def flowSendsWrong : ChangeSpec := { name := "flowSends", fn := fun _ => fun
  | [d1, d2] => { results := [.lit (.bool false)], args := [d1, d2] }
  | _ => none }
def FlowSendsWrongFalsely : Prop := flowSendsRow.holds Try.pinned (OpenSpec.ofChange flowSendsWrong)

/-- 'redoubtlaw25.FlowKeeps': WHATEVER THE INPUT: true; the input reads as it did. -/
def flowKeepsSpec : ChangeSpec := { name := "flowKeeps", fn := fun _ => fun
  | [d1, d2, d3] => { results := [.lit (.bool true)], args := [d1, d2, d3] }
  | _ => none }
def flowKeepsRow : OpenClaim := { program := "ytiodmhcmciohnaa", sum := "452eacd66117a98a29d59734e4037fc2be13f2f1dd1d25c5dd6491308b97afcf", func := "redoubt/redoubtlaw25.FlowKeeps", spec := "flowKeeps", unfollowed := true, recurses := true, apart := false }
def FlowKeepsSaid : Prop := flowKeepsRow.holds Try.pinned (OpenSpec.ofChange flowKeepsSpec)

/-- ITS FALSE NEIGHBOUR: 'it returns false'. Refute it at one input. -/
def flowKeepsWrong : ChangeSpec := { name := "flowKeeps", fn := fun _ => fun
  | [d1, d2, d3] => { results := [.lit (.bool false)], args := [d1, d2, d3] }
  | _ => none }
def FlowKeepsWrongFalsely : Prop := flowKeepsRow.holds Try.pinned (OpenSpec.ofChange flowKeepsWrong)

/-- 'redoubtlaw25.FlowNil': WHATEVER THE INPUT: true; the input reads as it did. -/
def flowNilSpec : ChangeSpec := { name := "flowNil", fn := fun _ => fun
  | [d1, d2] => { results := [.lit (.bool true)], args := [d1, d2] }
  | _ => none }
def flowNilRow : OpenClaim := { program := "ytiodmhcmciohnaa", sum := "452eacd66117a98a29d59734e4037fc2be13f2f1dd1d25c5dd6491308b97afcf", func := "redoubt/redoubtlaw25.FlowNil", spec := "flowNil", unfollowed := true, recurses := true, apart := false }
def FlowNilSaid : Prop := flowNilRow.holds Try.pinned (OpenSpec.ofChange flowNilSpec)

/-- ITS FALSE NEIGHBOUR: 'it returns false'. Refute it at one input. -/
def flowNilWrong : ChangeSpec := { name := "flowNil", fn := fun _ => fun
  | [d1, d2] => { results := [.lit (.bool false)], args := [d1, d2] }
  | _ => none }
def FlowNilWrongFalsely : Prop := flowNilRow.holds Try.pinned (OpenSpec.ofChange flowNilWrong)

/- THE SECOND FORM. 'bulk': how many values and letters a reading holds, each counted each time it is reached (what is shared counts as often as it is met; a slice's spare places count too). A statement '..UptoSaid' is the law's where the arguments, and the package variables that the reading takes, are together of bulk at most 1048576: NARROWER than '..Said'. Prove '..Said' where nothing that the law and all that it calls make is longer than what came in: it says more and counts as full. Else prove '..UptoSaid'. A law counts once. -/
mutual
def uptoBulk {H : Type} : DataW H → Nat
  | .lit (.string bytes) => bytes.length + 1
  | .lit _ => 1
  | .nil => 1
  | .ptr d => uptoBulk d + 1
  | .slice elems spare => uptoBulkAll elems + uptoBulkAll spare + 1
  | .agg parts => uptoBulkAll parts + 1
  | .iface _ d => uptoBulk d + 1
  | .map entries => uptoBulkEntries entries + 1
  | .held _ => 1
def uptoBulkAll {H : Type} : List (DataW H) → Nat
  | [] => 0
  | d :: r => uptoBulk d + uptoBulkAll r
def uptoBulkEntries {H : Type} : List (Lit × DataW H) → Nat
  | [] => 0
  | x :: r => uptoBulkEntry x + uptoBulkEntries r
def uptoBulkEntry {H : Type} : Lit × DataW H → Nat
  | (.string bytes, d) => bytes.length + uptoBulk d + 1
  | (_, d) => uptoBulk d + 1
 end
def uptoSmall : (H : Type) → List (DataW H) → Bool := fun _ ds => decide (uptoBulkAll ds ≤ 1048576)
def OpenSpec.upto (s : _root_.Go.ChangeSpec) : _root_.Go.OpenSpec := { _root_.Go.OpenSpec.ofChange s with cond := some uptoSmall }

/-- 'redoubtlaw25.FlowGets', WHERE WHAT IT READS IS OF BULK AT MOST 1048576: true; the input reads as it did. -/
def flowGetsUptoRow : OpenClaim := { program := "ytiodmhcmciohnaa", sum := "452eacd66117a98a29d59734e4037fc2be13f2f1dd1d25c5dd6491308b97afcf", func := "redoubt/redoubtlaw25.FlowGets", spec := "flowGets", unfollowed := true, recurses := true, apart := false, narrowed := true }
def FlowGetsUptoSaid : Prop := flowGetsUptoRow.holds Try.pinned (OpenSpec.upto flowGetsSpec)

/-- 'redoubtlaw25.FlowPrefix', WHERE WHAT IT READS IS OF BULK AT MOST 1048576: true; the input reads as it did. -/
def flowPrefixUptoRow : OpenClaim := { program := "ytiodmhcmciohnaa", sum := "452eacd66117a98a29d59734e4037fc2be13f2f1dd1d25c5dd6491308b97afcf", func := "redoubt/redoubtlaw25.FlowPrefix", spec := "flowPrefix", unfollowed := true, recurses := true, apart := false, narrowed := true }
def FlowPrefixUptoSaid : Prop := flowPrefixUptoRow.holds Try.pinned (OpenSpec.upto flowPrefixSpec)

/-- 'redoubtlaw25.FlowSends', WHERE WHAT IT READS IS OF BULK AT MOST 1048576: true; the input reads as it did. -/
def flowSendsUptoRow : OpenClaim := { program := "ytiodmhcmciohnaa", sum := "452eacd66117a98a29d59734e4037fc2be13f2f1dd1d25c5dd6491308b97afcf", func := "redoubt/redoubtlaw25.FlowSends", spec := "flowSends", unfollowed := true, recurses := true, apart := false, narrowed := true }
def FlowSendsUptoSaid : Prop := flowSendsUptoRow.holds Try.pinned (OpenSpec.upto flowSendsSpec)

/-- 'redoubtlaw25.FlowKeeps', WHERE WHAT IT READS IS OF BULK AT MOST 1048576: true; the input reads as it did. -/
def flowKeepsUptoRow : OpenClaim := { program := "ytiodmhcmciohnaa", sum := "452eacd66117a98a29d59734e4037fc2be13f2f1dd1d25c5dd6491308b97afcf", func := "redoubt/redoubtlaw25.FlowKeeps", spec := "flowKeeps", unfollowed := true, recurses := true, apart := false, narrowed := true }
def FlowKeepsUptoSaid : Prop := flowKeepsUptoRow.holds Try.pinned (OpenSpec.upto flowKeepsSpec)

/-- 'redoubtlaw25.FlowNil', WHERE WHAT IT READS IS OF BULK AT MOST 1048576: true; the input reads as it did. -/
def flowNilUptoRow : OpenClaim := { program := "ytiodmhcmciohnaa", sum := "452eacd66117a98a29d59734e4037fc2be13f2f1dd1d25c5dd6491308b97afcf", func := "redoubt/redoubtlaw25.FlowNil", spec := "flowNil", unfollowed := true, recurses := true, apart := false, narrowed := true }
def FlowNilUptoSaid : Prop := flowNilUptoRow.holds Try.pinned (OpenSpec.upto flowNilSpec)

end Rows
end Go.Proofs.Ytiodmhcmciohnaa
