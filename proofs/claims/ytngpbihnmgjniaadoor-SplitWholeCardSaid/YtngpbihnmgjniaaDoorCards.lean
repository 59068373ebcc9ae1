/-
  DERIVED. GIVEN WITH THE SEED: THE CARDS: each row of YtngpbihnmgjniaaDoorRows.lean that lists a variable, with what it lists TIED to the program's text (the seventh form; the later family's looks); each row that meets fmt, with fmt's text TOLD by the authors' own Lean function (tested against real Go, not proved from fmt's source: count such statements apart). THE CARD IS WHAT COUNTS. Prove the row's statement (the work); the ties are given (YtngpbihnmgjniaaDoorTie.lean); close each card by the builder's one call (the guide's Derived/Test/ToyasCard.lean, 'card_holds'). Laid BY PROGRAM, IN A SANDBOX (cutbox-door.mjs). By AI agents, Wed Nov 11 2026. No macro, syntax, notation, axiom, sorry.
-/
import Derived.Test.YtngpbihnmgjniaaDoorRows
import GoSem.ClaimSeven
namespace Go.Proofs.YtngpbihnmgjniaaDoor
namespace Rows

/-- THE TIED CARD OF 'redoubtlaw19.SplitAgain'. -/
def splitAgainCard : Claim7 := { stood := { row := splitAgainRow, standIns := [], harness := (true, "7b9e7030f3addcef92cc88a2579d73c36b3daf6ce5e03f662ce315df26646a81"), looks := true }, kinds := [], alts := [], laidByText := true, laidKinds := [.handle], laidTests := true, laidLooks := .later }
def SplitAgainCardSaid : Prop := Claim7.holds Tryd.pinned (.plain (OpenSpec.ofChange splitAgainSpec)) splitAgainCard

/-- THE TIED CARD OF 'redoubtlaw19.SplitMany'. -/
def splitManyCard : Claim7 := { stood := { row := splitManyRow, standIns := [], harness := (true, "7b9e7030f3addcef92cc88a2579d73c36b3daf6ce5e03f662ce315df26646a81"), looks := true }, kinds := [], alts := [], laidByText := true, laidKinds := [.handle], laidTests := true, laidLooks := .later }
def SplitManyCardSaid : Prop := Claim7.holds Tryd.pinned (.plain (OpenSpec.ofChange splitManySpec)) splitManyCard

/-- THE TIED CARD OF 'redoubtlaw19.SplitWhole'. -/
def splitWholeCard : Claim7 := { stood := { row := splitWholeRow, standIns := [], harness := (true, "7b9e7030f3addcef92cc88a2579d73c36b3daf6ce5e03f662ce315df26646a81"), looks := true }, kinds := [], alts := [], laidByText := true, laidKinds := [.handle], laidTests := true, laidLooks := .later }
def SplitWholeCardSaid : Prop := Claim7.holds Tryd.pinned (.plain (OpenSpec.ofChange splitWholeSpec)) splitWholeCard

/-- THE SECOND FORM's CARD OF 'redoubtlaw19.SplitAgain'. -/
def splitAgainUptoCard : Claim7 := { stood := { row := splitAgainUptoRow, standIns := [], harness := (true, "7b9e7030f3addcef92cc88a2579d73c36b3daf6ce5e03f662ce315df26646a81"), looks := true }, kinds := [], alts := [], laidByText := true, laidKinds := [.handle], laidTests := true, laidLooks := .later }
def SplitAgainUptoCardSaid : Prop := Claim7.holds Tryd.pinned (.plain (OpenSpec.upto splitAgainSpec)) splitAgainUptoCard

/-- THE SECOND FORM's CARD OF 'redoubtlaw19.SplitMany'. -/
def splitManyUptoCard : Claim7 := { stood := { row := splitManyUptoRow, standIns := [], harness := (true, "7b9e7030f3addcef92cc88a2579d73c36b3daf6ce5e03f662ce315df26646a81"), looks := true }, kinds := [], alts := [], laidByText := true, laidKinds := [.handle], laidTests := true, laidLooks := .later }
def SplitManyUptoCardSaid : Prop := Claim7.holds Tryd.pinned (.plain (OpenSpec.upto splitManySpec)) splitManyUptoCard

/-- THE SECOND FORM's CARD OF 'redoubtlaw19.SplitWhole'. -/
def splitWholeUptoCard : Claim7 := { stood := { row := splitWholeUptoRow, standIns := [], harness := (true, "7b9e7030f3addcef92cc88a2579d73c36b3daf6ce5e03f662ce315df26646a81"), looks := true }, kinds := [], alts := [], laidByText := true, laidKinds := [.handle], laidTests := true, laidLooks := .later }
def SplitWholeUptoCardSaid : Prop := Claim7.holds Tryd.pinned (.plain (OpenSpec.upto splitWholeSpec)) splitWholeUptoCard
end Rows
end Go.Proofs.YtngpbihnmgjniaaDoor
