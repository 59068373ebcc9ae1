/-
  DERIVED. GIVEN WITH THE SEED: THE CARDS: each row of YtkcnllbfinjaiaaDoorRows.lean that lists a variable, with what it lists TIED to the program's text (the seventh form; the later family's looks); each row that meets fmt, with fmt's text TOLD by the authors' own Lean function (tested against real Go, not proved from fmt's source: count such statements apart). THE CARD IS WHAT COUNTS. Prove the row's statement (the work); the ties are given (YtkcnllbfinjaiaaDoorTie.lean); close each card by the builder's one call (the guide's Derived/Test/ToyasCard.lean, 'card_holds'). Laid BY PROGRAM, IN A SANDBOX (cutbox-door.mjs). By AI agents, Wed Nov 11 2026. No macro, syntax, notation, axiom, sorry.
-/
import Derived.Test.YtkcnllbfinjaiaaDoorRows
import GoSem.ClaimSeven
namespace Go.Proofs.YtkcnllbfinjaiaaDoor
namespace Rows

/-- THE TIED CARD OF 'redoubtlaw11.MacSame'. -/
def macSameCard : Claim7 := { stood := { row := macSameRow, standIns := [], harness := (true, "ce6ee2c9af53df867205e26339bfd71d672698130cdcbaff6ce821be702aa199"), looks := false }, kinds := [], alts := [], laidByText := true, laidKinds := [.data], laidTests := true, laidLooks := .later }
def MacSameCardSaid : Prop := Claim7.holds Tryd.pinned (.plain (OpenSpec.ofChange macSameSpec)) macSameCard

/-- THE TIED CARD OF 'redoubtlaw11.MacLong'. -/
def macLongCard : Claim7 := { stood := { row := macLongRow, standIns := [], harness := (true, "ce6ee2c9af53df867205e26339bfd71d672698130cdcbaff6ce821be702aa199"), looks := false }, kinds := [], alts := [], laidByText := true, laidKinds := [.data], laidTests := true, laidLooks := .later }
def MacLongCardSaid : Prop := Claim7.holds Tryd.pinned (.plain (OpenSpec.ofChange macLongSpec)) macLongCard

/-- THE TIED CARD OF 'redoubtlaw11.MacTells'. -/
def macTellsCard : Claim7 := { stood := { row := macTellsRow, standIns := [], harness := (true, "ce6ee2c9af53df867205e26339bfd71d672698130cdcbaff6ce821be702aa199"), looks := false }, kinds := [], alts := [], laidByText := true, laidKinds := [.data], laidTests := true, laidLooks := .later }
def MacTellsCardSaid : Prop := Claim7.holds Tryd.pinned (.plain (OpenSpec.ofChange macTellsSpec)) macTellsCard

/-- THE TIED CARD OF 'redoubtlaw11.MacParts'. -/
def macPartsCard : Claim7 := { stood := { row := macPartsRow, standIns := [], harness := (true, "ce6ee2c9af53df867205e26339bfd71d672698130cdcbaff6ce821be702aa199"), looks := false }, kinds := [], alts := [], laidByText := true, laidKinds := [.data], laidTests := true, laidLooks := .later }
def MacPartsCardSaid : Prop := Claim7.holds Tryd.pinned (.plain (OpenSpec.ofChange macPartsSpec)) macPartsCard

/-- THE SECOND FORM's CARD OF 'redoubtlaw11.MacSame'. -/
def macSameUptoCard : Claim7 := { stood := { row := macSameUptoRow, standIns := [], harness := (true, "ce6ee2c9af53df867205e26339bfd71d672698130cdcbaff6ce821be702aa199"), looks := false }, kinds := [], alts := [], laidByText := true, laidKinds := [.data], laidTests := true, laidLooks := .later }
def MacSameUptoCardSaid : Prop := Claim7.holds Tryd.pinned (.plain (OpenSpec.upto macSameSpec)) macSameUptoCard

/-- THE SECOND FORM's CARD OF 'redoubtlaw11.MacLong'. -/
def macLongUptoCard : Claim7 := { stood := { row := macLongUptoRow, standIns := [], harness := (true, "ce6ee2c9af53df867205e26339bfd71d672698130cdcbaff6ce821be702aa199"), looks := false }, kinds := [], alts := [], laidByText := true, laidKinds := [.data], laidTests := true, laidLooks := .later }
def MacLongUptoCardSaid : Prop := Claim7.holds Tryd.pinned (.plain (OpenSpec.upto macLongSpec)) macLongUptoCard

/-- THE SECOND FORM's CARD OF 'redoubtlaw11.MacTells'. -/
def macTellsUptoCard : Claim7 := { stood := { row := macTellsUptoRow, standIns := [], harness := (true, "ce6ee2c9af53df867205e26339bfd71d672698130cdcbaff6ce821be702aa199"), looks := false }, kinds := [], alts := [], laidByText := true, laidKinds := [.data], laidTests := true, laidLooks := .later }
def MacTellsUptoCardSaid : Prop := Claim7.holds Tryd.pinned (.plain (OpenSpec.upto macTellsSpec)) macTellsUptoCard

/-- THE SECOND FORM's CARD OF 'redoubtlaw11.MacParts'. -/
def macPartsUptoCard : Claim7 := { stood := { row := macPartsUptoRow, standIns := [], harness := (true, "ce6ee2c9af53df867205e26339bfd71d672698130cdcbaff6ce821be702aa199"), looks := false }, kinds := [], alts := [], laidByText := true, laidKinds := [.data], laidTests := true, laidLooks := .later }
def MacPartsUptoCardSaid : Prop := Claim7.holds Tryd.pinned (.plain (OpenSpec.upto macPartsSpec)) macPartsUptoCard
end Rows
end Go.Proofs.YtkcnllbfinjaiaaDoor
