/-
  DERIVED. GIVEN WITH THE SEED: THE CARDS: each row of YtekaoknpjpbjgaaDoorRows.lean that lists a variable, with what it lists TIED to the program's text (the seventh form; the later family's looks); each row that meets fmt, with fmt's text TOLD by the authors' own Lean function (tested against real Go, not proved from fmt's source: count such statements apart). THE CARD IS WHAT COUNTS. Prove the row's statement (the work); the ties are given (YtekaoknpjpbjgaaDoorTie.lean); close each card by the builder's one call (the guide's Derived/Test/ToyasCard.lean, 'card_holds'). Laid BY PROGRAM, IN A SANDBOX (cutbox-door.mjs). By AI agents, Wed Nov 11 2026. No macro, syntax, notation, axiom, sorry.
-/
import Derived.Test.YtekaoknpjpbjgaaDoorRows
import GoSem.ClaimSeven
namespace Go.Proofs.YtekaoknpjpbjgaaDoor
namespace Rows

/-- THE TIED CARD OF 'redoubtlaw14.EspSeals'. -/
def espSealsCard : Claim7 := { stood := { row := espSealsRow, standIns := [], harness := (true, "6d0bc589edbc335874ac4cc13cf2f12585d2e0e1d70c5c4f9596fb0a6a74e909"), looks := true }, kinds := [], alts := [], laidByText := true, laidKinds := [.data], laidTests := true, laidLooks := .later }
def EspSealsCardSaid : Prop := Claim7.holds Tryd.pinned (.plain (OpenSpec.ofChange espSealsSpec)) espSealsCard

/-- THE TIED CARD OF 'redoubtlaw14.EspOpens'. -/
def espOpensCard : Claim7 := { stood := { row := espOpensRow, standIns := [], harness := (true, "6d0bc589edbc335874ac4cc13cf2f12585d2e0e1d70c5c4f9596fb0a6a74e909"), looks := true }, kinds := [], alts := [], laidByText := true, laidKinds := [.data], laidTests := true, laidLooks := .later }
def EspOpensCardSaid : Prop := Claim7.holds Tryd.pinned (.plain (OpenSpec.ofChange espOpensSpec)) espOpensCard

/-- THE TIED CARD OF 'redoubtlaw14.EspBack'. -/
def espBackCard : Claim7 := { stood := { row := espBackRow, standIns := [], harness := (true, "6d0bc589edbc335874ac4cc13cf2f12585d2e0e1d70c5c4f9596fb0a6a74e909"), looks := true }, kinds := [], alts := [], laidByText := true, laidKinds := [.data], laidTests := true, laidLooks := .later }
def EspBackCardSaid : Prop := Claim7.holds Tryd.pinned (.plain (OpenSpec.ofChange espBackSpec)) espBackCard

/-- THE TIED CARD OF 'redoubtlaw14.EspForged'. -/
def espForgedCard : Claim7 := { stood := { row := espForgedRow, standIns := [], harness := (true, "6d0bc589edbc335874ac4cc13cf2f12585d2e0e1d70c5c4f9596fb0a6a74e909"), looks := true }, kinds := [], alts := [], laidByText := true, laidKinds := [.data], laidTests := true, laidLooks := .later }
def EspForgedCardSaid : Prop := Claim7.holds Tryd.pinned (.plain (OpenSpec.ofChange espForgedSpec)) espForgedCard

/-- THE TIED CARD OF 'redoubtlaw14.EspNumbers'. -/
def espNumbersCard : Claim7 := { stood := { row := espNumbersRow, standIns := [], harness := (true, "6d0bc589edbc335874ac4cc13cf2f12585d2e0e1d70c5c4f9596fb0a6a74e909"), looks := true }, kinds := [], alts := [], laidByText := true, laidKinds := [.data], laidTests := true, laidLooks := .later }
def EspNumbersCardSaid : Prop := Claim7.holds Tryd.pinned (.plain (OpenSpec.ofChange espNumbersSpec)) espNumbersCard

/-- THE SECOND FORM's CARD OF 'redoubtlaw14.EspSeals'. -/
def espSealsUptoCard : Claim7 := { stood := { row := espSealsUptoRow, standIns := [], harness := (true, "6d0bc589edbc335874ac4cc13cf2f12585d2e0e1d70c5c4f9596fb0a6a74e909"), looks := true }, kinds := [], alts := [], laidByText := true, laidKinds := [.data], laidTests := true, laidLooks := .later }
def EspSealsUptoCardSaid : Prop := Claim7.holds Tryd.pinned (.plain (OpenSpec.upto espSealsSpec)) espSealsUptoCard

/-- THE SECOND FORM's CARD OF 'redoubtlaw14.EspOpens'. -/
def espOpensUptoCard : Claim7 := { stood := { row := espOpensUptoRow, standIns := [], harness := (true, "6d0bc589edbc335874ac4cc13cf2f12585d2e0e1d70c5c4f9596fb0a6a74e909"), looks := true }, kinds := [], alts := [], laidByText := true, laidKinds := [.data], laidTests := true, laidLooks := .later }
def EspOpensUptoCardSaid : Prop := Claim7.holds Tryd.pinned (.plain (OpenSpec.upto espOpensSpec)) espOpensUptoCard

/-- THE SECOND FORM's CARD OF 'redoubtlaw14.EspBack'. -/
def espBackUptoCard : Claim7 := { stood := { row := espBackUptoRow, standIns := [], harness := (true, "6d0bc589edbc335874ac4cc13cf2f12585d2e0e1d70c5c4f9596fb0a6a74e909"), looks := true }, kinds := [], alts := [], laidByText := true, laidKinds := [.data], laidTests := true, laidLooks := .later }
def EspBackUptoCardSaid : Prop := Claim7.holds Tryd.pinned (.plain (OpenSpec.upto espBackSpec)) espBackUptoCard

/-- THE SECOND FORM's CARD OF 'redoubtlaw14.EspForged'. -/
def espForgedUptoCard : Claim7 := { stood := { row := espForgedUptoRow, standIns := [], harness := (true, "6d0bc589edbc335874ac4cc13cf2f12585d2e0e1d70c5c4f9596fb0a6a74e909"), looks := true }, kinds := [], alts := [], laidByText := true, laidKinds := [.data], laidTests := true, laidLooks := .later }
def EspForgedUptoCardSaid : Prop := Claim7.holds Tryd.pinned (.plain (OpenSpec.upto espForgedSpec)) espForgedUptoCard

/-- THE SECOND FORM's CARD OF 'redoubtlaw14.EspNumbers'. -/
def espNumbersUptoCard : Claim7 := { stood := { row := espNumbersUptoRow, standIns := [], harness := (true, "6d0bc589edbc335874ac4cc13cf2f12585d2e0e1d70c5c4f9596fb0a6a74e909"), looks := true }, kinds := [], alts := [], laidByText := true, laidKinds := [.data], laidTests := true, laidLooks := .later }
def EspNumbersUptoCardSaid : Prop := Claim7.holds Tryd.pinned (.plain (OpenSpec.upto espNumbersSpec)) espNumbersUptoCard
end Rows
end Go.Proofs.YtekaoknpjpbjgaaDoor
