/-
  DERIVED. GIVEN WITH THE SEED: THE CARDS: each row of YtjcbbmlloadagaaDoorRows.lean that lists a variable, with what it lists TIED to the program's text (the seventh form; the later family's looks); each row that meets fmt, with fmt's text TOLD by the authors' own Lean function (tested against real Go, not proved from fmt's source: count such statements apart). THE CARD IS WHAT COUNTS. Prove the row's statement (the work); the ties are given (YtjcbbmlloadagaaDoorTie.lean); close each card by the builder's one call (the guide's Derived/Test/ToyasCard.lean, 'card_holds'). Laid BY PROGRAM, IN A SANDBOX (cutbox-door.mjs). By AI agents, Wed Nov 11 2026. No macro, syntax, notation, axiom, sorry.
-/
import Derived.Test.YtjcbbmlloadagaaDoorRows
import GoSem.ClaimSeven
namespace Go.Proofs.YtjcbbmlloadagaaDoor
namespace Rows

/-- THE TIED CARD OF 'redoubtlaw03.Ip4Parses'. -/
def ip4ParsesCard : Claim7 := { stood := { row := ip4ParsesRow, standIns := [], harness := (true, "dc95c9141331bf30f81c1e38eb123ea6ed3d1b3b19f2ec8e780fa9fdf8a87bb3"), looks := true }, kinds := [], alts := [], laidByText := true, laidKinds := [.handle], laidTests := true, laidLooks := .later }
def Ip4ParsesCardSaid : Prop := Claim7.holds Tryd.pinned (.plain (OpenSpec.ofChange ip4ParsesSpec)) ip4ParsesCard

/-- THE TIED CARD OF 'redoubtlaw03.Ip4Back'. -/
def ip4BackCard : Claim7 := { stood := { row := ip4BackRow, standIns := [], harness := (true, "dc95c9141331bf30f81c1e38eb123ea6ed3d1b3b19f2ec8e780fa9fdf8a87bb3"), looks := true }, kinds := [], alts := [], laidByText := true, laidKinds := [.handle], laidTests := true, laidLooks := .later }
def Ip4BackCardSaid : Prop := Claim7.holds Tryd.pinned (.plain (OpenSpec.ofChange ip4BackSpec)) ip4BackCard

/-- THE TIED CARD OF 'redoubtlaw03.Ip4Options'. -/
def ip4OptionsCard : Claim7 := { stood := { row := ip4OptionsRow, standIns := [], harness := (true, "dc95c9141331bf30f81c1e38eb123ea6ed3d1b3b19f2ec8e780fa9fdf8a87bb3"), looks := true }, kinds := [], alts := [], laidByText := true, laidKinds := [.handle], laidTests := true, laidLooks := .later }
def Ip4OptionsCardSaid : Prop := Claim7.holds Tryd.pinned (.plain (OpenSpec.ofChange ip4OptionsSpec)) ip4OptionsCard

/-- THE TIED CARD OF 'redoubtlaw03.Ip4Lays'. -/
def ip4LaysCard : Claim7 := { stood := { row := ip4LaysRow, standIns := [], harness := (true, "dc95c9141331bf30f81c1e38eb123ea6ed3d1b3b19f2ec8e780fa9fdf8a87bb3"), looks := true }, kinds := [], alts := [], laidByText := true, laidKinds := [.handle], laidTests := true, laidLooks := .later }
def Ip4LaysCardSaid : Prop := Claim7.holds Tryd.pinned (.plain (OpenSpec.ofChange ip4LaysSpec)) ip4LaysCard

/-- THE TIED CARD OF 'redoubtlaw03.Ip4Heads'. -/
def ip4HeadsCard : Claim7 := { stood := { row := ip4HeadsRow, standIns := [], harness := (true, "dc95c9141331bf30f81c1e38eb123ea6ed3d1b3b19f2ec8e780fa9fdf8a87bb3"), looks := true }, kinds := [], alts := [], laidByText := true, laidKinds := [.handle], laidTests := true, laidLooks := .later }
def Ip4HeadsCardSaid : Prop := Claim7.holds Tryd.pinned (.plain (OpenSpec.ofChange ip4HeadsSpec)) ip4HeadsCard

/-- THE SECOND FORM's CARD OF 'redoubtlaw03.Ip4Parses'. -/
def ip4ParsesUptoCard : Claim7 := { stood := { row := ip4ParsesUptoRow, standIns := [], harness := (true, "dc95c9141331bf30f81c1e38eb123ea6ed3d1b3b19f2ec8e780fa9fdf8a87bb3"), looks := true }, kinds := [], alts := [], laidByText := true, laidKinds := [.handle], laidTests := true, laidLooks := .later }
def Ip4ParsesUptoCardSaid : Prop := Claim7.holds Tryd.pinned (.plain (OpenSpec.upto ip4ParsesSpec)) ip4ParsesUptoCard

/-- THE SECOND FORM's CARD OF 'redoubtlaw03.Ip4Back'. -/
def ip4BackUptoCard : Claim7 := { stood := { row := ip4BackUptoRow, standIns := [], harness := (true, "dc95c9141331bf30f81c1e38eb123ea6ed3d1b3b19f2ec8e780fa9fdf8a87bb3"), looks := true }, kinds := [], alts := [], laidByText := true, laidKinds := [.handle], laidTests := true, laidLooks := .later }
def Ip4BackUptoCardSaid : Prop := Claim7.holds Tryd.pinned (.plain (OpenSpec.upto ip4BackSpec)) ip4BackUptoCard

/-- THE SECOND FORM's CARD OF 'redoubtlaw03.Ip4Options'. -/
def ip4OptionsUptoCard : Claim7 := { stood := { row := ip4OptionsUptoRow, standIns := [], harness := (true, "dc95c9141331bf30f81c1e38eb123ea6ed3d1b3b19f2ec8e780fa9fdf8a87bb3"), looks := true }, kinds := [], alts := [], laidByText := true, laidKinds := [.handle], laidTests := true, laidLooks := .later }
def Ip4OptionsUptoCardSaid : Prop := Claim7.holds Tryd.pinned (.plain (OpenSpec.upto ip4OptionsSpec)) ip4OptionsUptoCard

/-- THE SECOND FORM's CARD OF 'redoubtlaw03.Ip4Lays'. -/
def ip4LaysUptoCard : Claim7 := { stood := { row := ip4LaysUptoRow, standIns := [], harness := (true, "dc95c9141331bf30f81c1e38eb123ea6ed3d1b3b19f2ec8e780fa9fdf8a87bb3"), looks := true }, kinds := [], alts := [], laidByText := true, laidKinds := [.handle], laidTests := true, laidLooks := .later }
def Ip4LaysUptoCardSaid : Prop := Claim7.holds Tryd.pinned (.plain (OpenSpec.upto ip4LaysSpec)) ip4LaysUptoCard

/-- THE SECOND FORM's CARD OF 'redoubtlaw03.Ip4Heads'. -/
def ip4HeadsUptoCard : Claim7 := { stood := { row := ip4HeadsUptoRow, standIns := [], harness := (true, "dc95c9141331bf30f81c1e38eb123ea6ed3d1b3b19f2ec8e780fa9fdf8a87bb3"), looks := true }, kinds := [], alts := [], laidByText := true, laidKinds := [.handle], laidTests := true, laidLooks := .later }
def Ip4HeadsUptoCardSaid : Prop := Claim7.holds Tryd.pinned (.plain (OpenSpec.upto ip4HeadsSpec)) ip4HeadsUptoCard
end Rows
end Go.Proofs.YtjcbbmlloadagaaDoor
