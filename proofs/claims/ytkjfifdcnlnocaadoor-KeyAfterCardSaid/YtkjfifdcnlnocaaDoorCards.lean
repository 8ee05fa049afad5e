/-
  DERIVED. GIVEN WITH THE SEED: THE CARDS: each row of YtkjfifdcnlnocaaDoorRows.lean that lists a variable, with what it lists TIED to the program's text (the seventh form; the later family's looks); each row that meets fmt, with fmt's text TOLD by the authors' own Lean function (tested against real Go, not proved from fmt's source: count such statements apart). THE CARD IS WHAT COUNTS. Prove the row's statement (the work); the ties are given (YtkjfifdcnlnocaaDoorTie.lean); close each card by the builder's one call (the guide's Derived/Test/ToyasCard.lean, 'card_holds'). Laid BY PROGRAM, IN A SANDBOX (cutbox-door.mjs). By AI agents, Wed Nov 11 2026. No macro, syntax, notation, axiom, sorry.
-/
import Derived.Test.YtkjfifdcnlnocaaDoorRows
import GoSem.ClaimSeven
namespace Go.Proofs.YtkjfifdcnlnocaaDoor
namespace Rows

/-- THE TIED CARD OF 'moultlaw4.KeyOrders'. -/
def keyOrdersCard : Claim7 := { stood := { row := keyOrdersRow, standIns := [], harness := (true, "991558d3dcd2d546639dcebb6e67123c1e21eae1db79eda9279cdba5b6866eae"), looks := false }, kinds := [], alts := [], laidByText := true, laidKinds := [.data, .pinned], laidTests := true, laidLooks := .later }
def KeyOrdersCardSaid : Prop := Claim7.holds Tryd.pinned (.plain (OpenSpec.ofChange keyOrdersSpec)) keyOrdersCard

/-- THE TIED CARD OF 'moultlaw4.KeyAfter'. -/
def keyAfterCard : Claim7 := { stood := { row := keyAfterRow, standIns := [], harness := (true, "991558d3dcd2d546639dcebb6e67123c1e21eae1db79eda9279cdba5b6866eae"), looks := false }, kinds := [], alts := [], laidByText := true, laidKinds := [.data, .pinned], laidTests := true, laidLooks := .later }
def KeyAfterCardSaid : Prop := Claim7.holds Tryd.pinned (.plain (OpenSpec.ofChange keyAfterSpec)) keyAfterCard

/-- THE TIED CARD OF 'moultlaw4.KeyTakes'. -/
def keyTakesCard : Claim7 := { stood := { row := keyTakesRow, standIns := [], harness := (true, "991558d3dcd2d546639dcebb6e67123c1e21eae1db79eda9279cdba5b6866eae"), looks := false }, kinds := [], alts := [], laidByText := true, laidKinds := [.data, .pinned], laidTests := true, laidLooks := .later }
def KeyTakesCardSaid : Prop := Claim7.holds Tryd.pinned (.plain (OpenSpec.ofChange keyTakesSpec)) keyTakesCard

/-- THE TIED CARD OF 'moultlaw4.KeyPuts'. -/
def keyPutsCard : Claim7 := { stood := { row := keyPutsRow, standIns := [], harness := (true, "991558d3dcd2d546639dcebb6e67123c1e21eae1db79eda9279cdba5b6866eae"), looks := false }, kinds := [], alts := [], laidByText := true, laidKinds := [.data, .pinned], laidTests := true, laidLooks := .later }
def KeyPutsCardSaid : Prop := Claim7.holds Tryd.pinned (.plain (OpenSpec.ofChange keyPutsSpec)) keyPutsCard

/-- THE TIED CARD OF 'moultlaw4.KeyTuples'. -/
def keyTuplesCard : Claim7 := { stood := { row := keyTuplesRow, standIns := [], harness := (true, "991558d3dcd2d546639dcebb6e67123c1e21eae1db79eda9279cdba5b6866eae"), looks := false }, kinds := [], alts := [], laidByText := true, laidKinds := [.data, .pinned], laidTests := true, laidLooks := .later }
def KeyTuplesCardSaid : Prop := Claim7.holds Tryd.pinned (.plain (OpenSpec.ofChange keyTuplesSpec)) keyTuplesCard

/-- THE TIED CARD OF 'moultlaw4.KeyBack'. -/
def keyBackCard : Claim7 := { stood := { row := keyBackRow, standIns := [], harness := (true, "991558d3dcd2d546639dcebb6e67123c1e21eae1db79eda9279cdba5b6866eae"), looks := false }, kinds := [], alts := [], laidByText := true, laidKinds := [.data, .pinned], laidTests := true, laidLooks := .later }
def KeyBackCardSaid : Prop := Claim7.holds Tryd.pinned (.plain (OpenSpec.ofChange keyBackSpec)) keyBackCard

/-- THE SECOND FORM's CARD OF 'moultlaw4.KeyOrders'. -/
def keyOrdersUptoCard : Claim7 := { stood := { row := keyOrdersUptoRow, standIns := [], harness := (true, "991558d3dcd2d546639dcebb6e67123c1e21eae1db79eda9279cdba5b6866eae"), looks := false }, kinds := [], alts := [], laidByText := true, laidKinds := [.data, .pinned], laidTests := true, laidLooks := .later }
def KeyOrdersUptoCardSaid : Prop := Claim7.holds Tryd.pinned (.plain (OpenSpec.upto keyOrdersSpec)) keyOrdersUptoCard

/-- THE SECOND FORM's CARD OF 'moultlaw4.KeyAfter'. -/
def keyAfterUptoCard : Claim7 := { stood := { row := keyAfterUptoRow, standIns := [], harness := (true, "991558d3dcd2d546639dcebb6e67123c1e21eae1db79eda9279cdba5b6866eae"), looks := false }, kinds := [], alts := [], laidByText := true, laidKinds := [.data, .pinned], laidTests := true, laidLooks := .later }
def KeyAfterUptoCardSaid : Prop := Claim7.holds Tryd.pinned (.plain (OpenSpec.upto keyAfterSpec)) keyAfterUptoCard

/-- THE SECOND FORM's CARD OF 'moultlaw4.KeyTakes'. -/
def keyTakesUptoCard : Claim7 := { stood := { row := keyTakesUptoRow, standIns := [], harness := (true, "991558d3dcd2d546639dcebb6e67123c1e21eae1db79eda9279cdba5b6866eae"), looks := false }, kinds := [], alts := [], laidByText := true, laidKinds := [.data, .pinned], laidTests := true, laidLooks := .later }
def KeyTakesUptoCardSaid : Prop := Claim7.holds Tryd.pinned (.plain (OpenSpec.upto keyTakesSpec)) keyTakesUptoCard

/-- THE SECOND FORM's CARD OF 'moultlaw4.KeyPuts'. -/
def keyPutsUptoCard : Claim7 := { stood := { row := keyPutsUptoRow, standIns := [], harness := (true, "991558d3dcd2d546639dcebb6e67123c1e21eae1db79eda9279cdba5b6866eae"), looks := false }, kinds := [], alts := [], laidByText := true, laidKinds := [.data, .pinned], laidTests := true, laidLooks := .later }
def KeyPutsUptoCardSaid : Prop := Claim7.holds Tryd.pinned (.plain (OpenSpec.upto keyPutsSpec)) keyPutsUptoCard

/-- THE SECOND FORM's CARD OF 'moultlaw4.KeyTuples'. -/
def keyTuplesUptoCard : Claim7 := { stood := { row := keyTuplesUptoRow, standIns := [], harness := (true, "991558d3dcd2d546639dcebb6e67123c1e21eae1db79eda9279cdba5b6866eae"), looks := false }, kinds := [], alts := [], laidByText := true, laidKinds := [.data, .pinned], laidTests := true, laidLooks := .later }
def KeyTuplesUptoCardSaid : Prop := Claim7.holds Tryd.pinned (.plain (OpenSpec.upto keyTuplesSpec)) keyTuplesUptoCard

/-- THE SECOND FORM's CARD OF 'moultlaw4.KeyBack'. -/
def keyBackUptoCard : Claim7 := { stood := { row := keyBackUptoRow, standIns := [], harness := (true, "991558d3dcd2d546639dcebb6e67123c1e21eae1db79eda9279cdba5b6866eae"), looks := false }, kinds := [], alts := [], laidByText := true, laidKinds := [.data, .pinned], laidTests := true, laidLooks := .later }
def KeyBackUptoCardSaid : Prop := Claim7.holds Tryd.pinned (.plain (OpenSpec.upto keyBackSpec)) keyBackUptoCard
end Rows
end Go.Proofs.YtkjfifdcnlnocaaDoor
