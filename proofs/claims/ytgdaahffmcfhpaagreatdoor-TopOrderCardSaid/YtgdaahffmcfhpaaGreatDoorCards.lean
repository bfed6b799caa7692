/-
  DERIVED. GIVEN WITH THE SEED: THE CARDS: each row of YtgdaahffmcfhpaaGreatDoorRows.lean that lists a variable, with what it lists TIED to the program's text (the seventh form; the later family's looks); each row that meets fmt, with fmt's text TOLD by the authors' own Lean function (tested against real Go, not proved from fmt's source: count such statements apart). THE CARD IS WHAT COUNTS. Prove the row's statement (the work); the ties are given (YtgdaahffmcfhpaaGreatDoorTie.lean); close each card by the builder's one call (the guide's Derived/Test/ToyasCard.lean, 'card_holds'). Laid BY PROGRAM, IN A SANDBOX (cutbox-door.mjs). By AI agents, Wed Nov 11 2026. No macro, syntax, notation, axiom, sorry.
-/
import Derived.Test.YtgdaahffmcfhpaaGreatDoorRows
import GoSem.ClaimSeven
namespace Go.Proofs.YtgdaahffmcfhpaaGreatDoor
namespace Rows

/-- THE TIED CARD OF 'arbourtop.TopTree'. -/
def topTreeCard : Claim7 := { stood := { row := topTreeRow, standIns := [], harness := (true, "63a04b5bcd738070502412bd1ecfeab950e42e77b5499d5f60fb10a321d45b23"), looks := true }, kinds := [], alts := [], laidByText := true, laidKinds := [.data, .data, .data, .data, .pinned], laidTests := true, laidLooks := .later }
def TopTreeCardSaid : Prop := Claim7.holds Tryz.pinned (.plain (OpenSpec.ofChange topTreeSpec)) topTreeCard

/-- THE TIED CARD OF 'arbourtop.TopOrder'. -/
def topOrderCard : Claim7 := { stood := { row := topOrderRow, standIns := [], harness := (true, "63a04b5bcd738070502412bd1ecfeab950e42e77b5499d5f60fb10a321d45b23"), looks := true }, kinds := [], alts := [], laidByText := true, laidKinds := [.data, .data, .data, .data, .pinned], laidTests := true, laidLooks := .later }
def TopOrderCardSaid : Prop := Claim7.holds Tryz.pinned (.plain (OpenSpec.ofChange topOrderSpec)) topOrderCard

/-- THE SECOND FORM's CARD OF 'arbourtop.TopTree'. -/
def topTreeUptoCard : Claim7 := { stood := { row := topTreeUptoRow, standIns := [], harness := (true, "63a04b5bcd738070502412bd1ecfeab950e42e77b5499d5f60fb10a321d45b23"), looks := true }, kinds := [], alts := [], laidByText := true, laidKinds := [.data, .data, .data, .data, .pinned], laidTests := true, laidLooks := .later }
def TopTreeUptoCardSaid : Prop := Claim7.holds Tryz.pinned (.plain (OpenSpec.upto topTreeSpec)) topTreeUptoCard

/-- THE SECOND FORM's CARD OF 'arbourtop.TopOrder'. -/
def topOrderUptoCard : Claim7 := { stood := { row := topOrderUptoRow, standIns := [], harness := (true, "63a04b5bcd738070502412bd1ecfeab950e42e77b5499d5f60fb10a321d45b23"), looks := true }, kinds := [], alts := [], laidByText := true, laidKinds := [.data, .data, .data, .data, .pinned], laidTests := true, laidLooks := .later }
def TopOrderUptoCardSaid : Prop := Claim7.holds Tryz.pinned (.plain (OpenSpec.upto topOrderSpec)) topOrderUptoCard
end Rows
end Go.Proofs.YtgdaahffmcfhpaaGreatDoor
