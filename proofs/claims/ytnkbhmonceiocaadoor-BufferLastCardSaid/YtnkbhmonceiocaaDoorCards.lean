/-
  DERIVED. GIVEN WITH THE SEED: THE CARDS: each row of YtnkbhmonceiocaaDoorRows.lean that lists a variable, with what it lists TIED to the program's text (the seventh form; the later family's looks); each row that meets fmt, with fmt's text TOLD by the authors' own Lean function (tested against real Go, not proved from fmt's source: count such statements apart). THE CARD IS WHAT COUNTS. Prove the row's statement (the work); the ties are given (YtnkbhmonceiocaaDoorTie.lean); close each card by the builder's one call (the guide's Derived/Test/ToyasCard.lean, 'card_holds'). Laid BY PROGRAM, IN A SANDBOX (cutbox-door.mjs). By AI agents, Wed Nov 11 2026. No macro, syntax, notation, axiom, sorry.
-/
import Derived.Test.YtnkbhmonceiocaaDoorRows
import GoSem.ClaimSeven
namespace Go.Proofs.YtnkbhmonceiocaaDoor
namespace Rows

/-- THE TIED CARD OF 'leadlinelaw22.CirclesSides'. -/
def circlesSidesCard : Claim7 := { stood := { row := circlesSidesRow, standIns := [], harness := (true, "b0bdd710c920a2878b23b4986f9388644310ec14b1409f2c1419365cfb59166e"), looks := true }, kinds := [], alts := [], laidByText := true, laidKinds := [.handle], laidTests := true, laidLooks := .later }
def CirclesSidesCardSaid : Prop := Claim7.holds Tryd.pinned (.plain (OpenSpec.ofChange circlesSidesSpec)) circlesSidesCard

/-- THE TIED CARD OF 'leadlinelaw23.BufferLast'. -/
def bufferLastCard : Claim7 := { stood := { row := bufferLastRow, standIns := [], harness := (true, "b0bdd710c920a2878b23b4986f9388644310ec14b1409f2c1419365cfb59166e"), looks := true }, kinds := [], alts := [], laidByText := true, laidKinds := [.handle], laidTests := true, laidLooks := .later }
def BufferLastCardSaid : Prop := Claim7.holds Tryd.pinned (.plain (OpenSpec.ofChange bufferLastSpec)) bufferLastCard

/-- THE SECOND FORM's CARD OF 'leadlinelaw22.CirclesSides'. -/
def circlesSidesUptoCard : Claim7 := { stood := { row := circlesSidesUptoRow, standIns := [], harness := (true, "b0bdd710c920a2878b23b4986f9388644310ec14b1409f2c1419365cfb59166e"), looks := true }, kinds := [], alts := [], laidByText := true, laidKinds := [.handle], laidTests := true, laidLooks := .later }
def CirclesSidesUptoCardSaid : Prop := Claim7.holds Tryd.pinned (.plain (OpenSpec.upto circlesSidesSpec)) circlesSidesUptoCard

/-- THE SECOND FORM's CARD OF 'leadlinelaw23.BufferLast'. -/
def bufferLastUptoCard : Claim7 := { stood := { row := bufferLastUptoRow, standIns := [], harness := (true, "b0bdd710c920a2878b23b4986f9388644310ec14b1409f2c1419365cfb59166e"), looks := true }, kinds := [], alts := [], laidByText := true, laidKinds := [.handle], laidTests := true, laidLooks := .later }
def BufferLastUptoCardSaid : Prop := Claim7.holds Tryd.pinned (.plain (OpenSpec.upto bufferLastSpec)) bufferLastUptoCard
end Rows
end Go.Proofs.YtnkbhmonceiocaaDoor
