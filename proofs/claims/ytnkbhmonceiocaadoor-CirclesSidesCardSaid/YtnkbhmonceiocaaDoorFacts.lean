/-
  Closed facts of this translation, laid by a program (wip/gen/drive.py).
-/
import Derived.Test.YtnkbhmonceiocaaDoorRun
import Derived.Test.YtnkbhmonceiocaaDoorProg
import Derived.Shelf.Spec.BitsCarry
namespace Go.Proofs.YtnkbhmonceiocaaDoor
open Go Go.RowKit
end Go.Proofs.YtnkbhmonceiocaaDoor
