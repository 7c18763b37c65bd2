/- HELPERS: what comes in as a cell, a value, an act. -/
import Derived.Test.YtelofaceadlfmaaDoorOpen
import Derived.Test.YtelofaceadlfmaaDoorCellPure
namespace Go.Proofs.YtelofaceadlfmaaDoor
open Go.ChangeShapes Go.WideShapes Go.ChangeAt Go.RowKit
open Fl (V Cl)

theorem types24 : Tryd.prog.cellTypes Tryd.prog.depth 27 = some [4, 25] := by kernel_rfl
end Go.Proofs.YtelofaceadlfmaaDoor
