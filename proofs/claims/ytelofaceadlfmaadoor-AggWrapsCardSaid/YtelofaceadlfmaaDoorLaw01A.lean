/- WALKS of repriselaw01: same, by, awake. -/
import Derived.Test.YtelofaceadlfmaaDoorFbitD
import Derived.Test.YtelofaceadlfmaaDoorRefA
namespace Go.Proofs.YtelofaceadlfmaaDoor
open Go.RowKit
open Fl (nan key canon ord least most)

end Go.Proofs.YtelofaceadlfmaaDoor
