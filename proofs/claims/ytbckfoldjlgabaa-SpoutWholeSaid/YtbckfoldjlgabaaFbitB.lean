/- WALKS of fbit: cmp.Compare of ints, cmp.Or, side, Order, Least, Most. -/
import Derived.Test.YtbckfoldjlgabaaFbitA
import Derived.Test.YtbckfoldjlgabaaAggPure
import Derived.Test.YtbckfoldjlgabaaRegion
namespace Go.Proofs.Ytbckfoldjlgabaa
open Go.RowKit
open Fl (nan key canon ord least most rank side cmpI fcmp QN)

end Go.Proofs.Ytbckfoldjlgabaa
