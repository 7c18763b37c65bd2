/- WALKS of fbit: cmp.Compare of ints, cmp.Or, side, Order, Least, Most. -/
import Derived.Test.YtgcbjpdmnlanoaaFbitA
import Derived.Test.YtgcbjpdmnlanoaaAggPure
import Derived.Test.YtgcbjpdmnlanoaaRegion
namespace Go.Proofs.Ytgcbjpdmnlanoaa
open Go.RowKit
open Fl (nan key canon ord least most rank side cmpI fcmp QN)

end Go.Proofs.Ytgcbjpdmnlanoaa
