/- HELPERS: the library's tables lie: a start that fits; from the row's condition to the walk. -/
import Derived.Test.YtelofaceadlfmaaDoorAggQ
import Derived.Test.YtelofaceadlfmaaDoorOpen
import Derived.Test.YtelofaceadlfmaaDoorRows
import Derived.ChangeSame
import Derived.ChangeVars
import Derived.ChangeMaps5
import Derived.JoinedOf
import Derived.JoinedAt
import Derived.RowKitTokens
import Derived.LaidLaws
import Derived.Stop.LaidErr
namespace Go.Proofs.YtelofaceadlfmaaDoor
open Go.RowKit
def db32 : List Int := [0, 1, 28, 2, 29, 14, 24, 3, 30, 22, 20, 15, 25, 17, 4, 8, 31, 27, 13, 23, 21, 19, 16, 7, 26, 12, 18, 6, 11, 5, 10, 9]
def db64 : List Int := [0, 1, 56, 2, 57, 49, 28, 3, 61, 58, 42, 50, 38, 29, 17, 4, 62, 47, 59, 36, 45, 43, 51, 22, 53, 39, 33, 30, 24, 18, 12, 5, 63, 55, 48, 27, 60, 41, 37, 16, 46, 35, 44, 21, 52, 32, 23, 11, 54, 26, 40, 15, 34, 20, 31, 10, 25, 14, 19, 9, 13, 8, 7, 6]
/-- the settled world, the tables as their initialisers lay them -/
def tabOf (k : IntKind) (zs : List Int) : Obj → Obj
  | .cells _ t frozen => .cells (zs.map fun z => Value.int k z).toArray t frozen
  | o => o
noncomputable def laidWorld (os : Os) : World :=
  let w0 := World.holding Tryd.prog os ⟨#[], #[], []⟩
  { w0 with heap := ((w0.heap.modify 1 (tabOf .u64 Lib.pow10Tab)).modify 3 (tabOf .u8 db32)).modify 4 (tabOf .u8 db64) }
def laid3 : List (String × DataW Unit) := [("math/bits.deBruijn32tab", Rows.laid_math_bits_deBruijn32tab), ("math/bits.deBruijn64tab", Rows.laid_math_bits_deBruijn64tab), ("internal/strconv.uint64pow10", Rows.laid_internal_strconv_uint64pow10)]
theorem laidWorld_met (os : Os) (args : Array Value) : laidMet Tryd.prog laid3 ((laidWorld os).forCall (fun _ _ => 0) ⟨#[], args, []⟩).memory :=
  laidMet_of_run' 8 (by kernel_rfl) (by kernel_rfl)
theorem tab_of_laid {w : World} (h : laidMet Tryd.prog laid3 w) : Tab w :=
  Lib.tabIs_of_head (rest := []) (t := 89) (e := 25) (n := 20) (g := 1) (by kernel_rfl) (by kernel_rfl) Tryd.underlying89 Tryd.underlying25 (by kernel_rfl) (by kernel_rfl) h.tail.tail
end Go.Proofs.YtelofaceadlfmaaDoor
