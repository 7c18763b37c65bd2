/- HELPERS: what comes in as three values of a kind. -/
import Derived.Test.YtelofaceadlfmaaDoorOpen
import Derived.Test.YtelofaceadlfmaaDoorAggPure
namespace Go.Proofs.YtelofaceadlfmaaDoor
open Go.ChangeShapes Go.WideShapes Go.ChangeAt Go.RowKit
open Fl (V)
theorem typesThree : Tryd.prog.cellTypes Tryd.prog.depth 37 = some [3, 4, 25, 4, 25, 4, 25] := by kernel_rfl
theorem open_three {w : World} {r : Reach} {base : Nat} {v : Value} (h : Value.okWide Tryd.prog w r base 37 v) :
    ∃ (k : Int) (A B C : V), v = .agg #[.int .i64 k, .bool A.has, .int .u64 A.bits, .bool B.has, .int .u64 B.bits, .bool C.has, .int .u64 C.bits] ∧ A.ok ∧ B.ok ∧ C.ok := by
  obtain ⟨cs, rfl, hl, hc⟩ := open_cells Tryd.underlying37 h typesThree (by kernel_rfl)
  match cs, hl with
  | [c0, c1, c2, c3, c4, c5, c6], _ =>
    obtain ⟨k, rfl, _⟩ := cell_i64 Tryd.underlying3 (hc 0 c0 _ rfl rfl)
    obtain ⟨b, rfl⟩ := cell_bool Tryd.underlying4 (hc 1 c1 _ rfl rfl)
    obtain ⟨c, rfl, h2⟩ := cell_u64 Tryd.underlying25 (hc 2 c2 _ rfl rfl)
    obtain ⟨d, rfl⟩ := cell_bool Tryd.underlying4 (hc 3 c3 _ rfl rfl)
    obtain ⟨e, rfl, h4⟩ := cell_u64 Tryd.underlying25 (hc 4 c4 _ rfl rfl)
    obtain ⟨f, rfl⟩ := cell_bool Tryd.underlying4 (hc 5 c5 _ rfl rfl)
    obtain ⟨g, rfl, h6⟩ := cell_u64 Tryd.underlying25 (hc 6 c6 _ rfl rfl)
    exact ⟨k, ⟨b, c⟩, ⟨d, e⟩, ⟨f, g⟩, rfl, h2, h4, h6⟩
end Go.Proofs.YtelofaceadlfmaaDoor
