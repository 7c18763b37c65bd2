/- HELPERS: what comes in as a cell, a value, an act. -/
import Derived.Test.YtelofaceadlfmaaOpen
import Derived.Test.YtelofaceadlfmaaCellPure
namespace Go.Proofs.Ytelofaceadlfmaa
open Go.ChangeShapes Go.WideShapes Go.ChangeAt Go.RowKit
open Fl (V Cl)

theorem types24 : Try.prog.cellTypes Try.prog.depth 24 = some [4, 22] := by kernel_rfl
theorem types26 : Try.prog.cellTypes Try.prog.depth 26 = some [22, 4, 22, 4, 22, 3] := by kernel_rfl
theorem types30 : Try.prog.cellTypes Try.prog.depth 30 = some [3, 3, 4, 22] := by kernel_rfl

/-- what comes in as a cell -/
theorem open_cell {w : World} {r : Reach} {base : Nat} {v : Value} (h : Value.okWide Try.prog w r base 26 v) :
    ∃ c : Cl, v = .agg #[.int .u64 c.key, .bool c.prev.has, .int .u64 c.prev.bits, .bool c.cur.has, .int .u64 c.cur.bits, .int .i64 c.batch] ∧ c.ok ∧ -9223372036854775808 ≤ c.batch ∧ c.batch ≤ 9223372036854775807 := by
  obtain ⟨cs, rfl, hl, hc⟩ := open_cells Try.underlying26 h types26 (by kernel_rfl)
  match cs, hl with
  | [c0, c1, c2, c3, c4, c5], _ =>
    obtain ⟨a, rfl, _⟩ := cell_u64 Try.underlying22 (hc 0 c0 _ rfl rfl)
    obtain ⟨b, rfl⟩ := cell_bool Try.underlying4 (hc 1 c1 _ rfl rfl)
    obtain ⟨c, rfl, hc2⟩ := cell_u64 Try.underlying22 (hc 2 c2 _ rfl rfl)
    obtain ⟨d, rfl⟩ := cell_bool Try.underlying4 (hc 3 c3 _ rfl rfl)
    obtain ⟨e, rfl, hc4⟩ := cell_u64 Try.underlying22 (hc 4 c4 _ rfl rfl)
    obtain ⟨f, rfl, hf⟩ := cell_i64 Try.underlying3 (hc 5 c5 _ rfl rfl)
    exact ⟨⟨a, ⟨b, c⟩, ⟨d, e⟩, f⟩, rfl, ⟨hc2, hc4⟩, hf⟩
theorem open_act {w : World} {r : Reach} {base : Nat} {v : Value} (h : Value.okWide Try.prog w r base 30 v) :
    ∃ (k b : Int) (p : V), v = .agg #[.int .i64 k, .int .i64 b, .bool p.has, .int .u64 p.bits] ∧ p.ok ∧ -9223372036854775808 ≤ b ∧ b ≤ 9223372036854775807 := by
  obtain ⟨cs, rfl, hl, hc⟩ := open_cells Try.underlying30 h types30 (by kernel_rfl)
  match cs, hl with
  | [c0, c1, c2, c3], _ =>
    obtain ⟨a, rfl, _⟩ := cell_i64 Try.underlying3 (hc 0 c0 _ rfl rfl)
    obtain ⟨b, rfl, hb⟩ := cell_i64 Try.underlying3 (hc 1 c1 _ rfl rfl)
    obtain ⟨c, rfl⟩ := cell_bool Try.underlying4 (hc 2 c2 _ rfl rfl)
    obtain ⟨d, rfl, hd⟩ := cell_u64 Try.underlying22 (hc 3 c3 _ rfl rfl)
    exact ⟨a, b, ⟨c, d⟩, rfl, hd, hb⟩
end Go.Proofs.Ytelofaceadlfmaa
