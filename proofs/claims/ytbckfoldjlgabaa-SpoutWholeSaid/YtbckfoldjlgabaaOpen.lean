/- HELPERS: what comes in as an argument has the shape of its type. -/
import Derived.Test.YtbckfoldjlgabaaRows
import Derived.WalkKit
import Derived.ProofKit
import Derived.OpenShut
import Derived.ShutString
import Derived.ChangeOld
import Derived.Below
namespace Go.Proofs.Ytbckfoldjlgabaa
open Go.ChangeShapes Go.WideShapes Go.ChangeAt Go.RowKit

theorem own : ownKnob Try.prog.godebug = none := by kernel_rfl
theorem laidOut : laidOutB Try.prog = true := by kernel_rfl

section
variable {P : Program} {w : World} {r : Reach} {base : Nat} {t : TypeId} {v : Value}
theorem open_cells {fs : Array Field} (ht : P.underlying t = some (.struct fs)) (h : Value.okWide P w r base t v) {ts : List TypeId} (hts : P.cellTypes P.depth t = some ts) (hn : P.cellsOf t = ts.length) :
    ∃ cs : List Value, v = .agg cs.toArray ∧ cs.length = ts.length ∧ ∀ (i : Nat) (c : Value) (u : TypeId), cs[i]? = some c → ts[i]? = some u → Cell.okWide P w r base u c := by
  unfold Value.okWide at h
  rw [ht] at h
  obtain ⟨cs, hv, hz, ts', hts', _, hc⟩ := h
  rw [hts] at hts'
  cases hts'
  refine ⟨cs.toList, by rw [hv], by simpa [hn] using hz, fun i c u hi hu => ?_⟩
  have hlt : i < ts.length := by
    rcases Nat.lt_or_ge i ts.length with h' | h'
    · exact h'
    · rw [List.getElem?_eq_none h'] at hu; cases hu
  obtain ⟨u', hu', hok⟩ := hc i c (by simpa using hi)
  rw [Nat.mod_eq_of_lt hlt, hu] at hu'
  cases hu'
  exact hok
theorem cell_int {k : IntKind} (ht : P.underlying t = some (.int k)) (h : Cell.okWide P w r base t v) : ∃ n, v = .int k n ∧ k.min ≤ n ∧ n ≤ k.max := by
  cases v <;> simp only [Cell.okWide, Cell.ok, ht] at h
  rename_i k' n
  obtain ⟨rfl, h1, h2⟩ := h
  exact ⟨n, rfl, h1, h2⟩
theorem cell_bool (ht : P.underlying t = some .bool) (h : Cell.okWide P w r base t v) : ∃ b, v = .bool b := by
  cases v <;> simp only [Cell.okWide, Cell.ok, ht] at h
  exact ⟨_, rfl⟩
theorem cell_float {k : FloatKind} (ht : P.underlying t = some (.float k)) (h : Cell.okWide P w r base t v) : ∃ n, v = .float k n ∧ k.has n := by
  cases v <;> simp only [Cell.okWide, Cell.ok, ht] at h
  rename_i k' n
  obtain ⟨rfl, h1⟩ := h
  exact ⟨n, rfl, h1⟩
theorem cell_u64 (ht : P.underlying t = some (.int .u64)) (h : Cell.okWide P w r base t v) : ∃ n : Nat, v = .int .u64 (n : Int) ∧ n < 2 ^ 64 := by
  obtain ⟨n, rfl, h1, h2⟩ := cell_int ht h
  have h1' : (0 : Int) ≤ n := h1
  have h2' : n ≤ 18446744073709551615 := h2
  exact ⟨n.toNat, by rw [Int.toNat_of_nonneg h1'], by omega⟩
theorem cell_i64 (ht : P.underlying t = some (.int .i64)) (h : Cell.okWide P w r base t v) : ∃ n : Int, v = .int .i64 n ∧ -9223372036854775808 ≤ n ∧ n ≤ 9223372036854775807 := by
  obtain ⟨n, rfl, h1, h2⟩ := cell_int ht h
  exact ⟨n, rfl, h1, h2⟩
theorem plain_cell (ht : (match P.underlying t with | some (.struct _) | some (.array _ _) => true | _ => false) = false) (h : Value.okWide P w r base t v) : Cell.okWide P w r base t v := by
  unfold Value.okWide at h
  revert ht h
  cases P.underlying t with
  | none => exact fun _ h => h
  | some d => cases d <;> intro ht h <;> first | exact h | cases ht
end
end Go.Proofs.Ytbckfoldjlgabaa
