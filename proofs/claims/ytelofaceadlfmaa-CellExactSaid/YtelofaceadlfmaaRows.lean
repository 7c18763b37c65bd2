/-
  No cell of these rows narrows 'for every input' (looked for: loops, veiled, ifaces, maps, wideKeys, modest, calm, conditions, laid).
  DERIVED. THE GIVEN ROWS OF THIS SEAT. 5 by the template 'for every input the law returns true; each argument reads behind the call as it read before'; 0 by the template 'total and deterministic' (their statements: YtelofaceadlfmaaTotals.lean).
  GIVEN WITH THE SEED: the statements are not yours to turn. If you find one false, say at which input.
  Laid BY PROGRAM, IN A SANDBOX (cutbox-rows.mjs): the forced cells as the released guide's own fill.sh prints them over the translation 29ef2d29ae7347da… (all of the seat's roots in one cut). By AI agents, Wed Nov 11 2026. No macro, syntax, notation, axiom, sorry.
-/
import Derived.Test.YtelofaceadlfmaaChecked
import GoSem.Claim
import GoSem.ClaimJoined
import GoSem.ClaimMapViews
import Derived.JoinedTies
import Derived.KernelRfl
namespace Go.Proofs.Ytelofaceadlfmaa
/- THE CELL 'sum', in the pinned program and in every row, IS THE sha256 OF THE DUMP (.gsa) THAT YtelofaceadlfmaaProg.lean LOADS. Nothing in Lean hashes anything: it is a label: what it is worth is what the hold of that sum in a sandbox is worth. -/
noncomputable def Try.pinned : Pinned := { name := "ytelofaceadlfmaa", sum := "29ef2d29ae7347da384c4e4435cf43cfa7e36a9d5e787602e0066be7b9e361a3", checked := Try.checked }
namespace Rows
def none {H : Type} : Left H := { results := [], args := [] }

/-- 'repriselaw10.CellExact': WHATEVER THE INPUT: true; the input reads as it did. -/
def cellExactSpec : ChangeSpec := { name := "cellExact", fn := fun _ => fun
  | [d1, d2, d3] => { results := [.lit (.bool true)], args := [d1, d2, d3] }
  | _ => none }
def cellExactRow : OpenClaim := { program := "ytelofaceadlfmaa", sum := "29ef2d29ae7347da384c4e4435cf43cfa7e36a9d5e787602e0066be7b9e361a3", func := "reprise/repriselaw10.CellExact", spec := "cellExact", inPlace := ["math.Float64frombits", "math.Float64bits"], unfollowed := true, recurses := true, apart := false }
def CellExactSaid : Prop := cellExactRow.holds Try.pinned (OpenSpec.ofChange cellExactSpec)

/-- ITS FALSE NEIGHBOUR: 'it returns false'. Refute it at one input. -/
def cellExactWrong : ChangeSpec := { name := "cellExact", fn := fun _ => fun
  | [d1, d2, d3] => { results := [.lit (.bool false)], args := [d1, d2, d3] }
  | _ => none }
def CellExactWrongFalsely : Prop := cellExactRow.holds Try.pinned (OpenSpec.ofChange cellExactWrong)

/-- 'repriselaw10.CellAgain': WHATEVER THE INPUT: true; the input reads as it did. -/
def cellAgainSpec : ChangeSpec := { name := "cellAgain", fn := fun _ => fun
  | [d] => { results := [.lit (.bool true)], args := [d] }
  | _ => none }
def cellAgainRow : OpenClaim := { program := "ytelofaceadlfmaa", sum := "29ef2d29ae7347da384c4e4435cf43cfa7e36a9d5e787602e0066be7b9e361a3", func := "reprise/repriselaw10.CellAgain", spec := "cellAgain", inPlace := ["math.Float64frombits", "math.Float64bits"], unfollowed := true, recurses := true, apart := false }
def CellAgainSaid : Prop := cellAgainRow.holds Try.pinned (OpenSpec.ofChange cellAgainSpec)

/-- ITS FALSE NEIGHBOUR: 'it returns false'. Refute it at one input. -/
def cellAgainWrong : ChangeSpec := { name := "cellAgain", fn := fun _ => fun
  | [d] => { results := [.lit (.bool false)], args := [d] }
  | _ => none }
def CellAgainWrongFalsely : Prop := cellAgainRow.holds Try.pinned (OpenSpec.ofChange cellAgainWrong)

/-- 'repriselaw10.CellReverts': WHATEVER THE INPUT: true; the input reads as it did. -/
def cellRevertsSpec : ChangeSpec := { name := "cellReverts", fn := fun _ => fun
  | [d1, d2] => { results := [.lit (.bool true)], args := [d1, d2] }
  | _ => none }
def cellRevertsRow : OpenClaim := { program := "ytelofaceadlfmaa", sum := "29ef2d29ae7347da384c4e4435cf43cfa7e36a9d5e787602e0066be7b9e361a3", func := "reprise/repriselaw10.CellReverts", spec := "cellReverts", inPlace := ["math.Float64frombits", "math.Float64bits"], unfollowed := true, recurses := true, apart := false }
def CellRevertsSaid : Prop := cellRevertsRow.holds Try.pinned (OpenSpec.ofChange cellRevertsSpec)

/-- ITS FALSE NEIGHBOUR: 'it returns false'. Refute it at one input. -/
def cellRevertsWrong : ChangeSpec := { name := "cellReverts", fn := fun _ => fun
  | [d1, d2] => { results := [.lit (.bool false)], args := [d1, d2] }
  | _ => none }
def CellRevertsWrongFalsely : Prop := cellRevertsRow.holds Try.pinned (OpenSpec.ofChange cellRevertsWrong)

/-- 'repriselaw10.CellRow': WHATEVER THE INPUT: true; the input reads as it did. -/
def cellRowSpec : ChangeSpec := { name := "cellRow", fn := fun _ => fun
  | [d1, d2] => { results := [.lit (.bool true)], args := [d1, d2] }
  | _ => none }
def cellRowRow : OpenClaim := { program := "ytelofaceadlfmaa", sum := "29ef2d29ae7347da384c4e4435cf43cfa7e36a9d5e787602e0066be7b9e361a3", func := "reprise/repriselaw10.CellRow", spec := "cellRow", inPlace := ["math.Float64frombits", "math.Float64bits"], unfollowed := true, recurses := true, apart := false }
def CellRowSaid : Prop := cellRowRow.holds Try.pinned (OpenSpec.ofChange cellRowSpec)

/-- ITS FALSE NEIGHBOUR: 'it returns false'. Refute it at one input. -/
def cellRowWrong : ChangeSpec := { name := "cellRow", fn := fun _ => fun
  | [d1, d2] => { results := [.lit (.bool false)], args := [d1, d2] }
  | _ => none }
def CellRowWrongFalsely : Prop := cellRowRow.holds Try.pinned (OpenSpec.ofChange cellRowWrong)

/-- 'repriselaw10.CellOver': WHATEVER THE INPUT: true; the input reads as it did. -/
def cellOverSpec : ChangeSpec := { name := "cellOver", fn := fun _ => fun
  | [d1, d2, d3] => { results := [.lit (.bool true)], args := [d1, d2, d3] }
  | _ => none }
def cellOverRow : OpenClaim := { program := "ytelofaceadlfmaa", sum := "29ef2d29ae7347da384c4e4435cf43cfa7e36a9d5e787602e0066be7b9e361a3", func := "reprise/repriselaw10.CellOver", spec := "cellOver", inPlace := ["math.Float64frombits", "math.Float64bits"], unfollowed := true, recurses := true, apart := false }
def CellOverSaid : Prop := cellOverRow.holds Try.pinned (OpenSpec.ofChange cellOverSpec)

/-- ITS FALSE NEIGHBOUR: 'it returns false'. Refute it at one input. -/
def cellOverWrong : ChangeSpec := { name := "cellOver", fn := fun _ => fun
  | [d1, d2, d3] => { results := [.lit (.bool false)], args := [d1, d2, d3] }
  | _ => none }
def CellOverWrongFalsely : Prop := cellOverRow.holds Try.pinned (OpenSpec.ofChange cellOverWrong)

/- THE SECOND FORM. 'bulk': how many values and letters a reading holds, each counted each time it is reached (what is shared counts as often as it is met; a slice's spare places count too). A statement '..UptoSaid' is the law's where the arguments, and the package variables that the reading takes, are together of bulk at most 1048576: NARROWER than '..Said'. Prove '..Said' where nothing that the law and all that it calls make is longer than what came in: it says more and counts as full. Else prove '..UptoSaid'. A law counts once. -/
mutual
def uptoBulk {H : Type} : DataW H → Nat
  | .lit (.string bytes) => bytes.length + 1
  | .lit _ => 1
  | .nil => 1
  | .ptr d => uptoBulk d + 1
  | .slice elems spare => uptoBulkAll elems + uptoBulkAll spare + 1
  | .agg parts => uptoBulkAll parts + 1
  | .iface _ d => uptoBulk d + 1
  | .map entries => uptoBulkEntries entries + 1
  | .held _ => 1
def uptoBulkAll {H : Type} : List (DataW H) → Nat
  | [] => 0
  | d :: r => uptoBulk d + uptoBulkAll r
def uptoBulkEntries {H : Type} : List (Lit × DataW H) → Nat
  | [] => 0
  | x :: r => uptoBulkEntry x + uptoBulkEntries r
def uptoBulkEntry {H : Type} : Lit × DataW H → Nat
  | (.string bytes, d) => bytes.length + uptoBulk d + 1
  | (_, d) => uptoBulk d + 1
 end
def uptoSmall : (H : Type) → List (DataW H) → Bool := fun _ ds => decide (uptoBulkAll ds ≤ 1048576)
def OpenSpec.upto (s : _root_.Go.ChangeSpec) : _root_.Go.OpenSpec := { _root_.Go.OpenSpec.ofChange s with cond := some uptoSmall }

/-- 'repriselaw10.CellExact', WHERE WHAT IT READS IS OF BULK AT MOST 1048576: true; the input reads as it did. -/
def cellExactUptoRow : OpenClaim := { program := "ytelofaceadlfmaa", sum := "29ef2d29ae7347da384c4e4435cf43cfa7e36a9d5e787602e0066be7b9e361a3", func := "reprise/repriselaw10.CellExact", spec := "cellExact", inPlace := ["math.Float64frombits", "math.Float64bits"], unfollowed := true, recurses := true, apart := false, narrowed := true }
def CellExactUptoSaid : Prop := cellExactUptoRow.holds Try.pinned (OpenSpec.upto cellExactSpec)

/-- 'repriselaw10.CellAgain', WHERE WHAT IT READS IS OF BULK AT MOST 1048576: true; the input reads as it did. -/
def cellAgainUptoRow : OpenClaim := { program := "ytelofaceadlfmaa", sum := "29ef2d29ae7347da384c4e4435cf43cfa7e36a9d5e787602e0066be7b9e361a3", func := "reprise/repriselaw10.CellAgain", spec := "cellAgain", inPlace := ["math.Float64frombits", "math.Float64bits"], unfollowed := true, recurses := true, apart := false, narrowed := true }
def CellAgainUptoSaid : Prop := cellAgainUptoRow.holds Try.pinned (OpenSpec.upto cellAgainSpec)

/-- 'repriselaw10.CellReverts', WHERE WHAT IT READS IS OF BULK AT MOST 1048576: true; the input reads as it did. -/
def cellRevertsUptoRow : OpenClaim := { program := "ytelofaceadlfmaa", sum := "29ef2d29ae7347da384c4e4435cf43cfa7e36a9d5e787602e0066be7b9e361a3", func := "reprise/repriselaw10.CellReverts", spec := "cellReverts", inPlace := ["math.Float64frombits", "math.Float64bits"], unfollowed := true, recurses := true, apart := false, narrowed := true }
def CellRevertsUptoSaid : Prop := cellRevertsUptoRow.holds Try.pinned (OpenSpec.upto cellRevertsSpec)

/-- 'repriselaw10.CellRow', WHERE WHAT IT READS IS OF BULK AT MOST 1048576: true; the input reads as it did. -/
def cellRowUptoRow : OpenClaim := { program := "ytelofaceadlfmaa", sum := "29ef2d29ae7347da384c4e4435cf43cfa7e36a9d5e787602e0066be7b9e361a3", func := "reprise/repriselaw10.CellRow", spec := "cellRow", inPlace := ["math.Float64frombits", "math.Float64bits"], unfollowed := true, recurses := true, apart := false, narrowed := true }
def CellRowUptoSaid : Prop := cellRowUptoRow.holds Try.pinned (OpenSpec.upto cellRowSpec)

/-- 'repriselaw10.CellOver', WHERE WHAT IT READS IS OF BULK AT MOST 1048576: true; the input reads as it did. -/
def cellOverUptoRow : OpenClaim := { program := "ytelofaceadlfmaa", sum := "29ef2d29ae7347da384c4e4435cf43cfa7e36a9d5e787602e0066be7b9e361a3", func := "reprise/repriselaw10.CellOver", spec := "cellOver", inPlace := ["math.Float64frombits", "math.Float64bits"], unfollowed := true, recurses := true, apart := false, narrowed := true }
def CellOverUptoSaid : Prop := cellOverUptoRow.holds Try.pinned (OpenSpec.upto cellOverSpec)

end Rows
end Go.Proofs.Ytelofaceadlfmaa
